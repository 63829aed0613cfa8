/- ledgerlaw3.BatchCuts: the walk. (printed by gen_cuts.py) -/
import Derived.Test.YtkpbeibcfaenhaaCutsN
import Derived.Test.YtkpbeibcfaenhaaSameC
import Derived.Deep.DeepAppendWide
namespace Go.Proofs.Ytkpbeibcfaenhaa
open Go.RowKit
/-- The load of a struct under a guard that holds. -/
theorem loadRangeG {P : Program} {ops : Array Oper} {rest : List Oper} {o : Oper} {a : Act} {w : World} {Q : Exit → Act → World → Prop} (hw : Region.wanted o (yielded ops a.tmps) = true) (ty : TypeId) (x : Operand) (ho : o.op = .load ty x)
    (g off : Nat) (cs : List Value) (hx : a.eval x = .pointer (some ⟨g, off, none⟩)) (hc : w.rangeAt g off cs) (hrow : (P.underlying ty).map (·.isRow) = some true) (hi : (P.info? ty).map (·.size) = some cs.length)
    (h : wpList P ops Q rest (a.put o.dst (.agg cs.toArray)) w) : wpList P ops Q (o :: rest) a w := by
  refine wpList_step fun K hK => ?_
  rw [if_pos hw]
  obtain ⟨d, hu, hd⟩ := row_of hrow
  have hlv := run_loadVar_mid (P := P) w g off ty cs d hc hu hd hi
  unfold Oper.wp execOp
  simp only [ho, hx, Instr.loadAt, Instr.sureAddr, Sem.run_bind, Sem.run_pure, Result.andThen_ok, hlv]
  exact hK _ _ h
/-- 'l = append(l, x)' of one byte, a long list. -/
theorem append1W {P : Program} {t e : TypeId} (ht : P.underlying t = some (.slice e)) (hinfo : (P.info? e).map (fun i => (i.zero, i.size, i.bytes)) = some (some (.int .u8 0), 1, 1))
    {ops : Array Oper} {rest : List Oper} {o : Oper} {a : Act} {Q : Exit → Act → World → Prop} (w : World) (hgd : o.guard = none) (s x : Operand)
    (ho : o.op = .call { callee := .builtin .append, args := #[s, x], argTypes := #[t, t] })
    (base : Nat) (v : Value) (xs : List Nat) (hown : Own e w base v xs) (b : Nat) (hb : b < 256) (hs : a.eval s = v) (hx : a.eval x = .slice (some ⟨w.heap.size, 0, none⟩) 1 1)
    (hlen : xs.length + 1 ≤ 200000000000000) (hbase : base ≤ w.heap.size)
    (h : ∀ v' w', Own e w' base v' (xs ++ [b]) → w.grownBy w' v.ownBlock → wpList P ops Q rest (a.put o.dst v') w') :
    wpList P ops Q (o :: rest) a (w.alloc (.cells #[.int .u8 (b : Int)] e)) := by
  obtain ⟨i, hi, hz0, hz1, hz2⟩ := info_parts hinfo
  refine wpList_append_own_wide (w.alloc (.cells #[.int .u8 (b : Int)] e)) hgd s x t ho base e i (.int .u8 0) 1 1 ht hi hz0 hz1 hz2 rfl (by decide) v xs.length (bvs xs) hs (hown.1.alloc _)
    ⟨w.heap.size, 0, none⟩ 1 1 (bvs [b]) hx rfl (cell_one_new w (.int .u8 (b : Int)) e) ?_ (by unfold maxLen; omega) (by omega) (by simp; omega) ?_
  · intro u hu
    simp [bvs, bv] at hu
    subst hu
    rfl
  · intro v' w' h1 h2 _
    exact h v' w' ⟨by simpa [bvs] using h1, hown.2.app (IsB.one hb)⟩ (grown_trans (World.grownBy_alloc _ _ _) h2)
set_option maxRecDepth 100000 in
theorem length_any (x : Chg) (A : Option Addr) (C : Nat) (w : World) (hk : x.key.length = 32) (hl : x.val.length ≤ 4611686018427387904) :
    Calls Try.prog 28 #[.agg (chC x A C).toArray] w fun e w' => e = .returned (.int .i64 ((chB x).length : Nat)) ∧ Below w.heap.size w w' := by
  have HL := Lib.hid (chB_len hk)
  have HK := Lib.hid hk
  obtain ⟨ky, dl, vl⟩ := x
  clear hk
  go_enter Try.func28, Try.ntmps28
  cases dl
  · simp only at hl
    go_wp2_with ((with_reducible refine stopAt (o := ⟨some 1, _, _, _, _, _⟩) ?_); refine boxNew (o := ⟨some 1, _, _, _, _, _⟩) (by rfl) 45 (.tmp 0) rfl _ rfl ?_; intro w1 HA1 HW1 HS1; have b1 : w1.cell? ⟨w.heap.size, 32, none⟩ = some (.bool false) := (by have h := ch_del (BlkIs.range HA1.out) HK.out; rwa [Nat.zero_add] at h); have b2 : w1.cell? ⟨w.heap.size, 33, none⟩ = some (.slice A vl.length C) := (by have h := ch_val (BlkIs.range HA1.out) HK.out; rwa [Nat.zero_add] at h))
    go_ret
    exact ⟨by rw [HL.out]; simp, HW1.out⟩
  · go_wp2_with ((with_reducible refine stopAt (o := ⟨some 1, _, _, _, _, _⟩) ?_); refine boxNew (o := ⟨some 1, _, _, _, _, _⟩) (by rfl) 45 (.tmp 0) rfl _ rfl ?_; intro w1 HA1 HW1 HS1; have b1 : w1.cell? ⟨w.heap.size, 32, none⟩ = some (.bool true) := (by have h := ch_del (BlkIs.range HA1.out) HK.out; rwa [Nat.zero_add] at h))
    go_ret
    exact ⟨by rw [HL.out]; rfl, HW1.out⟩
set_option maxRecDepth 100000 in
set_option maxHeartbeats 4000000 in
theorem cuts_walk (A : Option Addr) (N c : Nat) (X : Nat → Chg) (B : Option Addr) (m0 d : Nat) (tail : List Nat) (w : World) (hx : ChsAt w A N X) (hN : N * 64 ≤ 140737488355328) (hv : ∀ k, k < N → (X k).val.length ≤ 140737488355328) (hb : RB w B m0 tail) (hm : m0 ≤ 140737488351232) :
    Calls Try.prog 6 #[.slice A N c, .slice B m0 d] w fun e w' => e = .returned (.bool true) ∧ Below w.heap.size w w' := by
  have HX := Lib.hid hx
  have HTL := Lib.hid hb
  have HV := Lib.hid hv
  have HOKR : Hid (rightB X N 64 = true → ∀ i, i < N → ChOk (X i)) := fun hr i hi => by
    obtain ⟨_, _, _, _, _, _, _, h4, h5, h6, _⟩ := hx.2 i hi
    exact ⟨h4, h5, h6.isB, anyLong_not (heldN_le (rightB_iff.1 hr).1).2 hi⟩
  clear hx hv hb
  go_enter Try.func6, Try.ntmps6
  go_wp2_with fail
  refine (right_any A N c 64 X w HX.out (by omega)).mono ?_
  rintro e w1 ⟨rfl, q, hq⟩
  have HB1 : Hid (Below w.heap.size w w1) := by rw [hq]; exact drewN_below (Below.refl _ _) q
  clear hq
  cases hr : rightB X N 64
  · clear hr
    go_wp2_with fail
    go_ret
    exact ⟨rfl, HB1.out⟩
  have HOK := Lib.hid (HOKR.out hr)
  have hri := rightB_iff.1 hr
  have HN := Lib.hid (heldN_le hri.1).1
  have hn64 := HN.out
  have hE0 : buildE X N = 0 := by
    unfold buildE
    rw [if_pos hri.1, if_neg (by omega)]
  have HE0 := Lib.hid hE0
  have HPL := Lib.hid (parse_lay HN.out HOK.out hri.2)
  clear HOKR hr hri hE0
  go_wp2_with fail
  refine (copyChanges_any A N c X w1 (HX.out.below HB1.out) hN HV.out).mono ?_
  rintro e w2 ⟨v26, Ad, Cp, rfl, ho, hb⟩
  obtain ⟨A1, C1, hv26, hch, _⟩ := ho.form
  subst hv26
  have HB2 := Lib.hid (HB1.out.trans (hb.mono HB1.out.size))
  have HC2 := Lib.hid hch
  clear ho hb hch
  go_wp2_with fail
  refine (build_any A1 N C1 X w2 HC2.out).mono ?_
  rintro e w3 ⟨v5, rfl, hb, hy, _⟩
  have ho := hy HE0.out
  rw [show ((buildE X N : Nat) : Int) = 0 by rw [HE0.out]; rfl]
  have hRL : (layN X N).length = 2 + (layF X N).length := by unfold layN; simp; omega
  have HRL := Lib.hid hRL
  obtain ⟨A5, C5, hv5, hr5, _, _, hle5⟩ := ho.form
  subst hv5
  obtain ⟨ad5, hA5, _⟩ := hr5.2.2 (by omega)
  subst hA5
  have HB3 := Lib.hid (HB2.out.trans (hb.mono HB2.out.size))
  have HR3 := Lib.hid hr5
  clear ho hb hy hr5 hRL
  go_wp2_with fail
  refine (parse_any (some ad5) (layN X N).length C5 (layN X N) w3 HR3.out hle5).mono ?_
  rintro e w4 ⟨v7, rfl, hb, _, _⟩
  rw [show (parseE (layN X N)).2 = 0 by rw [HPL.out], show (((parseE (layN X N)).1 : Nat) : Int) = 0 by rw [HPL.out]; rfl]
  have HB4 := Lib.hid (HB3.out.trans (hb.mono HB3.out.size))
  have HR4 := Lib.hid (HR3.out.below hb)
  clear hb
  have hrl2 : 2 ≤ (layN X N).length := by have := HRL.out; omega
  have hrl2' : ¬ (((layN X N).length : Nat) : Int) < 2 := by omega
  have hrlm : (layN X N).length ≤ 20000 := by
    have h1 := layF_length (X := X) (n := N) (fun i hi => (HOK.out i hi).kl) (by
      have key : ∀ k, k ≤ N → anyLong X k = false := fun k => by
        induction k with
        | zero => intro _; rfl
        | succ k ih => intro hk; rw [anyLong, ih (by omega), (HOK.out k (by omega)).ok]; rfl
      exact key N (Nat.le_refl _))
    have h2 : N * 163 ≤ 64 * 163 := Nat.mul_le_mul_right _ HN.out
    have := HRL.out
    omega
  generalize hrl : (layN X N).length = rl at *
  have HRE := Lib.hid hrl
  clear hrl
  go_wp2_with fail
  go_loopw [10, 11, 12] (fun at_ iv mv wr => ∃ i m : Nat, m ≤ rl ∧ i ≤ N ∧ at_ = .int .i64 ((2 + (layF X i).length : Nat) : Int) ∧ iv = .int .i64 i ∧ mv = .int .i64 m ∧ (i = 0 ∨ 2 + (layF X i).length ≤ m) ∧ Hid (RB wr (some ad5) rl (layN X N)) ∧ Hid (Below w.heap.size w wr)) (fun _ _ mv _ => rl - (intOf mv).toNat)
  case atStart => exact ⟨0, 0, by omega, by omega, rfl, rfl, rfl, .inl rfl, HR4.out, HB4.out⟩
  case round =>
    clear HR4 HB4 HR3 HB3
    obtain ⟨i0, m, hm1, hi0, rfl, rfl, rfl, hat0, HRW0, HB0⟩ := hrel
    by_cases hmr : m < rl
    · have hmr' : (m : Int) < rl := by omega
      have hmC : m ≤ C5 := by omega
      have hmC' : (m : Int) ≤ C5 := by omega
      go_wp2_with fail
      go_loopw [10, 11] (fun at_ iv wr => ∃ i : Nat, i ≤ N ∧ at_ = .int .i64 ((2 + (layF X i).length : Nat) : Int) ∧ iv = .int .i64 i ∧ (i = 0 ∨ 2 + (layF X i).length ≤ m) ∧ Hid (RB wr (some ad5) rl (layN X N)) ∧ Hid (Below w.heap.size w wr)) (fun _ iv _ => N - (intOf iv).toNat)
      case atStart => exact ⟨i0, hi0, rfl, rfl, hat0, HRW0.out, HB0.out⟩
      case round =>
        clear HRW0 HB0 hat0
        obtain ⟨i, hi1, rfl, rfl, hat, HRW, HB⟩ := hrel
        obtain ⟨w3, rfl⟩ : ∃ w3, w3 = wr := ⟨_, rfl⟩
        by_cases hi : i < N
        · obtain ⟨b, o, Av, Cv, rfl, hbb, hr, hkB, hkl, hvr, _⟩ := HX.out.2 i hi
          have hi' : (i : Int) < N := by omega
          have HR : Hid (∀ W, Below w.heap.size w W → W.rangeAt b (o + i * 34) (chC (X i) Av Cv)) := fun W hW => range_below hW hbb hr
          have hsz : (Try.prog.info? 45).map (·.size) = some (chC (X i) Av Cv).length := by rw [size_chg, chC_length hkl]
          have HLN : Hid ((layF X (i + 1)).length = (layF X i).length + (chB (X i)).length) := by show _ = _; rw [layF, List.length_append]
          have HLA : Hid (∀ W, Calls Try.prog 28 #[.agg (chC (X i) Av Cv).toArray] W fun e w' => e = .returned (.int .i64 ((chB (X i)).length : Nat)) ∧ Below W.heap.size W w') := fun W => length_any (X i) Av Cv W hkl (by have := HV.out i hi; omega)
          clear hr hkB hkl hvr
          go_wp2_with ((with_reducible refine stopAt (o := ⟨some 63, _, _, _, _, _⟩) ?_); refine loadRangeG (o := ⟨some 63, _, _, _, _, _⟩) (by kernel_rfl) 45 (.tmp 62) rfl b (o + i * 34) _ rfl (HR.out w3 HB.out) row_chg hsz ?_)
          refine (HLA.out _).mono ?_
          rintro e w4 ⟨rfl, hb⟩
          have HRW4 := Lib.hid (HRW.out.below hb)
          have HB4 := Lib.hid (HB.out.trans (hb.mono HB.out.size))
          clear hb HRW HB
          have hmono : (layF X (i + 1)).length ≤ (layF X N).length := layF_mono X (by omega)
          have hbl : (layF X (i + 1)).length ≤ 20000 := by have := HRL.out; omega
          have hb1 : (layF X i).length ≤ 20000 := by have := HLN.out; omega
          have hb2 : (chB (X i)).length ≤ 20000 := by have := HLN.out; omega
          clear hmono hbl
          by_cases hge : 2 + (layF X (i + 1)).length ≤ m
          · have hge' : ((2 + (layF X i).length : Nat) : Int) + ((chB (X i)).length : Int) ≤ (m : Int) := by have := HLN.out; omega
            go_wp2_with ((with_reducible refine stopAt (o := ⟨some 72, _, _, _, _, _⟩) ?_); refine loadRange (o := ⟨some 72, _, _, _, _, _⟩) (by rfl) 45 (.tmp 71) rfl b (o + i * 34) _ rfl (HR.out w4 HB4.out) row_chg hsz ?_)
            refine (HLA.out _).mono ?_
            rintro e w5 ⟨rfl, hb⟩
            have HRW5 := Lib.hid (HRW4.out.below hb)
            have HB5 := Lib.hid (HB4.out.trans (hb.mono HB4.out.size))
            clear hb HRW4 HB4
            go_wp2_with fail
            go_roundw
            case rel => exact ⟨i + 1, by omega, by have := HLN.out; congr 1; omega, by go_num, .inr hge, HRW5.out, HB5.out⟩
            case measure => simp [intOf]; omega
          · have hge' : ¬ ((2 + (layF X i).length : Nat) : Int) + ((chB (X i)).length : Int) ≤ (m : Int) := by have := HLN.out; omega
            have hge2 : (m : Int) < 2 + ((layF X i).length : Int) + ((chB (X i)).length : Int) := by have := HLN.out; omega
            have hge3 : decide (2 + ((layF X i).length : Int) + ((chB (X i)).length : Int) ≤ (m : Int)) = false := decide_eq_false (by omega)
            have HRW := HRW4
            have HB := HB4
            clear HRW4 HB4
            obtain ⟨w3', hw3⟩ : ∃ w3', w3' = w4 := ⟨_, rfl⟩
            rw [← hw3] at HRW HB ⊢
            clear hw3 HR HLA hsz
            by_cases hm2 : m < 2
            · have HPE : Hid (parseE ((layN X N).take m) = (30, 0)) := parse_head (by rw [List.length_take]; omega)
              have hm2' : (m : Int) < 2 := by omega
              have hm2'' : ¬ (2 : Int) ≤ (m : Int) := by omega
              go_wp2_with fail
              refine (parse_any (some ad5) m C5 ((layN X N).take m) w3' (HRW.out.take (k := m) (by omega)) hmC).mono ?_
              rintro e w6 ⟨v13, rfl, hb, hno, _⟩
              rw [HPE.out] at hno ⊢
              have hv := hno (by simp)
              subst hv
              have HR6 := Lib.hid (HRW.out.below hb)
              have HB6 := Lib.hid (HB.out.trans (hb.mono HB.out.size))
              clear hb hno
              go_wp2_with fail
              go_roundw
              case rel => exact ⟨i, m + 1, by omega, by omega, rfl, rfl, by go_num, by omega, HR6.out, HB6.out⟩
              case measure => simp [intOf]; omega
            · have HPE : Hid (parseE ((layN X N).take m) = (30, (i : Int))) := by
                have hat2 : 2 + (layF X i).length ≤ m := by
                  rcases hat with h | h
                  · subst h
                    exact (show 2 + 0 ≤ m by omega)
                  · exact h
                have h := parse_cut (X := X) (n := N) (i := i) (q := m - (2 + (layF X i).length)) HN.out HOK.out hi (by have := HLN.out; omega)
                rwa [show 2 + (layF X i).length + (m - (2 + (layF X i).length)) = m by omega] at h
              have hm2' : ¬ (m : Int) < 2 := by omega
              have hm2'' : (2 : Int) ≤ (m : Int) := by omega
              go_wp2_with fail
              refine (parse_any (some ad5) m C5 ((layN X N).take m) w3' (HRW.out.take (k := m) (by omega)) hmC).mono ?_
              rintro e w6 ⟨v13, rfl, hb, hno, _⟩
              rw [HPE.out] at hno ⊢
              have hv := hno (by simp)
              subst hv
              have HR6 := Lib.hid (HRW.out.below hb)
              have HB6 := Lib.hid (HB.out.trans (hb.mono HB.out.size))
              clear hb hno
              go_wp2_with fail
              go_roundw
              case rel => exact ⟨i, m + 1, by omega, by omega, rfl, rfl, by go_num, by omega, HR6.out, HB6.out⟩
              case measure => simp [intOf]; omega
        · have hi' : ¬ (i : Int) < N := by omega
          obtain rfl : N = i := by omega
          by_cases hm2 : m < 2
          · have HPE : Hid (parseE ((layN X N).take m) = (30, 0)) := parse_head (by rw [List.length_take]; omega)
            have hm2' : (m : Int) < 2 := by omega
            have hm2'' : ¬ (2 : Int) ≤ (m : Int) := by omega
            go_wp2_with fail
            refine (parse_any (some ad5) m C5 ((layN X N).take m) w3 (HRW.out.take (k := m) (by omega)) hmC).mono ?_
            rintro e w6 ⟨v13, rfl, hb, hno, _⟩
            rw [HPE.out] at hno ⊢
            have hv := hno (by simp)
            subst hv
            have HR6 := Lib.hid (HRW.out.below hb)
            have HB6 := Lib.hid (HB.out.trans (hb.mono HB.out.size))
            clear hb hno
            go_wp2_with fail
            go_roundw
            case rel => exact ⟨N, m + 1, by omega, by omega, rfl, rfl, by go_num, by omega, HR6.out, HB6.out⟩
            case measure => simp [intOf]; omega
          · exfalso
            have := HRL.out
            have h0 : layF X 0 = [] := rfl
            rcases hat with h | h
            · subst h
              rw [h0] at this
              simp at this
              omega
            · omega
    · have hmr' : ¬ (m : Int) < rl := by omega
      obtain ⟨w4, hw4⟩ : ∃ w4, w4 = wr := ⟨_, rfl⟩
      rw [← hw4] at HRW0 HB0 ⊢
      clear hw4
      by_cases ht0 : m0 = 0
      · have ht0' : ((m0 : Int) == 0) = true := by simpa using ht0
        go_wp2_with fail
        go_ret
        exact ⟨rfl, HB0.out⟩
      · have ht0' : ((m0 : Int) == 0) = false := by simpa using ht0
        go_wp2_with fail
        refine (copyBytes_any (some ad5) rl C5 (layN X N) w4 HRW0.out (by omega)).mono ?_
        rintro e w5 ⟨v16, rfl, ho, hb⟩
        have HO5 : Hid (OwnU w5 w.heap.size v16 (layN X N ++ tail.take 0)) := by
          rw [List.take_zero, List.append_nil]
          exact ho.mono HB0.out.size
        have HB5 := Lib.hid (HB0.out.trans (hb.mono HB0.out.size))
        clear ho hb
        go_wp2_with fail
        go_loopw [16, 17] (fun v j wr => ∃ k : Nat, k ≤ m0 ∧ j = .int .i64 k ∧ Hid (OwnU wr w.heap.size v (layN X N ++ tail.take k)) ∧ Hid (Below w.heap.size w wr)) (fun _ j _ => m0 - (intOf j).toNat)
        case atStart => exact ⟨0, by omega, rfl, HO5.out, HB5.out⟩
        case round =>
          clear HO5 HB5 HRW0 HB0
          obtain ⟨k, hk, rfl, HO, HB⟩ := hrel
          have hlt0 := HTL.out.1
          by_cases hkt : k < m0
          · obtain ⟨ad, rfl, hbb, hcell⟩ := HTL.out.at_ hkt
            have hc := cell_later hbb HB.out hcell
            have hlt8 : tail.getD k 0 < 256 := HTL.out.lt hkt
            have HT := Lib.hid (take_succ_getD (show k < tail.length by omega))
            have hl2 : (layN X N ++ tail.take k).length + 1 ≤ 200000000000000 := by rw [List.length_append, List.length_take, HRE.out]; omega
            have hkt' : (k : Int) < m0 := by omega
            clear hcell hlt0
            generalize tail.getD k 0 = y at *
            go_wp2_with (at_builtin; refine append1W und_bytes info_byte wr rfl (.tmp 120) (.tmp 125) rfl w.heap.size _ (layN X N ++ tail.take k) HO.out y hlt8 rfl rfl hl2 HB.out.size ?_; intro v' w6 hown1 hgrow1)
            have hb1 := HB.out.grown hgrow1 HB.out.size HO.out.ge
            go_roundw
            case rel => exact ⟨k + 1, by omega, by go_num, by show OwnU _ _ _ _; rw [HT.out, ← List.append_assoc]; exact hown1, hb1⟩
            case measure => simp [intOf]; omega
          · have hkt' : ¬ (k : Int) < m0 := by omega
            have HO6 : Hid (OwnU wr w.heap.size u16 (layN X N ++ tail)) := by
              have h := HO.out
              rwa [List.take_of_length_le (by omega)] at h
            have HPM := Lib.hid (parse_more HN.out HOK.out (t := tail) (by omega))
            obtain ⟨LT, hLT⟩ : ∃ LT, layN X N ++ tail = LT := ⟨_, rfl⟩
            rw [hLT] at HO6 HPM
            obtain ⟨A6, C6, hv6, hr6, _, _, hle6⟩ := HO6.out.form
            subst hv6
            have HR6 := Lib.hid hr6
            clear hr6 HO HO6 hlt0 hLT
            go_wp2_with fail
            refine (parse_any A6 LT.length C6 LT wr HR6.out hle6).mono ?_
            rintro e w7 ⟨v18, rfl, hb, hno, _⟩
            rw [HPM.out] at hno ⊢
            have hv := hno (by simp)
            subst hv
            have HB7 := Lib.hid (HB.out.trans (hb.mono HB.out.size))
            clear hb hno
            go_wp2_with fail
            go_ret
            exact ⟨rfl, HB7.out⟩
end Go.Proofs.Ytkpbeibcfaenhaa
