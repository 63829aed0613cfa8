/- ledgerref3.two, laid, Build. -/
import Derived.Test.YtkpbeibcfaenhaaWrong
import Derived.Test.YtkpbeibcfaenhaaBuild
import Derived.StillTailTactics
namespace Go.Proofs.Ytkpbeibcfaenhaa
open Go.RowKit
set_option maxHeartbeats 400000 in
theorem two_any (n : Nat) (w : World) (hn : n < 65536) :
    Calls Try.prog 100 #[.int .i64 (n : Int)] w (OwnRet w [n % 256, n / 256 % 256]) := by
  have h1 : IntKind.u8.wrap ((n : Int) % 256) = ((n % 256 : Nat) : Int) := by rw [IntKind.wrap_u8]; omega
  have h2 : IntKind.u8.wrap ((n : Int) / 256) = ((n / 256 % 256 : Nat) : Int) := by rw [IntKind.wrap_u8]; omega
  have H1 : n % 256 < 256 := by omega
  have H2 : n / 256 % 256 < 256 := by omega
  generalize n % 256 = a at *
  generalize n / 256 % 256 = b at *
  go_enter Try.func100, Try.ntmps100
  go_wp2_with fail
  go_ret
  exact ⟨_, rfl, own_two a b H1 H2, (Below.refl _ _).alloc (Nat.le_refl _) _⟩
section
variable {P : Program}
theorem wpOp_appendB {t e : TypeId} (ht : P.underlying t = some (.slice e)) (hinfo : (P.info? e).map (fun i => (i.zero, i.size, i.bytes)) = some (some (.int .u8 0), 1, 1))
    {ops : Array Oper} {Q : Exit → Act → World → Prop} {K : Act → World → Prop} {o : Oper} {a : Act} (hw : Region.wanted o (yielded ops a.tmps) = true) (w : World) (s x : Operand) (ho : o.op = .call { callee := .builtin .append, args := #[s, x], argTypes := #[t, t] })
    (base : Nat) (v : Value) (xs : List Nat) (hown : Own e w base v xs) (ad : Addr) (m c : Nat) (ys : List Nat) (hr : RB w (some ad) m ys) (hs : a.eval s = v) (hx : a.eval x = .slice (some ad) m c)
    (hlen : xs.length + m ≤ 140737488355328) (hbase : base ≤ w.heap.size)
    (h : ∀ v' w', Own e w' base v' (xs ++ ys) → w.grownBy w' v.ownBlock → K (a.put o.dst v') w') :
    if Region.wanted o (yielded ops a.tmps) = true then o.wp P a w K Q else K (a.put o.dst undef) w := by
  obtain ⟨i, hi, hz, hs1, hby⟩ := info_parts hinfo
  obtain ⟨v', w', hrun, h1, h2, _⟩ := run_append_own_at (P := P) w base t o.type e i (.int .u8 0) 1 1 ht hi hz hs1 hby rfl (by decide) v xs.length (bvs xs) hown.1
    ad m c (bvs ys) (by simp [bvs, hr.1]) (fun j u hj => by
      simp only [bvs, List.getElem?_map, Option.map_eq_some_iff] at hj
      obtain ⟨z, hz, rfl⟩ := hj
      have hjm : j < ys.length := by
        rcases Nat.lt_or_ge j ys.length with h | h
        · exact h
        · rw [List.getElem?_eq_none h] at hz; cases hz
      obtain ⟨ad', e', _, hc⟩ := hr.2.2 (by have := hr.1; omega)
      injection e' with e'
      subst e'
      exact hc j z hz) (bvs_oneCell ys) (by unfold maxLen; omega) (by omega) hbase
  rw [if_pos hw]
  unfold Oper.wp execOp
  simp only [ho, resolve, invoke, builtin, Sem.run_bind, Sem.run_pure, Result.andThen_ok, List.map_toArray, List.map_cons, List.map_nil, hs, hx, hrun]
  exact h v' w' ⟨by rw [List.length_append, hr.1]; simpa [bvs] using h1, hown.2.app hr.2.1⟩ h2
end
/-- What a walk reads of the change of number k. -/
def ChKey (w : World) (b o : Nat) (x : Chg) (Av : Option Addr) (Cv : Nat) : Prop := ∀ W, Below w.heap.size w W →
  (∀ j, j < 32 → W.cell? ⟨b, o + j, none⟩ = some (.int .u8 (x.key.getD j 0 : Nat))) ∧ W.cell? ⟨b, o + 32, none⟩ = some (.bool x.del) ∧ W.cell? ⟨b, o + 33, none⟩ = some (.slice Av x.val.length Cv) ∧ RB W Av x.val.length x.val
theorem ChKey.of {w : World} {b o : Nat} {x : Chg} {Av : Option Addr} {Cv : Nat} (hb : b < w.heap.size) (hr : w.rangeAt b o (chC x Av Cv)) (hk : x.key.length = 32) (hv : RB w Av x.val.length x.val) : ChKey w b o x Av Cv := fun W hW => by
  have h2 := range_below hW hb hr
  refine ⟨fun j hj => ?_, ch_del h2 hk, ch_val h2 hk, hv.below hW⟩
  exact ch_key h2 j _ (by simp [bvs, bv, List.getD, List.getElem?_eq_getElem (show j < x.key.length by omega)])
set_option maxRecDepth 100000 in
set_option maxHeartbeats 4000000 in
theorem laid_any (A : Option Addr) (N c : Nat) (X : Nat → Chg) (w : World) (hx : ChsAt w A N X) (h0 : heldN X N 64 = 0) :
    Calls Try.prog 96 #[.slice A N c] w (OwnRet w (layN X N)) := by
  have HX := Lib.hid hx
  have hN64 := (heldN_le h0).1
  have HLO := Lib.hid (heldN_le h0).2
  clear hx h0
  have HKL : Hid (∀ i, i < N → (X i).key.length = 32) := fun i hi => by
    obtain ⟨_, _, _, _, _, _, _, _, h, _⟩ := HX.out.2 i hi
    exact h
  have HLL : Hid (∀ k, k ≤ N → (layP X N k).length ≤ 20000) := fun k hk => by
    have h1 := layF_length (X := X) (n := k) (fun i hi => HKL.out i (by omega)) (by
      cases h : anyLong X k with
      | false => rfl
      | true =>
        have h2 := HLO.out
        have : ∀ n, k ≤ n → anyLong X n = true := fun n hn => by
          induction n with
          | zero => rw [show k = 0 by omega] at h; exact h
          | succ n ih =>
            by_cases e : k = n + 1
            · rw [← e]; exact h
            · rw [anyLong, ih (by omega), Bool.true_or]
        rw [this N hk] at h2
        cases h2)
    unfold layP
    simp only [List.length_cons]
    have : k * 163 ≤ 64 * 163 := Nat.mul_le_mul_right _ (by omega)
    omega
  go_enter Try.func96, Try.ntmps96
  go_wp2_with fail
  refine (two_any N w (by omega)).mono ?_
  rintro e w1 ⟨v1, rfl, ho1, hb1⟩
  have HO1 : Hid (OwnU w1 w.heap.size v1 (layP X N 0)) := ho1
  have HB1 := Lib.hid hb1
  clear ho1 hb1
  go_wp2_with fail
  go_loopw [3, 4] (fun u i wr => ∃ k : Nat, k ≤ N ∧ i = .int .i64 k ∧ Hid (OwnU wr w.heap.size u (layP X N k)) ∧ Hid (Below w.heap.size w wr)) (fun _ i _ => N - (intOf i).toNat)
  case atStart => exact ⟨0, by omega, rfl, HO1.out, HB1.out⟩
  case round =>
    clear HO1 HB1
    obtain ⟨k, hk, rfl, HO, HB⟩ := hrel
    obtain ⟨w2, rfl⟩ : ∃ w2, w2 = wr := ⟨_, rfl⟩
    by_cases hlt : k < N
    · obtain ⟨b, o, Av, Cv, rfl, hb, hr, hkB, hkl, hvr, hvC, hCm, hnil⟩ := HX.out.2 k hlt
      have hlt' : (k : Int) < N := by omega
      have HKK := Lib.hid (ChKey.of hb hr hkl hvr)
      have HK := Lib.hid (show IsB (X k).key ∧ (X k).key.length = 32 from ⟨hkB, hkl⟩)
      have HVL : Hid (IsB (X k).val) := hvr.isB
      have hll := HLL.out k hk
      have HNX : Hid (layP X N (k + 1) = layP X N k ++ chB (X k)) := layP_next X N k
      have hlong : Hid (long (X k) = false) := anyLong_not HLO.out hlt
      clear hr hkB hkl hvr hvC hCm hnil hb
      generalize X k = x at *
      obtain ⟨ky, dl, vl⟩ := x
      have hk32 : ky.length = 32 := HK.out.2
      have HK32 := Lib.hid hk32
      clear hk32
      generalize layP X N k = lp at *
      cases dl
      · have d1 := (HKK.out w2 HB.out).2.1
        go_wp2_with ((with_reducible refine stopAt (o := ⟨some 26, _, _, _, _, _⟩) ?_); refine append1 und_bytes info_byte w2 rfl (.tmp 23) (.tmp 25) rfl w.heap.size _ lp HO.out 1 (by omega) rfl rfl (by omega) HB.out.size ?_; intro v3 w3 ho3 hg3; have HO3 := Lib.hid ho3; have HB3 := Lib.hid (HB.out.grown hg3 HB.out.size HO.out.ge); clear ho3 hg3)
        clear d1 HO HB
        go_loopw [3, 6] (fun u j wr => ∃ m : Nat, m ≤ 32 ∧ j = .int .i64 m ∧ Hid (OwnU wr w.heap.size u (lp ++ [1] ++ ky.take m)) ∧ Hid (Below w.heap.size w wr)) (fun _ j _ => 32 - (intOf j).toNat)
        case atStart => exact ⟨0, by omega, rfl, (by show OwnU _ _ _ _; simpa using HO3.out), HB3.out⟩
        case round =>
          clear HO3 HB3
          obtain ⟨m, hm, rfl, HO, HB⟩ := hrel
          obtain ⟨w4, rfl⟩ : ∃ w4, w4 = wr := ⟨_, rfl⟩
          by_cases hm32 : m < 32
          · have hm32' : (m : Int) < 32 := by omega
            have kc := (HKK.out w4 HB.out).1 m hm32
            have hlt8 : ky.getD m 0 < 256 := HK.out.1 _ (getD_mem (by have := HK32.out; omega))
            have HT := Lib.hid (take_succ_getD (show m < ky.length by have := HK32.out; omega))
            have HTL : Hid ((ky.take m).length ≤ 32) := by show _ ≤ _; rw [List.length_take]; omega
            simp only at kc
            generalize ky.getD m 0 = y at *
            go_wp2_with ((with_reducible refine stopAt (o := ⟨some 40, _, _, _, _, _⟩) ?_); refine append1 und_bytes info_byte w4 rfl (.tmp 31) (.tmp 39) rfl w.heap.size _ _ HO.out y hlt8 rfl rfl (by have := HTL.out; simp only [List.length_append, List.length_cons, List.length_nil]; omega) HB.out.size ?_; intro v5 w5 ho5 hg5; have HO5 := Lib.hid ho5; have HB5 := Lib.hid (HB.out.grown hg5 HB.out.size HO.out.ge); clear ho5 hg5)
            go_roundw
            case rel => exact ⟨m + 1, by omega, by go_num, by show OwnU _ _ _ _; rw [HT.out, ← List.append_assoc]; exact HO5.out, HB5.out⟩
            case measure => simp [intOf]; omega
          · have hm32' : ¬ (m : Int) < 32 := by omega
            obtain rfl : m = 32 := by omega
            have HKT : Hid (ky.take 32 = ky) := by show _ = _; exact List.take_of_length_le (by have := HK32.out; omega)
            rw [HKT.out] at HO
            have d2 := (HKK.out w4 HB.out).2.1
            have v2 := (HKK.out w4 HB.out).2.2.1
            simp only at d2 v2
            have hv128 : vl.length ≤ 128 := by
              have := hlong.out
              unfold long at this
              simpa using this
            go_wp2_with fail
            refine (two_any vl.length w4 (by omega)).mono ?_
            rintro e w5 ⟨v5, rfl, ho5, hb5⟩
            have HO5 := Lib.hid (HO.out.below hb5)
            have HB5 := Lib.hid (HB.out.trans (hb5.mono HB.out.size))
            have H1 : vl.length % 256 < 256 := by omega
            have H2 : vl.length / 256 % 256 < 256 := by omega
            have HCB : Hid (chB ⟨ky, false, vl⟩ = [1] ++ ky ++ [vl.length % 256, vl.length / 256 % 256] ++ vl) := by
              show _ = _
              unfold chB
              rw [if_neg (by simp)]
              simp
            generalize vl.length % 256 = p at *
            generalize vl.length / 256 % 256 = q at *
            obtain ⟨g, cc, rfl, hg1, hg2, hgf, hgc⟩ := ho5.shape (by simp)
            have g0 := hgc 0 (by simp)
            have g1 := hgc 1 (by simp)
            simp only [List.getD_cons_zero, List.getD_cons_succ] at g0 g1
            clear ho5 hb5 hgf hgc d2 v2
            go_wp2_with fail
            rename_i KK hKK
            have HKL2 := Lib.hid hKK
            clear hKK
            refine wp_region_held_drew (S := fun w' => w'.cell? ⟨g, 0, none⟩ = some (.int .u8 (p : Int)) ∧ w'.cell? ⟨g, 1, none⟩ = some (.int .u8 (q : Int))) (by kernel_rfl) ⟨g0, g1⟩ fun hH => ?_
            refine wpAnyH_take (i := 0) (oi := ⟨some 53, _, _, _, _, _⟩) rfl (by kernel_rfl) (by kernel_rfl) (by kernel_rfl) (fun _ _ _ h => h) (Or.inl ⟨by rfl, fun w hw => by ((try dsimp only at hw); go_split_ands; go_simp; with_reducible rfl)⟩) (by assumption) ?_
            try simp only [Act.put, List.setIfInBounds_toArray, List.set_cons_zero, List.set_cons_succ]
            refine wpAnyH_take (i := 1) (oi := ⟨some 54, _, _, _, _, _⟩) rfl (by kernel_rfl) (by kernel_rfl) (by kernel_rfl) (fun _ _ _ h => h) (Or.inl ⟨by rfl, fun w hw => by ((try dsimp only at hw); go_split_ands; go_simp; with_reducible rfl)⟩) (by assumption) ?_
            try simp only [Act.put, List.setIfInBounds_toArray, List.set_cons_zero, List.set_cons_succ]
            refine wpAnyH_take (i := 2) (oi := ⟨some 55, _, _, _, _, _⟩) rfl (by kernel_rfl) (by kernel_rfl) (by kernel_rfl) (fun _ _ _ h => h) (Or.inl ⟨by rfl, fun w hw => by ((try dsimp only at hw); go_split_ands; go_simp; with_reducible rfl)⟩) (by assumption) ?_
            try simp only [Act.put, List.setIfInBounds_toArray, List.set_cons_zero, List.set_cons_succ]
            refine wpAnyH_take (i := 3) (oi := ⟨some 56, _, _, _, _, _⟩) rfl (by kernel_rfl) (by kernel_rfl) (by kernel_rfl) (fun _ _ _ h => h) (Or.inl ⟨by rfl, fun w hw => by ((try dsimp only at hw); go_split_ands; go_simp; with_reducible rfl)⟩) (by assumption) ?_
            try simp only [Act.put, List.setIfInBounds_toArray, List.set_cons_zero, List.set_cons_succ]
            refine wpAnyH_take (i := 4) (oi := ⟨some 57, _, _, _, _, _⟩) rfl (by kernel_rfl) (by kernel_rfl) (by kernel_rfl) (fun _ _ _ h => h) (Or.inl ⟨by rfl, fun w hw => by ((try dsimp only at hw); go_split_ands; go_simp; with_reducible rfl)⟩) (by assumption) ?_
            try simp only [Act.put, List.setIfInBounds_toArray, List.set_cons_zero, List.set_cons_succ]
            refine wpAnyH_take (i := 5) (oi := ⟨some 58, _, _, _, _, _⟩) rfl (by kernel_rfl) (by kernel_rfl) (by kernel_rfl) (fun _ _ _ h => h) (Or.inl ⟨by rfl, fun w hw => by ((try dsimp only at hw); go_split_ands; go_simp; with_reducible rfl)⟩) (by assumption) ?_
            try simp only [Act.put, List.setIfInBounds_toArray, List.set_cons_zero, List.set_cons_succ]
            refine wpAnyH_take (i := 6) (oi := ⟨some 59, _, _, _, _, _⟩) rfl (by kernel_rfl) (by kernel_rfl) (by kernel_rfl) (fun _ _ _ h => h) (Or.inl ⟨by rfl, fun w hw => by ((try dsimp only at hw); go_split_ands; go_simp; with_reducible rfl)⟩) (by assumption) ?_
            try simp only [Act.put, List.setIfInBounds_toArray, List.set_cons_zero, List.set_cons_succ]
            refine wpAnyH_ready (rs := [7]) (by kernel_rfl) (by simp) ?_
            refine AllReadyH.cons rfl (fun K hK => ?_) (AllReadyH.nil)
            go_simp
            have HRB : Hid (RB (w5.alloc (.cells #[.int .u8 (p : Int), .int .u8 (q : Int)] 5)) (some ⟨w5.heap.size, 0, none⟩) 2 [p, q]) := (own_two p q H1 H2).reads
            have HOA : Hid (OwnU (w5.alloc (.cells #[.int .u8 (p : Int), .int .u8 (q : Int)] 5)) w.heap.size u3 (lp ++ [1] ++ ky)) := HO5.out.below ((Below.refl _ _).alloc (Nat.le_refl _) _)
            have HBA : Hid (Below w.heap.size w (w5.alloc (.cells #[.int .u8 (p : Int), .int .u8 (q : Int)] 5)).drew) := drewN_below (HB5.out.alloc HB5.out.size _) 1
            have hS : (w5.alloc (.cells #[.int .u8 (p : Int), .int .u8 (q : Int)] 5)).drew.cell? ⟨g, 0, none⟩ = some (.int .u8 (p : Int)) ∧ (w5.alloc (.cells #[.int .u8 (p : Int), .int .u8 (q : Int)] 5)).drew.cell? ⟨g, 1, none⟩ = some (.int .u8 (q : Int)) := by
              have hbb : Below w5.heap.size w5 (w5.alloc (.cells #[.int .u8 (p : Int), .int .u8 (q : Int)] 5)).drew := drewN_below ((Below.refl _ _).alloc (Nat.le_refl _) _) 1
              exact ⟨(hbb.cell (p := ⟨g, 0, none⟩) hg2).trans g0, (hbb.cell (p := ⟨g, 1, none⟩) hg2).trans g1⟩
            have HRB' : Hid (RB (w5.alloc (.cells #[.int .u8 (p : Int), .int .u8 (q : Int)] 5)).drew (some ⟨w5.heap.size, 0, none⟩) 2 [p, q]) := HRB.out.below (drewN_below (Below.refl _ _) 1)
            have HOA' : Hid (OwnU (w5.alloc (.cells #[.int .u8 (p : Int), .int .u8 (q : Int)] 5)).drew w.heap.size u3 (lp ++ [1] ++ ky)) := HOA.out.below (drewN_below (Below.refl _ _) 1)
            clear HRB HOA
            have HS6 : Hid (∀ W, (w5.alloc (.cells #[.int .u8 (p : Int), .int .u8 (q : Int)] 5)).drew.grownBy W u3.ownBlock → W.cell? ⟨g, 0, none⟩ = some (.int .u8 (p : Int)) ∧ W.cell? ⟨g, 1, none⟩ = some (.int .u8 (q : Int))) := fun W hW => by
              have hlt := (HO.out.lt)
              have hne : some g ≠ u3.ownBlock := fun e => by have := (HO.out.lt _ e.symm).2; omega
              have hbk := hW.block g (by show g < _; have : (w5.alloc (.cells #[.int .u8 (p : Int), .int .u8 (q : Int)] 5)).drew.heap.size = w5.heap.size + 1 := (by show _ = _; simp [World.drew]); omega) hne
              exact ⟨(World.cell?_of_block (a := ⟨g, 0, none⟩) hbk).trans hS.1, (World.cell?_of_block (a := ⟨g, 1, none⟩) hbk).trans hS.2⟩
            generalize (w5.alloc (.cells #[.int .u8 (p : Int), .int .u8 (q : Int)] 5)).drew = w6 at *
            refine hK.out _ _ hS (fun hH2 => ?_)
            clear hK hH
            refine wpAnyH_ready (rs := [8]) (by kernel_rfl) (by simp) ?_
            refine AllReadyH.cons (o := ⟨some 61, _, _, _, _, _⟩) rfl (fun K hK => ?_) (AllReadyH.nil)
            refine wpOp_appendB (o := ⟨some 61, _, _, _, _, _⟩) und_bytes info_byte ?hw3 w6 (.tmp 53) (.tmp 60) rfl w.heap.size u3 _ HOA'.out ⟨w5.heap.size, 0, none⟩ 2 2 [p, q] HRB'.out ?hs3 ?hx3 (by have := HK32.out; simp only [List.length_append, List.length_cons, List.length_nil]; omega) HBA.out.size ?hh3
            case hw3 => kernel_rfl
            case hs3 => rfl
            case hx3 => rfl
            intro v7 w7 ho7 hg7
            have HO7 := Lib.hid ho7
            have HB7 := Lib.hid (HBA.out.grown hg7 HBA.out.size HOA'.out.ge)
            have hS7 : w7.cell? ⟨g, 0, none⟩ = some (.int .u8 (p : Int)) ∧ w7.cell? ⟨g, 1, none⟩ = some (.int .u8 (q : Int)) := HS6.out w7 hg7
            clear ho7 hg7
            refine hK.out _ _ hS7 (fun hH3 => ?_)
            clear hK hH2 hS hS7
            refine wpAnyH_take (i := 9) (oi := ⟨some 3, _, _, _, _, _⟩) rfl (by kernel_rfl) (by kernel_rfl) (by kernel_rfl) (fun _ _ _ h => h) (Or.inl ⟨by rfl, fun w hw => by ((try dsimp only at hw); go_split_ands; go_simp; with_reducible rfl)⟩) (by assumption) ?_
            try simp only [Act.put, List.setIfInBounds_toArray, List.set_cons_zero, List.set_cons_succ]
            refine wpAnyH_done (by kernel_rfl) ?_ _
            change KK _ _
            refine HKL2.out _ _ ?_
            clear hH3 g0 g1 HS6 HBA HOA' HRB' HO HB hg1 hg2
            go_wp2_with fail
            go_loopw [3, 8] (fun u j wr => ∃ m : Nat, m ≤ vl.length ∧ j = .int .i64 m ∧ Hid (OwnU wr w.heap.size u (lp ++ [1] ++ ky ++ [p, q] ++ vl.take m)) ∧ Hid (Below w.heap.size w wr)) (fun _ j _ => vl.length - (intOf j).toNat)
            case atStart => exact ⟨0, by omega, rfl, (by show OwnU _ _ _ _; simpa using HO7.out), HB7.out⟩
            case round =>
              clear HO7 HB7 HO5 HB5
              obtain ⟨m, hm, rfl, HO, HB⟩ := hrel
              obtain ⟨w8, rfl⟩ : ∃ w8, w8 = wr := ⟨_, rfl⟩
              have v3' := (HKK.out w8 HB.out).2.2.1
              simp only at v3'
              by_cases hml : m < vl.length
              · have hml' : (m : Int) < (vl.length : Int) := by omega
                obtain ⟨ad, rfl, hbl, hcell⟩ := (HKK.out w8 HB.out).2.2.2.at_ hml
                have hlt8 : vl.getD m 0 < 256 := HVL.out _ (getD_mem hml)
                have HT := Lib.hid (take_succ_getD hml)
                have HTL : Hid ((vl.take m).length ≤ 128) := by show _ ≤ _; rw [List.length_take]; omega
                simp only at hcell
                clear hbl
                generalize vl.getD m 0 = y at *
                go_wp2_with ((with_reducible refine stopAt (o := ⟨some 82, _, _, _, _, _⟩) ?_); refine append1 und_bytes info_byte w8 rfl (.tmp 72) (.tmp 81) rfl w.heap.size _ _ HO.out y hlt8 rfl rfl (by have := HTL.out; have := HK32.out; simp only [List.length_append, List.length_cons, List.length_nil]; omega) HB.out.size ?_; intro v9 w9 ho9 hg9; have HO9 := Lib.hid ho9; have HB9 := Lib.hid (HB.out.grown hg9 HB.out.size HO.out.ge); clear ho9 hg9)
                go_roundw
                case rel => exact ⟨m + 1, by omega, by go_num, (by show OwnU _ _ _ _; rw [HT.out, ← List.append_assoc]; exact HO9.out), HB9.out⟩
                case measure => simp [intOf]; omega
              · have hml' : ¬ (m : Int) < (vl.length : Int) := by omega
                have HKT : Hid (vl.take m = vl) := by show _ = _; exact List.take_of_length_le (by omega)
                rw [HKT.out] at HO
                go_wp2_with fail
                go_roundw
                case rel => exact ⟨k + 1, by omega, by go_num, (by
                  show OwnU _ _ _ _
                  rw [HNX.out, HCB.out]
                  have h := HO.out
                  simpa [List.append_assoc] using h), HB.out⟩
                case measure => simp [intOf]; omega
      · have d1 := (HKK.out w2 HB.out).2.1
        go_wp2_with ((with_reducible refine stopAt (o := ⟨some 26, _, _, _, _, _⟩) ?_); refine append1 und_bytes info_byte w2 rfl (.tmp 23) (.tmp 25) rfl w.heap.size _ lp HO.out 2 (by omega) rfl rfl (by omega) HB.out.size ?_; intro v3 w3 ho3 hg3; have HO3 := Lib.hid ho3; have HB3 := Lib.hid (HB.out.grown hg3 HB.out.size HO.out.ge); clear ho3 hg3)
        clear d1 HO HB
        go_loopw [3, 6] (fun u j wr => ∃ m : Nat, m ≤ 32 ∧ j = .int .i64 m ∧ Hid (OwnU wr w.heap.size u (lp ++ [2] ++ ky.take m)) ∧ Hid (Below w.heap.size w wr)) (fun _ j _ => 32 - (intOf j).toNat)
        case atStart => exact ⟨0, by omega, rfl, (by show OwnU _ _ _ _; simpa using HO3.out), HB3.out⟩
        case round =>
          clear HO3 HB3
          obtain ⟨m, hm, rfl, HO, HB⟩ := hrel
          obtain ⟨w4, rfl⟩ : ∃ w4, w4 = wr := ⟨_, rfl⟩
          by_cases hm32 : m < 32
          · have hm32' : (m : Int) < 32 := by omega
            have kc := (HKK.out w4 HB.out).1 m hm32
            have hlt8 : ky.getD m 0 < 256 := HK.out.1 _ (getD_mem (by have := HK32.out; omega))
            have HT := Lib.hid (take_succ_getD (show m < ky.length by have := HK32.out; omega))
            have HTL : Hid ((ky.take m).length ≤ 32) := by show _ ≤ _; rw [List.length_take]; omega
            simp only at kc
            generalize ky.getD m 0 = y at *
            go_wp2_with ((with_reducible refine stopAt (o := ⟨some 40, _, _, _, _, _⟩) ?_); refine append1 und_bytes info_byte w4 rfl (.tmp 31) (.tmp 39) rfl w.heap.size _ _ HO.out y hlt8 rfl rfl (by have := HTL.out; simp only [List.length_append, List.length_cons, List.length_nil]; omega) HB.out.size ?_; intro v5 w5 ho5 hg5; have HO5 := Lib.hid ho5; have HB5 := Lib.hid (HB.out.grown hg5 HB.out.size HO.out.ge); clear ho5 hg5)
            go_roundw
            case rel => exact ⟨m + 1, by omega, by go_num, by show OwnU _ _ _ _; rw [HT.out, ← List.append_assoc]; exact HO5.out, HB5.out⟩
            case measure => simp [intOf]; omega
          · have hm32' : ¬ (m : Int) < 32 := by omega
            obtain rfl : m = 32 := by omega
            have HKT : Hid (ky.take 32 = ky) := by show _ = _; exact List.take_of_length_le (by have := HK32.out; omega)
            rw [HKT.out] at HO
            have d2 := (HKK.out w4 HB.out).2.1
            have v2 := (HKK.out w4 HB.out).2.2.1
            simp only at d2 v2
            go_wp2_with fail
            go_roundw
            case rel => exact ⟨k + 1, by omega, by go_num, by
              show OwnU _ _ _ _
              rw [HNX.out]
              have h := HO.out
              rwa [show lp ++ [2] ++ ky = lp ++ chB ⟨ky, true, vl⟩ by
                unfold chB
                rw [if_pos rfl]
                simp] at h, HB.out⟩
            case measure => simp [intOf]; omega
    · have hnlt : ¬ (k : Int) < N := by omega
      obtain rfl : k = N := by omega
      go_wp2_with fail
      go_ret
      exact ⟨_, rfl, HO.out, HB.out⟩
set_option maxHeartbeats 1000000 in
theorem refbuild_any (A : Option Addr) (N c : Nat) (X : Nat → Chg) (w : World) (hx : ChsAt w A N X) (hc : N ≤ c) (hn : N * 64 ≤ 140737488355328) (hv : ∀ k, k < N → (X k).val.length ≤ 140737488355328) :
    Calls Try.prog 89 #[.slice A N c] w (BuildPost X N w) := by
  have HX := Lib.hid hx
  have HW := Lib.hid (wrong_any A N c 64 X w hx hc (by omega) hn hv)
  clear hx hv
  rw [wrong_build] at HW
  have HE : Hid (buildE X N = 0 → heldN X N 64 = 0) := fun h => by
    unfold buildE at h
    split at h
    · assumption
    · exact absurd h ‹_›
  have HD : Hid (∀ v w', (buildE X N = 0 → OwnU w' w.heap.size v (layN X N)) → (buildE X N ≠ 0 → v = .slice none 0 0) → Below w.heap.size w w' → BuildPost X N w (.returned (.tuple #[v, .int .i64 (buildE X N : Nat)])) w') := fun v w' h1 h2 h3 => ⟨v, rfl, h3, h1, h2⟩
  generalize BuildPost X N w = R at *
  go_enter Try.func89, Try.ntmps89
  go_wp2_with fail
  refine HW.out.mono ?_
  rintro e w1 ⟨rfl, hb1⟩
  have HB1 := Lib.hid hb1
  clear hb1
  by_cases h0 : buildE X N = 0
  · have HL := Lib.hid (laid_any A N c X w1 (HX.out.below HB1.out) (HE.out h0))
    rw [h0] at HD ⊢
    clear h0
    go_wp2_with fail
    refine HL.out.mono ?_
    rintro e w2 ⟨v2, rfl, ho2, hb2⟩
    have HB2 := Lib.hid (HB1.out.trans (hb2.mono HB1.out.size))
    have HO2 := Lib.hid (ho2.mono HB1.out.size)
    clear ho2 hb2
    go_wp2_with fail
    exact HD.out _ _ (fun _ => HO2.out) (fun h => absurd rfl h) HB2.out
  · have H0 := Lib.hid h0
    obtain ⟨z, hz⟩ : ∃ z, z = buildE X N := ⟨_, rfl⟩
    rw [← hz] at HD h0 ⊢
    have h1 : (z : Int) ≠ 0 := by omega
    have h2 : (((z : Nat) : Int) != 0) = true := by rw [bne_iff_ne]; exact h1
    clear hz
    go_wp2_with fail
    exact HD.out _ _ (fun h => absurd h h0) (fun _ => rfl) HB1.out
end Go.Proofs.Ytkpbeibcfaenhaa
