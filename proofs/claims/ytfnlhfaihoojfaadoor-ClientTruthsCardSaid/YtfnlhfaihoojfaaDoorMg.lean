/- Tidy, Tidy2, Climb (merged) -/
import Derived.Test.YtfnlhfaihoojfaaDoorMf
/- client: tidy. -/
namespace Go.Proofs.YtfnlhfaihoojfaaDoor
open Go.RowKit
def Ck.pr (c : Ck) (xs : List Nat) (ds : List (List Nat)) : Pr := ⟨c.f, xs, c.bits, ds⟩
/-- What stands ready for a check's walk through its proof. -/
structure Ready (w : World) (g : Nat) (c : Ck) (p : Pr) : Prop where
  ck : CkIs w g c
  ok : c.Ok
  blank : BlankOk w c.wd c.blank
  sums : w.ownsRow 0 29 32 c.s p.sums.length (bvs p.sums.flatten)
  pok : p.Ok
  bits : p.bits = c.bits
  found : p.found = c.f
  tabs : Tabs w
  g1 : g ≠ 0
  g2 : g ≠ 2
theorem Ready.notG {w : World} {g : Nat} {c : Ck} {p : Pr} (h : Ready w g c p) : ∀ B, c.s.ownBlock = some B → B ≠ g := fun B hB e => by
  rcases h.sums.2 with h1 | ⟨b, cap, cur, h0, h1, h2, h3⟩
  · rw [h1.1] at hB; cases hB
  · rw [h0] at hB
    injection hB with hB
    subst hB
    exact blk_ne (cs := cur) (cs' := c.C.toArray) (t := 29) (t' := 59) h2 h.ck (by decide) e
theorem Ready.keep {w w' : World} {g : Nat} {c : Ck} {p : Pr} (h : Ready w g c p) (ht : Touch (fun B => B = g) w w') {b : Value} (hc : CkIs w' g (c.blanked b)) (hb : BlankOk w' c.wd b) (htt : Tabs w') : Ready w' g (c.blanked b) p :=
  ⟨hc, ⟨h.ok.kl, h.ok.kB, h.ok.rl, h.ok.rB, h.ok.bl, h.ok.bB, h.ok.fl, h.ok.fB⟩, hb, ht.row h.sums h.notG, h.pok, h.bits, h.found, htt, h.g1, h.g2⟩
theorem Touch.tabs {w w' : World} {g : Nat} (ht : Touch (fun B => B = g) w w') (h : Tabs w) (h1 : g ≠ 0) (h2 : g ≠ 2) : Tabs w' :=
  ⟨h.1.keep ht.size (ht.block _ h.1.1 (Ne.symm h1)), h.2.keep ht.size (ht.block _ h.2.1 (Ne.symm h2))⟩
theorem Ready.below {w w' : World} {g : Nat} {c : Ck} {p : Pr} (h : Ready w g c p) (hb : Below w.heap.size w w') : Ready w' g c p := by
  have ht : Touch (fun B => B = g) w w' := (Touch.ofBelow hb).mono fun _ _ h => h.elim
  refine ⟨BlkIs.below h.ck hb, h.ok, ?_, ht.row h.sums h.notG, h.pok, h.bits, h.found, h.tabs.below hb, h.g1, h.g2⟩
  rcases h.blank with h1 | ⟨B, h1, h2⟩
  · exact .inl h1
  · exact .inr ⟨B, h1, BlkIs.below h2 hb⟩
theorem Ready.bare {w : World} {g : Nat} {c : Ck} {p : Pr} (h : Ready w g c p) {j : Nat} (hj : j < 256) :
    Calls Tryd.prog 55 #[.pointer (some ⟨g, 0, none⟩), .int .i64 j] w fun e w' => e = .returned (.agg (bvs (emptyD c.wd j)).toArray) ∧ (∃ b, Ready w' g (c.blanked b) p ∧ NewB w c.blank b) ∧ Touch (fun B => B = g) w w' :=
  (bare_any g c j w h.ck h.ok h.blank hj h.tabs h.g1 h.g2).mono fun _ _ ⟨h1, b, h2, h3, h4, h5⟩ => ⟨h1, ⟨b, h.keep h4 h2 h3 (h4.tabs h.tabs h.g1 h.g2), h5⟩, h4⟩
theorem NewB.trans {w w' : World} {b b' b'' : Value} (h : NewB w b b') (k : NewB w' b' b'') (hs : w.heap.size ≤ w'.heap.size) : NewB w b b'' := by
  rcases k with rfl | ⟨B, h1, h2⟩
  · exact h
  · exact .inr ⟨B, Nat.le_trans hs h1, h2⟩
theorem sums_at {ds : List (List Nat)} (hd : ∀ s ∈ ds, IsB s ∧ s.length = 32) {i : Nat} (hi : i < ds.length) : (ds.flatten.drop (32 * i)).take 32 = ds.getD i (zs 32) := by
  induction ds generalizing i with
  | nil => simp at hi
  | cons d ds ih =>
    have h0 := (hd d (by simp)).2
    cases i with
    | zero => simp [List.take_left' h0]
    | succ i =>
      rw [List.flatten_cons, show 32 * (i + 1) = 32 + 32 * i by omega, ← List.drop_drop, List.drop_left' h0, List.getD_cons_succ]
      exact ih (fun s hs => hd s (by simp [hs])) (by simpa using hi)
theorem sums_length {ds : List (List Nat)} (hd : ∀ s ∈ ds, IsB s ∧ s.length = 32) : ds.flatten.length = 32 * ds.length := by
  induction ds with
  | nil => rfl
  | cons d ds ih => rw [List.flatten_cons, List.length_append, (hd d (by simp)).2, ih fun s hs => hd s (by simp [hs]), List.length_cons]; omega
/-- The list of the proof's digests, where one of them is read. -/
theorem Ready.sumAt {w : World} {g : Nat} {c : Ck} {p : Pr} (h : Ready w g c p) {i : Nat} (hi : i < p.sums.length) :
    ∃ B n k, c.s = .slice (some ⟨B, 0, none⟩) n k ∧ n = p.sums.length ∧ RB w (some ⟨B, i * 32, none⟩) 32 (p.sums.getD i (zs 32)) ∧ (n : Int) ≤ 256 := by
  rcases h.sums.2 with h1 | ⟨b, cap, cur, h0, h1, h2, h3⟩
  · have := h1.2
    omega
  · have hr : World.ownsRow w 0 29 32 (.slice (some ⟨b, 0, none⟩) p.sums.length cap) p.sums.length (bvs p.sums.flatten) := h0 ▸ h.sums
    have hm : p.sums.getD i (zs 32) ∈ p.sums := by
      rw [getD_idx _ _ hi]
      exact List.getElem_mem hi
    have hf := sums_length h.pok.sB
    have hlt : b < w.heap.size := (row_lt hr rfl).2
    refine ⟨b, _, cap, h0, rfl, ⟨(h.pok.sB _ hm).2, (h.pok.sB _ hm).1, fun _ => ⟨_, rfl, hlt, fun j x hj => ?_⟩⟩, ?_⟩
    · rw [add_lit]
      have hj32 : j < 32 := by
        rcases Nat.lt_or_ge j 32 with h' | h'
        · exact h'
        · rw [List.getElem?_eq_none (by rw [(h.pok.sB _ hm).2]; exact h')] at hj; cases hj
      show w.cell? ⟨b, i * 32 + j, none⟩ = _
      rw [hr.cellAt (i * 32 + j) (by omega), bvs, List.getElem?_map]
      have e := sums_at h.pok.sB hi
      rw [← e, List.getElem?_take, if_pos hj32, List.getElem?_drop, show 32 * i + j = i * 32 + j by omega] at hj
      rw [hj]
      rfl
    · have := h.pok.sl
      have := onesN_le (ds := p.bits)
      have := h.pok.bl
      omega
end Go.Proofs.YtfnlhfaihoojfaaDoor

/- client: tidy, the walk. -/
namespace Go.Proofs.YtfnlhfaihoojfaaDoor
open Go.RowKit
theorem formP_zero_bad {w : Int} {p : Pr} {h : Nat} (h0 : formP w p h = 0) (hh : h < 256) (hb : badP w p h ≠ 0) : formP w p 256 = badP w p h := by
  have h1 : formP w p (h + 1) = badP w p h := by rw [formP, if_pos h0]
  rw [formP_stop (n := h + 1) (by rw [h1]; exact hb) (by omega), h1]
def Tidied (g : Nat) (c : Ck) (p : Pr) (w : World) (e : Ending) (w' : World) : Prop :=
  e = .returned (.int .i64 (formP c.wd p 256 : Nat)) ∧ (∃ b, Ready w' g (c.blanked b) p ∧ NewB w c.blank b) ∧ Touch (fun B => B = g) w w'
/-- 'a[k:]' of an array of 32 bytes, the cut under a name. -/
theorem sliceArr {P : Program} {w : World} {ops : Array Oper} {rest : List Oper} {o : Oper} {a : Act} {Q : Exit → Act → World → Prop} (hgd : o.guard = none) (t : TypeId) (x ix : Operand)
    (ho : o.op = .slice t x (some ix) none none) (ht : P.underlying t = some (.array (P.arrayLen t) (P.elem t))) (hn : P.arrayLen t = 32) (hsz : (P.info? (P.elem t)).map (·.size) = some 1) (g k n : Nat) (hx : a.eval x = .pointer (some ⟨g, 0, none⟩)) (hi : a.eval ix = .int .i64 (k : Int))
    (hk : k + n = 32)
    (h : ∀ q, Hid (0 < n → q = k) → wpList P ops Q rest (a.put o.dst (.slice (some ⟨g, q, none⟩) n n)) w) : wpList P ops Q (o :: rest) a w := by
  refine wpList_plain hgd fun K hK => ?_
  have hs : (sizeOf (P.elem t)).run P w = .ok 1 w := by
    cases hq : P.info? (P.elem t) with
    | none => simp [hq] at hsz
    | some i =>
      have h1 : i.size = 1 := by simpa [hq] using hsz
      simp [sizeOf, typeInfo, hq, h1]
  have hrun : (Instr.sliceAt t (.pointer (some ⟨g, 0, none⟩)) (some (.int .i64 (k : Int))) none none).run P w = .ok (.slice (some ⟨g, if n = 0 then 0 else k, none⟩) n n) w := by
    rw [run_sliceAt_array_l w t ⟨g, 0, none⟩ ht .i64 (k : Int) (by omega) (by omega), hs, hn]
    simp only [Result.andThen_ok, slicedAt, Int.toNat_natCast, Nat.mul_one]
    have e : 32 - k = n := by omega
    rw [e]
    by_cases h0 : n = 0
    · rw [if_pos h0, if_pos (by omega)]
    · rw [if_neg h0, if_neg (by omega), add_lit, Nat.zero_add]
  have h2 := h (if n = 0 then 0 else k) (show _ → _ from fun hp => if_neg (by omega))
  unfold Oper.wp execOp
  simp only [ho, hx, hi, Option.map, Sem.run_bind, Sem.run_pure, hrun, Result.andThen_ok]
  exact hK _ _ h2
theorem dig_cmp (w : World) {xs ys : List Nat} (hx : IsB xs) (hy : IsB ys) (h1 : xs.length = 32) (h2 : ys.length = 32) : (Op.equalIn 10000 29 (.agg (bvs xs).toArray) (.agg (bvs ys).toArray)).run Tryd.prog w = .ok (decide (xs = ys)) w :=
  eq_arr (P := Tryd.prog) w 9998 29 5 32 Tryd.underlying29 Tryd.underlying5 byte_sizeOf hx hy h1 h2
theorem tidyB_cut {w : Int} {m : Nat} (hm : w = m) (h32 : m ≤ 32) (ds : List Nat) : tidyB w ds = decide (∀ b ∈ ds.drop m, b = 0) := by
  unfold tidyB
  rw [show cutK w = m by unfold cutK; omega]
set_option maxRecDepth 20000 in
set_option maxHeartbeats 4000000 in
theorem tidy_any (g : Nat) (c : Ck) (p : Pr) (w : World) (hr : Ready w g c p) (hw1 : 1 ≤ c.wd) (hw2 : c.wd ≤ 32) :
    Calls Tryd.prog 34 #[.pointer (some ⟨g, 0, none⟩)] w (Tidied g c p w) := by
  have HR := Lib.hid hr
  have HGL : Hid (g < w.heap.size) := hr.ck.lt
  have HW1 := Lib.hid hw1
  have HW2' := Lib.hid hw2
  clear hr hw1 hw2
  go_enter Tryd.func34, Tryd.ntmps34
  go_wp2_with fail
  go_loopw [3, 8] (fun nx i wr => ∃ h : Nat, h ≤ 256 ∧ i = .int .i64 h ∧ nx = .int .i64 (cntP p.bits h : Nat) ∧ Hid (formP c.wd p h = 0) ∧ Hid (∃ b, Ready wr g (c.blanked b) p ∧ NewB w c.blank b) ∧ Hid (Touch (fun B => B = g) w wr)) (fun _ i _ => 256 - (intOf i).toNat)
  case atStart => exact ⟨0, by omega, rfl, rfl, rfl, ⟨c.blank, HR.out, .inl rfl⟩, Touch.refl _ _⟩
  case round =>
    obtain ⟨h, hh, rfl, rfl, HF, HRr, HT⟩ := hrel
    by_cases hlt : h < 256
    · have hlt' : (h : Int) < 256 := by omega
      obtain ⟨b, hb0, hb1⟩ := HRr.out
      have HRB := Lib.hid hb0
      have HNBk := Lib.hid hb1
      clear hb0 hb1 HRr
      go_wp2_with fail
      refine (bitOf_any g 66 c.bits h wr (ck_bits (c := c.blanked b) HRB.out.ck HRB.out.ok) hlt).mono ?_
      rintro e w1 ⟨rfl, rfl⟩
      have HBE : Hid (bitP c.bits h = bitP p.bits h) := by
        show _ = _
        rw [HRB.out.bits]
        rfl
      cases hbit : bitP c.bits h with
      | false =>
        have HNB : Hid (bitP p.bits h = false) := by
          show _ = _
          rw [← HBE.out, hbit]
        clear hbit HBE
        go_wp2_with fail
        go_roundw
        case rel => exact ⟨h + 1, by omega, by go_num, by rw [cntP, HNB.out]; rfl, by rw [formP, if_pos HF.out, badP, HNB.out]; rfl, ⟨b, HRB.out, HNBk.out⟩, HT.out⟩
        case measure => simp [intOf]; omega
      | true =>
        have HNB : Hid (bitP p.bits h = true) := by
          show _ = _
          rw [← HBE.out, hbit]
        clear hbit HBE
        have hci : cntP p.bits h < p.sums.length := by
          rw [HRB.out.pok.sl, onesN_cnt HRB.out.pok.bl]
          exact cntP_lt HNB.out hlt
        have HNE : Hid (nearP c.wd p h = p.sums.getD (cntP p.bits h) (zs 32)) := by
          show nearP c.wd p h = _
          unfold nearP
          rw [if_pos HNB.out]
        have HDB := Lib.hid (HRB.out.pok.sB (p.sums.getD (cntP p.bits h) (zs 32)) (by rw [getD_idx _ _ hci]; exact List.getElem_mem hci))
        obtain ⟨B, n, k, hs, hn, hx, hn2⟩ := HRB.out.sumAt hci
        have hci2 : ((cntP p.bits h : Nat) : Int) < (n : Int) := by omega
        have hci3 : ((cntP p.bits h : Nat) : Int) ≤ 256 := by omega
        obtain ⟨cw, _, _, _, cs, _⟩ := ck_cells (c := c.blanked b) HRB.out.ck HRB.out.ok
        rw [hs] at cs
        have HX := Lib.hid hx
        have HCW := Lib.hid cw
        have HCN : Hid (cntP p.bits (h + 1) = cntP p.bits h + 1) := by
          show _ = _
          rw [cntP, HNB.out]
          rfl
        clear hs hn hx hn2 hci cw
        generalize cntP p.bits h = q at *
        generalize p.sums.getD q (zs 32) = ds at *
        go_wp2_with (first
          | (refine wpList_load_arr (o := ⟨some 24, _, _, _, _, _⟩) (by rfl) 29 (.tmp 23) rfl ⟨B, q * 32, none⟩ 32 ds rfl HX.out (by omega) (by kernel_rfl) (by kernel_rfl) ?_)
          | ((with_reducible refine stopAt (o := ⟨some 5, _, _, _, _, _⟩) ?_); refine allocNew (o := ⟨some 5, _, _, _, _, _⟩) (by rfl) 29 rfl _ _ info_dig ?_; intro w2 HE2 HW2 HS2)
          | (refine wpList_store_part (o := ⟨none, _, _, _, _, _⟩) (by rfl) 29 (.tmp 5) (.tmp 24) rfl 0 [] (bvs (zs 32)) (bvs ds) [] rfl rfl (blk_in HE2.out) rfl (by simp [bvs, zs, HDB.out.2]) (by rw [size_dig]; simp [bvs, HDB.out.2]) (fun u hu => bvs_oneCell _ u hu) ?_; intro w3 h3 g3)
          | (with_reducible refine stopAt (o := ⟨some 30, _, _, _, _, _⟩) ?_))
        have hb13 : Below w1.heap.size w1 w3 := HW2.out.grown g3 HW2.out.size fun k hk => by injection hk with hk; omega
        have HR3 : Hid (Ready w3 g (c.blanked b) p) := HRB.out.below hb13
        have HE3 : Hid (BlkB w3 w1.heap.size 29 ds) := blk_out h3
        have HT3 : Hid (Touch (fun B => B = g) w w3) := HT.out.trans ((Touch.ofBelow hb13).mono fun _ _ h => h.elim)
        have HS3 : Hid (g < w1.heap.size) := HRB.out.ck.lt
        clear hb13 h3 g3 cs hci2
        obtain ⟨m, hm⟩ : ∃ m : Nat, c.wd = m := ⟨c.wd.toNat, by have := HW1.out; omega⟩
        have HM := Lib.hid hm
        have hm32 : m ≤ 32 := by have := HW2'.out; omega
        obtain ⟨n, hn⟩ : ∃ n : Nat, m + n = 32 := ⟨32 - m, by omega⟩
        have HMN := Lib.hid hn
        have HTB := Lib.hid (tidyB_cut hm hm32 ds)
        obtain ⟨cw, _⟩ := ck_cells (c := c.blanked b) HR3.out.ck HR3.out.ok
        rw [show (c.blanked b).wd = (m : Int) from hm] at cw
        have hnb : (n : Int) ≤ 32 := by omega
        clear hm hm32 hn
        refine Lib.hid ?_
        go_wp2_with (refine sliceArr (o := ⟨some 31, _, _, _, _, _⟩) (by rfl) 29 (.tmp 5) (.tmp 30) rfl (by kernel_rfl) (by kernel_rfl) (by kernel_rfl) w1.heap.size m n rfl rfl HMN.out ?_; intro q0 HQ0)
        go_loop [33] (fun i => ∃ j : Nat, j ≤ n ∧ i = .int .i64 j ∧ Hid (∀ x ∈ (ds.drop m).take j, x = 0)) (fun i => n - (intOf i).toNat)
        case atStart => exact ⟨0, by omega, rfl, by show ∀ x ∈ _, _; simp⟩
        case round =>
          obtain ⟨j, hj, rfl, HZ⟩ := hrel
          by_cases hlt2 : j < n
          · obtain rfl : q0 = m := HQ0.out (by omega)
            have hlen : q0 + j < ds.length := by have := HMN.out; have := HDB.out.2; omega
            have hcell : w3.cell? ⟨w1.heap.size, q0 + j, none⟩ = some (.int .u8 (ds.getD (q0 + j) 0 : Nat)) := HE3.out.cell hlen
            have HXJ : Hid ((ds.drop q0).take (j + 1) = (ds.drop q0).take j ++ [ds.getD (q0 + j) 0]) := by
              show _ = _
              rw [take_succ_getD (by rw [List.length_drop]; omega)]
              simp [List.getD]
            have HXM : Hid (ds.getD (q0 + j) 0 ∈ ds.drop q0) := by
              show _ ∈ _
              have e : ds.getD (q0 + j) 0 = (ds.drop q0).getD j 0 := by simp [List.getD]
              rw [e]
              exact getD_mem (by rw [List.length_drop]; omega)
            clear hlen
            generalize ds.getD (q0 + j) 0 = x at *
            by_cases hx0 : x = 0
            · have hx1 : (x : Int) = 0 := by omega
              have HX0 := Lib.hid hx0
              clear hx0
              go_wp2_with fail
              go_round
              case rel => exact ⟨j + 1, by omega, by go_num, by
                rw [HXJ.out]
                intro y hy
                rcases List.mem_append.1 hy with h1 | h1
                · exact HZ.out y h1
                · simp at h1
                  rw [h1]
                  exact HX0.out⟩
              case measure => simp [intOf]; omega
            · have hx1 : ¬ (x : Int) = 0 := by omega
              have HX0 := Lib.hid hx0
              clear hx0
              go_wp2_with fail
              have hbad : badP c.wd p h = 120 := by
                unfold badP
                rw [if_pos HNB.out, HNE.out, HTB.out, decide_eq_false (fun hall => HX0.out (hall x HXM.out))]
                rfl
              have hfin : formP c.wd p 256 = 120 := by rw [formP_zero_bad HF.out hlt (by rw [hbad]; decide), hbad]
              go_ret
              exact ⟨by rw [hfin]; rfl, ⟨b, HR3.out, HNBk.out⟩, HT3.out⟩
          · have hjn : (n : Int) ≤ j := by omega
            have HTY : Hid (tidyB c.wd ds = true) := by
              show _ = _
              rw [HTB.out, decide_eq_true_eq]
              intro y hy
              refine HZ.out y ?_
              rwa [List.take_of_length_le (by rw [List.length_drop, HDB.out.2]; have := HMN.out; omega)]
            go_wp2_with fail
            rename_i KK hKK _
            have HKK := Lib.hid hKK
            clear hKK
            obtain ⟨qe, hqe⟩ : ∃ qe : Bool, qe = decide (ds = emptyD c.wd h) := ⟨_, rfl⟩
            have heq : ∀ w : World, (Op.equalIn 10000 29 (.agg (bvs ds).toArray) (.agg (bvs (emptyD c.wd h)).toArray)).run Tryd.prog w = .ok qe w := fun w => by rw [hqe]; exact dig_cmp w HDB.out.1 (emptyD_isB _ _) HDB.out.2 (emptyD_length _ _)
            have HQE := Lib.hid hqe
            clear hqe
            have hu := und_dig
            have hsz : (Tryd.prog.info? 29).map (·.size) = some (bvs ds).length := by rw [size_dig]; simp [bvs, HDB.out.2]
            refine wp_region_held_drew (S := fun w' => w'.rangeAt w1.heap.size 0 (bvs ds)) (by kernel_rfl) (BlkIs.range HE3.out) fun hH => ?_
            replace HR3 : Hid (Ready w3.drew g (c.blanked b) p) := HR3.out.below (drewN_below (Below.refl _ _) 1)
            replace HE3 : Hid (BlkB w3.drew w1.heap.size 29 ds) := HE3.out
            replace HT3 : Hid (Touch (fun B => B = g) w w3.drew) := HT3.out.drewN 1
            clear cw
            generalize w3.drew = w4 at *
            refine wpAnyH_take (i := 0) (oi := ⟨some 40, _, _, _, _, _⟩) rfl (by kernel_rfl) (by kernel_rfl) (by kernel_rfl) (fun _ _ _ h => h) (yieldsIf_load_mid (by rfl) _ _ rfl _ _ rfl _ _ (fun w hw => by (try dsimp only at hw); go_split_ands; assumption) (by assumption) rfl (by assumption)) (by assumption) ?_
            try simp only [Act.put, List.setIfInBounds_toArray, List.set_cons_zero, List.set_cons_succ]
            refine wpAnyH_take (i := 1) (oi := ⟨some 41, _, _, _, _, _⟩) rfl (by kernel_rfl) (by kernel_rfl) (by kernel_rfl) (fun _ _ _ h => h) (Or.inl ⟨by rfl, fun w hw => by (try dsimp only at hw); go_simp; with_reducible rfl⟩) (by assumption) ?_
            try simp only [Act.put, List.setIfInBounds_toArray, List.set_cons_zero, List.set_cons_succ]
            refine wpAnyH_take (i := 2) (oi := ⟨some 42, _, _, _, _, _⟩) rfl (by kernel_rfl) (by kernel_rfl) (by kernel_rfl) (fun _ _ _ h => h) (Or.inl ⟨by rfl, fun w hw => by (try dsimp only at hw); go_simp; with_reducible rfl⟩) (by assumption) ?_
            try simp only [Act.put, List.setIfInBounds_toArray, List.set_cons_zero, List.set_cons_succ]
            clear hH
            refine wpAnyH_ready (rs := [3]) (by kernel_rfl) (by simp) ?_
            refine AllReadyH.cons rfl (fun K hK => ?_) (AllReadyH.nil)
            go_simp
            go_at_call 55
            refine (HR3.out.bare hlt).mono ?_
            rintro e w5 ⟨rfl, ⟨b', hb', hnb'⟩, ht5⟩
            have HR5 : Hid (Ready w5 g (c.blanked b') p) := hb'
            have hH5 : w5.rangeAt w1.heap.size 0 (bvs ds) := BlkIs.range (ht5.blk HE3.out (by have := HS3.out; omega))
            have HT5 : Hid (Touch (fun B => B = g) w w5) := HT3.out.trans ht5
            have HNB5 : Hid (NewB w c.blank b') := HNBk.out.trans hnb' HT3.out.size
            refine hK.out _ _ hH5 (fun hH => ?_)
            clear hK hb' hnb' ht5 hH5
            have hwd : (c.blanked b).wd = c.wd := rfl
            rw [hwd]
            clear hwd
            refine wpAnyH_take (i := 4) (oi := ⟨some 44, _, _, _, _, _⟩) rfl (by kernel_rfl) (by kernel_rfl) (by kernel_rfl) (fun _ _ _ h => h) (Or.inl ⟨by rfl, fun w hw => by (try dsimp only at hw); go_simp; with_reducible rfl⟩) (by assumption) ?_
            try simp only [Act.put, List.setIfInBounds_toArray, List.set_cons_zero, List.set_cons_succ]
            refine wpAnyH_done (by kernel_rfl) ?_ _
            change KK _ _
            refine HKK.out _ _ ?_
            clear heq HKK hH
            cases qe with
            | true =>
              go_wp2_with fail
              have hbad : badP c.wd p h = 130 := by
                unfold badP
                rw [if_pos HNB.out, HNE.out, if_pos HTY.out, if_pos (of_decide_eq_true HQE.out.symm)]
              have hfin : formP c.wd p 256 = 130 := by rw [formP_zero_bad HF.out hlt (by rw [hbad]; decide), hbad]
              go_ret
              exact ⟨by rw [hfin]; rfl, ⟨b', HR5.out, HNB5.out⟩, HT5.out⟩
            | false =>
              have hbad : badP c.wd p h = 0 := by
                unfold badP
                rw [if_pos HNB.out, HNE.out, if_pos HTY.out, if_neg (of_decide_eq_false HQE.out.symm)]
              have HBD := Lib.hid hbad
              clear hbad
              go_wp2_with fail
              go_roundw
              case rel => exact ⟨h + 1, by omega, by go_num, by rw [HCN.out]; go_num, by show _ = _; rw [formP, if_pos HF.out, HBD.out], ⟨b', HR5.out, HNB5.out⟩, HT5.out⟩
              case measure => simp [intOf]; omega
    · have hh256 : h = 256 := by omega
      subst hh256
      obtain ⟨b, hb0, hb1⟩ := HRr.out
      go_wp2_with fail
      go_ret
      exact ⟨by rw [HF.out]; rfl, ⟨b, hb0, hb1⟩, HT.out⟩
end Go.Proofs.YtfnlhfaihoojfaaDoor

/- client: climb, whatever watches. -/
namespace Go.Proofs.YtfnlhfaihoojfaaDoor
open Go.RowKit
/-- The watcher's blocks are none of the check's. -/
structure Far (U : Nat → Prop) (g : Nat) (c : Ck) : Prop where
  ck : ¬ U g
  sums : ∀ B, c.s.ownBlock = some B → ¬ U B
  blank : ∀ B, c.blank.ownBlock = some B → ¬ U B
  begin_ : ¬ U 0
  round_ : ¬ U 2
def NewU (w : World) (U U' : Nat → Prop) : Prop := ∀ B, U' B → U B ∨ w.heap.size ≤ B
def Eyed (g : Nat) (c : Ck) (p : Pr) (J : Nat → (Nat → Prop) → World → Prop) (h : Nat) (U : Nat → Prop) (b : Value) (w : World) (e : Ending) (w' : World) : Prop :=
  e = .returned (.tuple #[]) ∧ ∃ U' b', J (h + 1) U' w' ∧ Ready w' g (c.blanked b') p ∧ NewB w b b' ∧ Touch (fun B => U B ∨ B = g) w w' ∧ NewU w U U' ∧ Far U' g (c.blanked b')
/-- What a watcher owes: J h of its blocks U stands before it sees the height h. -/
structure Eye (fn : Nat) (cap : Array Value) (g : Nat) (c : Ck) (p : Pr) (ds : Nat → List Nat) (J : Nat → (Nat → Prop) → World → Prop) : Prop where
  enters : ∀ (args : Array Value) (w : World), (callFunc fn args).run Tryd.prog w = .ok (.enter fn args) w
  lt : ∀ {h : Nat} {U : Nat → Prop} {w : World}, J h U w → ∀ B, U B → B < w.heap.size
  keep : ∀ {h : Nat} {U V : Nat → Prop} {w w' : World}, J h U w → Touch V w w' → (∀ B, V B → ¬ U B) → J h U w'
  call : ∀ (h : Nat) (U : Nat → Prop) (b : Value) (w : World), h < 256 → J h U w → Ready w g (c.blanked b) p → Far U g (c.blanked b) →
    Calls Tryd.prog fn (#[.int .i64 h, .agg (bvs (ds h)).toArray, .agg (bvs (nearP c.wd p h)).toArray] ++ cap) w (Eyed g c p J h U b w)
theorem NewU.refl (w : World) (U : Nat → Prop) : NewU w U U := fun _ h => .inl h
theorem NewU.trans {w w' : World} {U U' U'' : Nat → Prop} (h : NewU w U U') (k : NewU w' U' U'') (hs : w.heap.size ≤ w'.heap.size) : NewU w U U'' := fun B hB => by
  rcases k B hB with h1 | h1
  · exact h B h1
  · exact .inr (by omega)
theorem BlankOk.own {w : World} {wd : Int} {b : Value} (h : BlankOk w wd b) : ∀ B, b.ownBlock = some B → B < w.heap.size := fun B hB => by
  rcases h with rfl | ⟨B', rfl, h2⟩
  · cases hB
  · injection hB with hB
    subst hB
    exact BlkIs.lt h2
theorem NewB.far {w : World} {b b' : Value} {U : Nat → Prop} (h : NewB w b b') (hu : ∀ B, U B → B < w.heap.size) (k : ∀ B, b.ownBlock = some B → ¬ U B) : ∀ B, b'.ownBlock = some B → ¬ U B := fun B hB => by
  rcases h with rfl | ⟨B', h1, rfl⟩
  · exact k B hB
  · injection hB with hB
    have hB : B' = B := hB
    subst hB
    intro h2
    have := hu _ h2
    omega
theorem NewU.not {w : World} {U U' : Nat → Prop} (hu : NewU w U U') {B : Nat} (h1 : B < w.heap.size) (h2 : ¬ U B) : ¬ U' B := fun h3 => by
  rcases hu B h3 with h4 | h4
  · exact h2 h4
  · omega
/-- The watcher's blocks and the check's stay apart: where the row of empty digests is made; where the watcher grows. -/
theorem Far.bare {w : World} {g : Nat} {c : Ck} {b b' : Value} {U : Nat → Prop} (h : Far U g (c.blanked b)) (hb : NewB w b b') (hlt : ∀ B, U B → B < w.heap.size) : Far U g (c.blanked b') :=
  ⟨h.ck, h.sums, hb.far hlt h.blank, h.begin_, h.round_⟩
theorem Far.same {w : World} {g : Nat} {c : Ck} {p : Pr} {b : Value} {U U' : Nat → Prop} (h : Far U g (c.blanked b)) (hr : Ready w g (c.blanked b) p) (hu : NewU w U U') : Far U' g (c.blanked b) :=
  ⟨hu.not hr.ck.lt h.ck, fun B hB => hu.not (row_lt hr.sums hB).2 (h.sums B hB), fun B hB => hu.not (hr.blank.own B hB) (h.blank B hB), hu.not hr.tabs.lt.1 h.begin_, hu.not hr.tabs.lt.2 h.round_⟩
theorem Far.mono {U V : Nat → Prop} {g : Nat} {c : Ck} (h : Far U g c) (hv : ∀ B, V B → U B) : Far V g c :=
  ⟨fun h1 => h.ck (hv _ h1), fun B hB h1 => h.sums B hB (hv _ h1), fun B hB h1 => h.blank B hB (hv _ h1), fun h1 => h.begin_ (hv _ h1), fun h1 => h.round_ (hv _ h1)⟩
theorem Ready.farNew {w : World} {g : Nat} {c : Ck} {p : Pr} (hr : Ready w g c p) : Far (fun B => w.heap.size ≤ B) g c :=
  ⟨fun h => by have := hr.ck.lt; omega, fun B hB h => by have := (row_lt hr.sums hB).2; omega, fun B hB h => by have := hr.blank.own B hB; omega, fun h => by have := hr.tabs.lt.1; omega, fun h => by have := hr.tabs.lt.2; omega⟩
theorem Ready.far {w w' : World} {g : Nat} {c : Ck} {p : Pr} {V : Nat → Prop} (hr : Ready w g c p) (ht : Touch V w w') (hf : Far V g c) : Ready w' g c p := by
  refine ⟨ht.blk hr.ck hf.ck, hr.ok, ?_, ht.row hr.sums hf.sums, hr.pok, hr.bits, hr.found, ⟨hr.tabs.1.keep ht.size (ht.block _ hr.tabs.1.1 hf.begin_), hr.tabs.2.keep ht.size (ht.block _ hr.tabs.2.1 hf.round_)⟩, hr.g1, hr.g2⟩
  rcases hr.blank with h1 | ⟨B, h1, h2⟩
  · exact .inl h1
  · exact .inr ⟨B, h1, ht.blk h2 (hf.blank B (by rw [h1]; rfl))⟩
theorem pathD_succ (w : Int) (k d0 : List Nat) (near : Nat → List Nat) (h : Nat) : pathD w k d0 near (h + 1) = nodeD w (branchT w (sidesN k h (pathD w k d0 near h) (near h)).1 (sidesN k h (pathD w k d0 near h) (near h)).2) := rfl
theorem pathD_facts (w : Int) (k : List Nat) {d0 : List Nat} (near : Nat → List Nat) (h0 : d0.length = 32) (h1 : IsB d0) (h : Nat) : (pathD w k d0 near h).length = 32 ∧ IsB (pathD w k d0 near h) := by
  cases h with
  | zero => exact ⟨h0, h1⟩
  | succ h => exact ⟨nodeD_length _ _, nodeD_isB _ _⟩
theorem sidesN_facts {k d n : List Nat} {h : Nat} (hd : IsB d) (hdl : d.length = 32) (hn : IsB n) (hnl : n.length = 32) : IsB (sidesN k h d n).1 ∧ (sidesN k h d n).1.length = 32 ∧ IsB (sidesN k h d n).2 ∧ (sidesN k h d n).2.length = 32 := by
  unfold sidesN
  split <;> exact ⟨by assumption, by assumption, by assumption, by assumption⟩
/-- What stands behind a climb. -/
def Climbed (g : Nat) (c : Ck) (p : Pr) (d0 : List Nat) (J : Nat → (Nat → Prop) → World → Prop) (U : Nat → Prop) (b : Value) (w : World) (e : Ending) (w' : World) : Prop :=
  e = .returned (.agg (bvs (pathD c.wd c.key d0 (nearP c.wd p) 256)).toArray) ∧ ∃ U' b', J 256 U' w' ∧ Ready w' g (c.blanked b') p ∧ NewB w b b' ∧ Touch (fun B => U B ∨ B = g) w w' ∧ NewU w U U' ∧ Far U' g (c.blanked b')
end Go.Proofs.YtfnlhfaihoojfaaDoor
