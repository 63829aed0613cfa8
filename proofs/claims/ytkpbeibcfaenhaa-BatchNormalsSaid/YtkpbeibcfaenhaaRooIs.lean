/- ledgerlaw3.roomyChangesAre. -/
import Derived.Test.YtkpbeibcfaenhaaTurnC
import Derived.Test.YtkpbeibcfaenhaaSameC
namespace Go.Proofs.Ytkpbeibcfaenhaa
open Go.RowKit
theorem yields_sliceFromC {P : Program} {ops : Array Oper} {S : World → Prop} {o : Oper} {a : Act} (hw : Region.wanted o (yielded ops a.tmps) = true) (t : TypeId) (x ix : Operand)
    (ho : o.op = .slice t x (some ix) none none) (ht : P.underlying t = some (.slice (P.elem t))) (hsz : (P.info? (P.elem t)).map (·.size) = some 34) (A : Option Addr) (m d k : Nat) (hx : a.eval x = .slice A m d) (hi : a.eval ix = .int .i64 (k : Int))
    (hk : k ≤ m) (B : Option Addr) (hB : (if d = k then A else A.map (·.add (k * 34))) = B) (r s : Nat) (hr : m - k = r) (hs : d - k = s) : YieldsIf P ops S o (.slice B r s) a :=
  .inl ⟨hw, fun w _ => by
    have hsz' : (sizeOf (P.elem t)).run P w = .ok 34 w := by
      cases hq : P.info? (P.elem t) with
      | none => simp [hq] at hsz
      | some i =>
        have h1 : i.size = 34 := by simpa [hq] using hsz
        simp [sizeOf, typeInfo, hq, h1]
    have hrun : (Instr.sliceAt t (.slice A m d) (some (.int .i64 (k : Int))) none none).run P w = .ok (.slice (if d = k then A else A.map (·.add (k * 34))) (m - k) (d - k)) w := by
      rw [run_sliceAt_slice w t _ _ _ _ ht, run_slice_l w t A m d ht .i64 (k : Int) (by omega) (by omega), hsz']
      simp only [Result.andThen_ok, sliced, Int.toNat_natCast]
    rw [hB, hr, hs] at hrun
    unfold execOp
    simp only [ho, hx, hi, Option.map, Sem.run_bind, Sem.run_pure, hrun, Result.andThen_ok]⟩
theorem spare_chs {w : World} {g gs : Nat} (h1 : BlkIs w g 45 (chC sp0 (some ⟨gs, 0, none⟩) 1 ++ chC sp1 none 0).toArray) (h2 : BlkB w gs 5 [202]) : ChsAt w (some ⟨g, 0, none⟩) 2 spX := by
  refine ⟨by simp [maxLen], fun i hi => ?_⟩
  have hi2 : i = 0 ∨ i = 1 := by omega
  rcases hi2 with rfl | rfl
  · refine ⟨g, 0, some ⟨gs, 0, none⟩, 1, rfl, BlkIs.lt h1, ?_, spKey_isB (by omega), spKey_length _, ?_, Nat.le_refl _, by simp [maxLen], fun e => by cases e⟩
    · exact BlkIs.rangeMid h1 fun j v hj => by rw [show 0 + 0 * 34 + j = j by omega, List.getElem?_append_left (show j < (chC sp0 (some ⟨gs, 0, none⟩) 1).length from (List.getElem?_eq_some_iff.1 hj).1)]; exact hj
    · exact h2.whole (n := 1) (IsB.one (by omega)) rfl
  · refine ⟨g, 0, none, 0, rfl, BlkIs.lt h1, ?_, spKey_isB (by omega), spKey_length _, RB.nil _ _, Nat.le_refl _, Nat.zero_le _, fun _ => rfl⟩
    exact BlkIs.rangeMid h1 fun j v hj => by
      rw [List.getElem?_append_right (by rw [chC_length (spKey_length _)]; omega), chC_length (spKey_length _), show 0 + 1 * 34 + j - 34 = j by omega]
      exact hj
set_option maxRecDepth 100000 in
set_option maxHeartbeats 4000000 in
theorem rooIs_true (base top g N C c : Nat) (X Y : Nat → Chg) (Gv : Nat → Nat) (A V : Option Addr) (w : World) (h : Roo w base top g N X Gv V) (hy : ChsAt w A N Y) (he : ∀ k, k < N → Y k = X k) :
    Calls Try.prog 38 #[.slice (some ⟨g, 0, none⟩) ((N + 2 : Nat)) ((N + 2 : Nat)), .slice V N C, .slice A N c] w fun e w' => e = .returned (.bool true) ∧ Below w.heap.size w w' := by
  have HR := Lib.hid h
  have HY := Lib.hid hy
  have HE := Lib.hid he
  have hr := h.room.1
  obtain ⟨M, hM⟩ : ∃ M, N + 2 = M := ⟨_, rfl⟩
  have HM := Lib.hid hM
  rw [hM] at hr ⊢
  unfold maxLen at hr
  have hNM : N ≤ M := by omega
  have hNM' : (N : Int) ≤ M := by omega
  have hsum : IntKind.i64.wrap ((N : Int) + 2) = (M : Int) := by rw [IntWalk.i64_in _ (by omega)]; omega
  have hMM : ((M : Int) != (M : Int)) = false := by simp
  clear h hy he hM
  go_enter Try.func38, Try.ntmps38
  go_wp2_with fail
  rename_i KK hKK
  have HKK := Lib.hid hKK
  clear hKK
  refine wp_region_held_drew (S := fun _ => True) (by kernel_rfl) trivial fun hH => ?_
  refine wpAnyH_take (i := 0) (oi := ⟨some 11, _, _, _, _, _⟩) rfl (by kernel_rfl) (by kernel_rfl) (by kernel_rfl) (fun _ _ _ h => h) (Or.inl ⟨by rfl, fun w hw => by ((try dsimp only at hw); go_split_ands; go_simp; with_reducible rfl)⟩) (by assumption) ?_
  try simp only [Act.put, List.setIfInBounds_toArray, List.set_cons_zero, List.set_cons_succ]
  refine wpAnyH_take (i := 1) (oi := ⟨some 12, _, _, _, _, _⟩) rfl (by kernel_rfl) (by kernel_rfl) (by kernel_rfl) (fun _ _ _ h => h) (Or.inl ⟨by rfl, fun w hw => by ((try dsimp only at hw); go_split_ands; go_simp; with_reducible rfl)⟩) (by assumption) ?_
  try simp only [Act.put, List.setIfInBounds_toArray, List.set_cons_zero, List.set_cons_succ]
  refine wpAnyH_take (i := 2) (oi := ⟨some 13, _, _, _, _, _⟩) rfl (by kernel_rfl) (by kernel_rfl) (by kernel_rfl) (fun _ _ _ h => h) (Or.inl ⟨by rfl, fun w hw => by ((try dsimp only at hw); go_split_ands; go_simp; with_reducible rfl)⟩) (by assumption) ?_
  try simp only [Act.put, List.setIfInBounds_toArray, List.set_cons_zero, List.set_cons_succ]
  refine wpAnyH_take (i := 3) (oi := ⟨some 14, _, _, _, _, _⟩) rfl (by kernel_rfl) (by kernel_rfl) (by kernel_rfl) (fun _ _ _ h => h) (Or.inl ⟨by rfl, fun w hw => by ((try dsimp only at hw); go_split_ands; go_simp; with_reducible rfl)⟩) (by assumption) ?_
  try simp only [Act.put, List.setIfInBounds_toArray, List.set_cons_zero, List.set_cons_succ]
  refine wpAnyH_take (i := 4) (oi := ⟨some 15, _, _, _, _, _⟩) rfl (by kernel_rfl) (by kernel_rfl) (by kernel_rfl) (fun _ _ _ h => h) (Or.inl ⟨by rfl, fun w hw => by ((try dsimp only at hw); go_split_ands; go_simp; with_reducible rfl)⟩) (by assumption) ?_
  try simp only [Act.put, List.setIfInBounds_toArray, List.set_cons_zero, List.set_cons_succ]
  refine wpAnyH_take (i := 5) (oi := ⟨some 16, _, _, _, _, _⟩) rfl (by kernel_rfl) (by kernel_rfl) (by kernel_rfl) (fun _ _ _ h => h) (Or.inl ⟨by rfl, fun w hw => by ((try dsimp only at hw); go_split_ands; go_simp; with_reducible rfl)⟩) (by assumption) ?_
  try simp only [Act.put, List.setIfInBounds_toArray, List.set_cons_zero, List.set_cons_succ]
  refine wpAnyH_take (i := 6) (oi := ⟨some 17, _, _, _, _, _⟩) rfl (by kernel_rfl) (by kernel_rfl) (by kernel_rfl) (fun _ _ _ h => h) (Or.inl ⟨by rfl, fun w hw => by ((try dsimp only at hw); go_split_ands; go_simp; with_reducible rfl)⟩) (by assumption) ?_
  try simp only [Act.put, List.setIfInBounds_toArray, List.set_cons_zero, List.set_cons_succ]
  refine wpAnyH_take (i := 7) (oi := ⟨some 18, _, _, _, _, _⟩) rfl (by kernel_rfl) (by kernel_rfl) (by kernel_rfl) (fun _ _ _ h => h) (Or.inl ⟨by rfl, fun w hw => by ((try dsimp only at hw); go_split_ands; go_simp; with_reducible rfl)⟩) (by assumption) ?_
  try simp only [Act.put, List.setIfInBounds_toArray, List.set_cons_zero, List.set_cons_succ]
  refine wpAnyH_take (i := 8) (oi := ⟨some 19, _, _, _, _, _⟩) rfl (by kernel_rfl) (by kernel_rfl) (by kernel_rfl) (fun _ _ _ h => h) (Or.inl ⟨by rfl, fun w hw => by ((try dsimp only at hw); go_split_ands; go_simp; with_reducible rfl)⟩) (by assumption) ?_
  try simp only [Act.put, List.setIfInBounds_toArray, List.set_cons_zero, List.set_cons_succ]
  refine wpAnyH_take (i := 9) (oi := ⟨some 20, _, _, _, _, _⟩) rfl (by kernel_rfl) (by kernel_rfl) (by kernel_rfl) (fun _ _ _ h => h) (Or.inl ⟨by rfl, fun w hw => by ((try dsimp only at hw); go_split_ands; go_simp; with_reducible rfl)⟩) (by assumption) ?_
  try simp only [Act.put, List.setIfInBounds_toArray, List.set_cons_zero, List.set_cons_succ]
  refine wpAnyH_ready (rs := [10]) (by kernel_rfl) (by simp) ?_
  refine AllReadyH.cons rfl (fun K hK => ?_) (AllReadyH.nil)
  go_simp
  refine (sameC_true (some ⟨g, 0, none⟩) A N M c X Y w.drew (HR.out.front.below (drewN_below (Below.refl _ _) 1)) (HY.out.below (drewN_below (Below.refl _ _) 1)) (fun k hk => (HE.out k hk).symm)).mono ?_
  rintro e w1 ⟨rfl, q1, hq1⟩
  have HB1 : Hid (Below w.heap.size w w1) := by show Below _ _ _; rw [hq1]; exact drewN_below (drewN_below (Below.refl _ _) 1) q1
  clear hq1
  refine hK.out _ _ trivial (fun hH2 => ?_)
  clear hK hH
  refine wpAnyH_take (i := 11) (oi := ⟨some 22, _, _, _, _, _⟩) rfl (by kernel_rfl) (by kernel_rfl) (by kernel_rfl) (fun _ _ _ h => h) (Or.inl ⟨by rfl, fun w hw => by ((try dsimp only at hw); go_split_ands; go_simp; with_reducible rfl)⟩) (by assumption) ?_
  try simp only [Act.put, List.setIfInBounds_toArray, List.set_cons_zero, List.set_cons_succ]
  refine wpAnyH_take (i := 12) (oi := ⟨some 23, _, _, _, _, _⟩) rfl (by kernel_rfl) (by kernel_rfl) (by kernel_rfl) (fun _ _ _ h => h) (Or.inl ⟨by rfl, fun w hw => by ((try dsimp only at hw); go_split_ands; go_simp; with_reducible rfl)⟩) (by assumption) ?_
  try simp only [Act.put, List.setIfInBounds_toArray, List.set_cons_zero, List.set_cons_succ]
  refine wpAnyH_take (i := 13) (oi := ⟨some 24, _, _, _, _, _⟩) rfl (by kernel_rfl) (by kernel_rfl) (by kernel_rfl) (fun _ _ _ h => h) (Or.inl ⟨by rfl, fun w hw => by ((try dsimp only at hw); go_split_ands; go_simp; with_reducible rfl)⟩) (by assumption) ?_
  try simp only [Act.put, List.setIfInBounds_toArray, List.set_cons_zero, List.set_cons_succ]
  refine wpAnyH_take (i := 14) (oi := ⟨some 25, _, _, _, _, _⟩) rfl (by kernel_rfl) (by kernel_rfl) (by kernel_rfl) (fun _ _ _ h => h) (Or.inl ⟨by rfl, fun w hw => by ((try dsimp only at hw); go_split_ands; go_simp; with_reducible rfl)⟩) (by assumption) ?_
  try simp only [Act.put, List.setIfInBounds_toArray, List.set_cons_zero, List.set_cons_succ]
  refine wpAnyH_take (i := 15) (oi := ⟨some 26, _, _, _, _, _⟩) rfl (by kernel_rfl) (by kernel_rfl) (by kernel_rfl) (fun _ _ _ h => h) (Or.inl ⟨by rfl, fun w hw => by ((try dsimp only at hw); go_split_ands; go_simp; with_reducible rfl)⟩) (by assumption) ?_
  try simp only [Act.put, List.setIfInBounds_toArray, List.set_cons_zero, List.set_cons_succ]
  refine wpAnyH_take (i := 16) (oi := ⟨some 27, _, _, _, _, _⟩) rfl (by kernel_rfl) (by kernel_rfl) (by kernel_rfl) (fun _ _ _ h => h) (yields_sliceFromC (by rfl) 30 (.tmp 25) (.tmp 26) rfl (by rw [elem_chl]; exact und_chl) (by rw [elem_chl]; exact size_chg) (some ⟨g, 0, none⟩) M M N rfl rfl hNM (some ⟨g, N * 34, none⟩) (by rw [if_neg (by have := HM.out; omega)]; simp [add_lit]) 2 2 (by have := HM.out; omega) (by have := HM.out; omega)) (by assumption) ?_
  try simp only [Act.put, List.setIfInBounds_toArray, List.set_cons_zero, List.set_cons_succ]
  refine wpAnyH_ready (rs := [17]) (by kernel_rfl) (by simp) ?_
  refine AllReadyH.cons rfl (fun K hK => ?_) (AllReadyH.nil)
  go_simp
  refine (spare_any w1).mono ?_
  rintro e w2 ⟨g2, gs, rfl, hg2, hgs, hne2, hB2, hBs, hb2⟩
  have HB2 := Lib.hid (HB1.out.trans (hb2.mono HB1.out.size))
  have HC2 := Lib.hid (spare_chs hB2 hBs)
  clear hg2 hgs hne2 hB2 hBs hb2
  refine hK.out _ _ trivial (fun hH3 => ?_)
  clear hK hH2
  refine wpAnyH_ready (rs := [18]) (by kernel_rfl) (by simp) ?_
  refine AllReadyH.cons rfl (fun K hK => ?_) (AllReadyH.nil)
  go_simp
  refine (sameC_true (some ⟨g, N * 34, none⟩) (some ⟨g2, 0, none⟩) 2 2 2 spX spX w2 ((HR.out.below HB2.out).back) HC2.out (fun _ _ => rfl)).mono ?_
  rintro e w3 ⟨rfl, q3, hq3⟩
  have HB3 : Hid (Below w.heap.size w w3) := by show Below _ _ _; rw [hq3]; exact drewN_below HB2.out q3
  clear hq3
  refine hK.out _ _ trivial (fun hH4 => ?_)
  clear hK hH3
  refine wpAnyH_take (i := 19) (oi := ⟨some 30, _, _, _, _, _⟩) rfl (by kernel_rfl) (by kernel_rfl) (by kernel_rfl) (fun _ _ _ h => h) (Or.inl ⟨by rfl, fun w hw => by ((try dsimp only at hw); go_split_ands; go_simp; with_reducible rfl)⟩) (by assumption) ?_
  try simp only [Act.put, List.setIfInBounds_toArray, List.set_cons_zero, List.set_cons_succ]
  refine wpAnyH_take (i := 20) (oi := ⟨some 31, _, _, _, _, _⟩) rfl (by kernel_rfl) (by kernel_rfl) (by kernel_rfl) (fun _ _ _ h => h) (Or.inl ⟨by rfl, fun w hw => by ((try dsimp only at hw); go_split_ands; go_simp; with_reducible rfl)⟩) (by assumption) ?_
  try simp only [Act.put, List.setIfInBounds_toArray, List.set_cons_zero, List.set_cons_succ]
  refine wpAnyH_done (by kernel_rfl) ?_ _
  change KK _ _
  refine HKK.out _ _ ?_
  clear hH4 hsum hMM HC2 HB2 HB1
  go_wp2_with fail
  go_loopw [8] (fun i wr => ∃ k : Nat, k ≤ N ∧ i = .int .i64 k ∧ Hid (Below w.heap.size w wr)) (fun i _ => N - (intOf i).toNat)
  case atStart => exact ⟨0, by omega, rfl, HB3.out⟩
  case round =>
    clear HB3
    obtain ⟨k, hk, rfl, HB⟩ := hrel
    obtain ⟨w4, rfl⟩ : ∃ w4, w4 = wr := ⟨_, rfl⟩
    by_cases hlt : k < N
    · have hlt' : (k : Int) < N := by omega
      obtain ⟨bv, rfl, hv1, hv2, hv3, hv4, hv5⟩ := (HR.out.below HB.out).vals k hlt
      obtain ⟨b, o, Av, Cv, rfl, hb, hr, hkB, hkl, hvr, hvC, hCm, hnil⟩ := (HY.out.below HB.out).2 k hlt
      rw [HE.out k hlt] at hr hkB hkl hvr hvC
      have hvl := (HR.out).len k hlt
      have hwh := (HR.out.below HB.out).whole hlt
      have bvlt : bv < w4.heap.size := lt_of_cell hv5
      have KS : Hid (∀ W, Below w4.heap.size w4 W → W.cell? ⟨bv, k, none⟩ = some (.slice (some ⟨Gv k, 0, none⟩) ((X k).val.length + 100) ((X k).val.length + 100)) ∧ W.cell? ⟨b, o + k * 34 + 33, none⟩ = some (.slice Av (X k).val.length Cv)) := fun W hW => ⟨(hW.cell (p := ⟨bv, k, none⟩) bvlt).trans hv5, ch_val (range_below hW hb hr) hkl⟩
      have HRM := Lib.hid (roomyIs_true (A := some ⟨Gv k, 0, none⟩) (B := Av) (n := (X k).val.length) (c := (X k).val.length + 100) (d := Cv) (xs := (X k).val) (w := w4.drew) (hwh.below (drewN_below (Below.refl _ _) 1)) (hvr.below (drewN_below (Below.refl _ _) 1)) hvl)
      clear hr hkB hkl hvr hvC hCm hnil hv1 hv2 hv3 hv4 hv5 hwh hb bvlt
      generalize (X k).val.length = L at *
      go_wp2_with fail
      rename_i KK2 hKK2
      have HKK2 := Lib.hid hKK2
      clear hKK2
      refine wp_region_held_drew (S := fun w' => w'.cell? ⟨bv, k, none⟩ = some (.slice (some ⟨Gv k, 0, none⟩) (L + 100) (L + 100)) ∧ w'.cell? ⟨b, o + k * 34 + 33, none⟩ = some (.slice Av L Cv)) (by kernel_rfl) (KS.out _ (drewN_below (Below.refl _ _) 1)) fun hH => ?_
      refine wpAnyH_take (i := 0) (oi := ⟨some 37, _, _, _, _, _⟩) rfl (by kernel_rfl) (by kernel_rfl) (by kernel_rfl) (fun _ _ _ h => h) (Or.inl ⟨by rfl, fun w hw => by ((try dsimp only at hw); go_split_ands; go_simp; with_reducible rfl)⟩) (by assumption) ?_
      try simp only [Act.put, List.setIfInBounds_toArray, List.set_cons_zero, List.set_cons_succ]
      refine wpAnyH_take (i := 1) (oi := ⟨some 38, _, _, _, _, _⟩) rfl (by kernel_rfl) (by kernel_rfl) (by kernel_rfl) (fun _ _ _ h => h) (Or.inl ⟨by rfl, fun w hw => by ((try dsimp only at hw); go_split_ands; go_simp; with_reducible rfl)⟩) (by assumption) ?_
      try simp only [Act.put, List.setIfInBounds_toArray, List.set_cons_zero, List.set_cons_succ]
      refine wpAnyH_take (i := 2) (oi := ⟨some 39, _, _, _, _, _⟩) rfl (by kernel_rfl) (by kernel_rfl) (by kernel_rfl) (fun _ _ _ h => h) (Or.inl ⟨by rfl, fun w hw => by ((try dsimp only at hw); go_split_ands; go_simp; with_reducible rfl)⟩) (by assumption) ?_
      try simp only [Act.put, List.setIfInBounds_toArray, List.set_cons_zero, List.set_cons_succ]
      refine wpAnyH_take (i := 3) (oi := ⟨some 40, _, _, _, _, _⟩) rfl (by kernel_rfl) (by kernel_rfl) (by kernel_rfl) (fun _ _ _ h => h) (Or.inl ⟨by rfl, fun w hw => by ((try dsimp only at hw); go_split_ands; go_simp; with_reducible rfl)⟩) (by assumption) ?_
      try simp only [Act.put, List.setIfInBounds_toArray, List.set_cons_zero, List.set_cons_succ]
      refine wpAnyH_take (i := 4) (oi := ⟨some 41, _, _, _, _, _⟩) rfl (by kernel_rfl) (by kernel_rfl) (by kernel_rfl) (fun _ _ _ h => h) (Or.inl ⟨by rfl, fun w hw => by ((try dsimp only at hw); go_split_ands; go_simp; with_reducible rfl)⟩) (by assumption) ?_
      try simp only [Act.put, List.setIfInBounds_toArray, List.set_cons_zero, List.set_cons_succ]
      refine wpAnyH_take (i := 5) (oi := ⟨some 42, _, _, _, _, _⟩) rfl (by kernel_rfl) (by kernel_rfl) (by kernel_rfl) (fun _ _ _ h => h) (Or.inl ⟨by rfl, fun w hw => by ((try dsimp only at hw); go_split_ands; go_simp; with_reducible rfl)⟩) (by assumption) ?_
      try simp only [Act.put, List.setIfInBounds_toArray, List.set_cons_zero, List.set_cons_succ]
      refine wpAnyH_take (i := 6) (oi := ⟨some 43, _, _, _, _, _⟩) rfl (by kernel_rfl) (by kernel_rfl) (by kernel_rfl) (fun _ _ _ h => h) (Or.inl ⟨by rfl, fun w hw => by ((try dsimp only at hw); go_split_ands; go_simp; with_reducible rfl)⟩) (by assumption) ?_
      try simp only [Act.put, List.setIfInBounds_toArray, List.set_cons_zero, List.set_cons_succ]
      refine wpAnyH_take (i := 7) (oi := ⟨some 44, _, _, _, _, _⟩) rfl (by kernel_rfl) (by kernel_rfl) (by kernel_rfl) (fun _ _ _ h => h) (Or.inl ⟨by rfl, fun w hw => by ((try dsimp only at hw); go_split_ands; go_simp; with_reducible rfl)⟩) (by assumption) ?_
      try simp only [Act.put, List.setIfInBounds_toArray, List.set_cons_zero, List.set_cons_succ]
      refine wpAnyH_take (i := 8) (oi := ⟨some 45, _, _, _, _, _⟩) rfl (by kernel_rfl) (by kernel_rfl) (by kernel_rfl) (fun _ _ _ h => h) (Or.inl ⟨by rfl, fun w hw => by ((try dsimp only at hw); go_split_ands; go_simp; with_reducible rfl)⟩) (by assumption) ?_
      try simp only [Act.put, List.setIfInBounds_toArray, List.set_cons_zero, List.set_cons_succ]
      refine wpAnyH_ready (rs := [9]) (by kernel_rfl) (by simp) ?_
      refine AllReadyH.cons rfl (fun K hK => ?_) (AllReadyH.nil)
      go_simp
      refine HRM.out.mono ?_
      rintro e w5 ⟨rfl, hb5⟩
      have HB5 : Hid (Below w4.heap.size w4 w5) := (drewN_below (Below.refl _ _) 1).trans hb5
      clear hb5 HRM
      refine hK.out _ _ (KS.out _ HB5.out) (fun hH2 => ?_)
      clear hK hH
      refine wpAnyH_take (i := 10) (oi := ⟨some 47, _, _, _, _, _⟩) rfl (by kernel_rfl) (by kernel_rfl) (by kernel_rfl) (fun _ _ _ h => h) (Or.inl ⟨by rfl, fun w hw => by ((try dsimp only at hw); go_split_ands; go_simp; with_reducible rfl)⟩) (by assumption) ?_
      try simp only [Act.put, List.setIfInBounds_toArray, List.set_cons_zero, List.set_cons_succ]
      refine wpAnyH_done (by kernel_rfl) ?_ _
      change KK2 _ _
      refine HKK2.out _ _ ?_
      clear hH2
      have HB6 := Lib.hid (HB.out.trans (HB5.out.mono HB.out.size))
      go_wp2_with fail
      go_roundw
      case rel => exact ⟨k + 1, by omega, by go_num, HB6.out⟩
      case measure => simp [intOf]; omega
    · have hnlt : ¬ (k : Int) < N := by omega
      go_wp2_with fail
      go_ret
      exact ⟨rfl, HB.out⟩
end Go.Proofs.Ytkpbeibcfaenhaa
