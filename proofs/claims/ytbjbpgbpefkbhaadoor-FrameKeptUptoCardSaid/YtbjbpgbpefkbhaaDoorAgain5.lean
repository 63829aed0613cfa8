/- ledgerlaw5.again: what a step's list is. (printed by gen_again5.py) -/
import Derived.Test.YtbjbpgbpefkbhaaDoorPlays5
import Derived.Deep.RegionHeld3
import Derived.Deep.Draws
namespace Go.Proofs.YtbjbpgbpefkbhaaDoor
open Go.RowKit
/-- The list that a step hands out. -/
def againN (call kind page : Int) (xs : List Nat) (s : Sup) : List Nat :=
  if call = 0 then (packN kind page xs).1 else if call = 1 then (unpackN page xs).2.1 else if call = 2 then (packSN s).1 else []
theorem againN_len (call kind page : Int) (xs : List Nat) (s : Sup) (h : xs.length ≤ 1048576) : (againN call kind page xs s).length ≤ 1048576 := by
  have h1 := packN_len' kind page xs
  have h2 := unpackN_len' page xs
  have h3 := packSN_len' s
  unfold againN
  split
  · omega
  · split
    · omega
    · split
      · omega
      · exact Nat.zero_le _
def Again (base : Nat) (zs : List Nat) (e : Ending) (w' : World) : Prop := ∃ l m, e = .returned (.tuple #[l, m]) ∧ OwnU w' base l zs ∧ OwnU w' base m zs ∧ ∀ B, l.ownBlock = some B → m.ownBlock ≠ some B
set_option maxRecDepth 20000 in
set_option maxHeartbeats 4000000 in
theorem again_zero (kind page s1 s2 s3 s4 s5 : Int) (A B : Option Addr) (c d : Nat) (xs ys : List Nat) (w : World) (hA : RB w A xs.length xs) (hnc : xs.length ≤ c) (hla : xs.length ≤ 1048576) (hd : DivT w) :
    Calls Tryd.prog 24 #[.agg #[.int .i64 0, .int .i64 kind, .int .i64 page, .slice A xs.length c, .slice B ys.length d, .int .i64 s1, .int .i64 s2, .int .i64 s3, .int .i64 s4, .int .i64 s5]] w fun e w' => Again w.heap.size (againN 0 kind page xs ⟨s1, s2, s3, s4, s5⟩) e w' ∧ Below w.heap.size w w' := by
  have HA0 := Lib.hid hA
  have HD0 := Lib.hid hd
  have HNC := Lib.hid hnc
  have hla2 : (xs.length : Int) ≤ 1048576 := by omega
  obtain ⟨w1, hw1⟩ : ∃ w1, w1 = w.alloc (.cells #[.int .i64 0, .int .i64 kind, .int .i64 page, .slice A xs.length c, .slice B ys.length d, .int .i64 s1, .int .i64 s2, .int .i64 s3, .int .i64 s4, .int .i64 s5] 52) := ⟨_, rfl⟩
  have HW := Lib.hid hw1
  have HB1 : Hid (Below w.heap.size w w1) := by
    rw [hw1]
    exact (Below.refl _ _).alloc (Nat.le_refl _) _
  have HT1 : Hid (BlkIs w1 w.heap.size 52 #[.int .i64 0, .int .i64 kind, .int .i64 page, .slice A xs.length c, .slice B ys.length d, .int .i64 s1, .int .i64 s2, .int .i64 s3, .int .i64 s4, .int .i64 s5]) := by
    rw [hw1]
    exact BlkIs.new w _ _
  have HX1 := Lib.hid (HA0.out.below HB1.out)
  have HD1 := Lib.hid (HD0.out.below HB1.out)
  clear hw1 hA hd hla hnc HA0 HD0
  have HZ : Hid (againN 0 kind page xs ⟨s1, s2, s3, s4, s5⟩ = (packN kind page xs).1) := rfl
  have hc := try_cells HT1.out
  go_enter Tryd.func24, Tryd.ntmps24
  go_wp2_with fail
  rw [← HW.out]
  rename_i KK hKK
  have HKK := Lib.hid hKK
  clear hKK
  have hs0 : w1.cell? ⟨w.heap.size, 1, none⟩ = some (.int .i64 kind) ∧ w1.cell? ⟨w.heap.size, 2, none⟩ = some (.int .i64 page) ∧ w1.cell? ⟨w.heap.size, 3, none⟩ = some (.slice A xs.length c) := by
    obtain ⟨q0, q1, q2, q3, q4, q5, q6, q7, q8, q9⟩ := hc
    exact ⟨q1, q2, q3⟩
  clear hc HW
  have hkeep : ∀ w2 w3 : World, (w2.cell? ⟨w.heap.size, 1, none⟩ = some (.int .i64 kind) ∧ w2.cell? ⟨w.heap.size, 2, none⟩ = some (.int .i64 page) ∧ w2.cell? ⟨w.heap.size, 3, none⟩ = some (.slice A xs.length c)) → w.heap.size < w2.heap.size → Below w2.heap.size w2 w3 → (w3.cell? ⟨w.heap.size, 1, none⟩ = some (.int .i64 kind) ∧ w3.cell? ⟨w.heap.size, 2, none⟩ = some (.int .i64 page) ∧ w3.cell? ⟨w.heap.size, 3, none⟩ = some (.slice A xs.length c)) := fun w2 w3 h hl hb => by
    obtain ⟨q1, q2, q3⟩ := h
    exact ⟨(hb.cell (p := ⟨w.heap.size, 1, none⟩) hl).trans q1, (hb.cell (p := ⟨w.heap.size, 2, none⟩) hl).trans q2, (hb.cell (p := ⟨w.heap.size, 3, none⟩) hl).trans q3⟩
  have HKE := Lib.hid hkeep
  clear hkeep
  have HGL : Hid (w.heap.size < w1.heap.size) := HT1.out.lt
  refine wp_region_held_drew (S := fun w' => (w'.cell? ⟨w.heap.size, 1, none⟩ = some (.int .i64 kind) ∧ w'.cell? ⟨w.heap.size, 2, none⟩ = some (.int .i64 page) ∧ w'.cell? ⟨w.heap.size, 3, none⟩ = some (.slice A xs.length c)) ∧ Below w1.heap.size w1 w') (by kernel_rfl) ⟨hs0, drewN_below (Below.refl _ _) 1⟩ fun hH => ?_
  refine wpAnyH_take (i := 0) (oi := ⟨some 23, _, _, _, _, _⟩) rfl (by kernel_rfl) (by kernel_rfl) (by kernel_rfl) (fun _ _ _ h => h) (Or.inl ⟨by rfl, fun w hw => by (try dsimp only at hw); go_simp; with_reducible rfl⟩) (by assumption) ?_
  try simp only [Act.put, List.setIfInBounds_toArray, List.set_cons_zero, List.set_cons_succ]
  refine wpAnyH_take (i := 1) (oi := ⟨some 24, _, _, _, _, _⟩) rfl (by kernel_rfl) (by kernel_rfl) (by kernel_rfl) (fun _ _ _ h => h) (Or.inl ⟨by rfl, fun w hw => by ((try dsimp only at hw); go_split_ands; go_simp; with_reducible rfl)⟩) (by assumption) ?_
  try simp only [Act.put, List.setIfInBounds_toArray, List.set_cons_zero, List.set_cons_succ]
  refine wpAnyH_take (i := 2) (oi := ⟨some 25, _, _, _, _, _⟩) rfl (by kernel_rfl) (by kernel_rfl) (by kernel_rfl) (fun _ _ _ h => h) (Or.inl ⟨by rfl, fun w hw => by (try dsimp only at hw); go_simp; with_reducible rfl⟩) (by assumption) ?_
  try simp only [Act.put, List.setIfInBounds_toArray, List.set_cons_zero, List.set_cons_succ]
  refine wpAnyH_take (i := 3) (oi := ⟨some 26, _, _, _, _, _⟩) rfl (by kernel_rfl) (by kernel_rfl) (by kernel_rfl) (fun _ _ _ h => h) (Or.inl ⟨by rfl, fun w hw => by ((try dsimp only at hw); go_split_ands; go_simp; with_reducible rfl)⟩) (by assumption) ?_
  try simp only [Act.put, List.setIfInBounds_toArray, List.set_cons_zero, List.set_cons_succ]
  refine wpAnyH_take (i := 4) (oi := ⟨some 27, _, _, _, _, _⟩) rfl (by kernel_rfl) (by kernel_rfl) (by kernel_rfl) (fun _ _ _ h => h) (Or.inl ⟨by rfl, fun w hw => by (try dsimp only at hw); go_simp; with_reducible rfl⟩) (by assumption) ?_
  try simp only [Act.put, List.setIfInBounds_toArray, List.set_cons_zero, List.set_cons_succ]
  refine wpAnyH_take (i := 5) (oi := ⟨some 28, _, _, _, _, _⟩) rfl (by kernel_rfl) (by kernel_rfl) (by kernel_rfl) (fun _ _ _ h => h) (Or.inl ⟨by rfl, fun w hw => by ((try dsimp only at hw); go_split_ands; go_simp; with_reducible rfl)⟩) (by assumption) ?_
  try simp only [Act.put, List.setIfInBounds_toArray, List.set_cons_zero, List.set_cons_succ]
  refine wpAnyH_ready (rs := [6]) (by kernel_rfl) (by simp) ?_
  refine AllReadyH.cons rfl (fun K hK => ?_) (AllReadyH.nil)
  go_simp
  go_at_call 12
  have HDR := Lib.hid hH.2
  refine (copied_any A _ c xs _ (HX1.out.below HDR.out) (by omega)).mono ?_
  rintro e w5 ⟨vx, rfl, ho, hb⟩
  have HB5 := Lib.hid (HDR.out.trans hb)
  have HP5 := Lib.hid ho
  obtain ⟨Ax, cx, rfl, _⟩ := ho.form
  refine hK.out _ _ ⟨HKE.out _ _ hs0 HGL.out HB5.out, HB5.out⟩ (fun hH5 => ?_)
  clear ho hb hK hH
  refine wpAnyH_ready (rs := [7]) (by kernel_rfl) (by simp) ?_
  refine AllReadyH.cons rfl (fun K hK => ?_) (AllReadyH.nil)
  go_simp
  go_at_call 31
  refine (pack_any kind page Ax _ cx xs w5 HP5.out.reads (by omega)).mono ?_
  rintro e w6 ⟨⟨vl, rfl, ho⟩, hb⟩
  have HB6 : Hid (Below w.heap.size w w6) := HB1.out.trans ((HB5.out.trans (hb.mono HB5.out.size)).mono HB1.out.size)
  have HO6 : Hid (OwnU w6 w.heap.size vl _) := ho.mono (Nat.le_trans HB1.out.size HB5.out.size)
  have HX6 := Lib.hid ((HX1.out.below HB5.out).below hb)
  have HD6 := Lib.hid ((HD1.out.below HB5.out).below hb)
  have HT6 := Lib.hid ((HT1.out.below HB5.out).below hb)
  obtain ⟨Al, cl, rfl, _⟩ := ho.form
  refine hK.out _ _ ⟨HKE.out _ _ hs0 HGL.out (HB5.out.trans (hb.mono HB5.out.size)), HB5.out.trans (hb.mono HB5.out.size)⟩ (fun hH6 => ?_)
  clear ho hb hK hH5 hs0 HKE HP5 HDR
  refine wpAnyH_take (i := 8) (oi := ⟨some 22, _, _, _, _, _⟩) rfl (by kernel_rfl) (by kernel_rfl) (by kernel_rfl) (fun _ _ _ h => h) (Or.inl ⟨by rfl, fun w hw => by (try dsimp only at hw); go_simp; with_reducible rfl⟩) (by assumption) ?_
  try simp only [Act.put, List.setIfInBounds_toArray, List.set_cons_zero, List.set_cons_succ]
  refine wpAnyH_take (i := 9) (oi := ⟨some 31, _, _, _, _, _⟩) rfl (by kernel_rfl) (by kernel_rfl) (by kernel_rfl) (fun _ _ _ h => h) (Or.inl ⟨by rfl, fun w hw => by (try dsimp only at hw); go_simp; with_reducible rfl⟩) (by assumption) ?_
  try simp only [Act.put, List.setIfInBounds_toArray, List.set_cons_zero, List.set_cons_succ]
  refine wpAnyH_take (i := 10) (oi := ⟨some 32, _, _, _, _, _⟩) rfl (by kernel_rfl) (by kernel_rfl) (by kernel_rfl) (fun _ _ _ h => h) (Or.inl ⟨by rfl, fun w hw => by (try dsimp only at hw); go_simp; with_reducible rfl⟩) (by assumption) ?_
  try simp only [Act.put, List.setIfInBounds_toArray, List.set_cons_zero, List.set_cons_succ]
  refine wpAnyH_take (i := 11) (oi := ⟨some 4, _, _, _, _, _⟩) rfl (by kernel_rfl) (by kernel_rfl) (by kernel_rfl) (fun _ _ _ h => h) (Or.inl ⟨by rfl, fun w hw => by (try dsimp only at hw); go_simp; with_reducible rfl⟩) (by assumption) ?_
  try simp only [Act.put, List.setIfInBounds_toArray, List.set_cons_zero, List.set_cons_succ]
  refine wpAnyH_take (i := 12) (oi := ⟨some 5, _, _, _, _, _⟩) rfl (by kernel_rfl) (by kernel_rfl) (by kernel_rfl) (fun _ _ _ h => h) (Or.inl ⟨by rfl, fun w hw => by (try dsimp only at hw); go_simp; with_reducible rfl⟩) (by assumption) ?_
  try simp only [Act.put, List.setIfInBounds_toArray, List.set_cons_zero, List.set_cons_succ]
  refine wpAnyH_done (by kernel_rfl) ?_ _
  change KK _ _
  refine HKK.out _ _ ?_
  clear HKK hH6
  have hc := try_cells HT6.out
  go_wp2_with fail
  clear hc
  refine (refPack_any kind page A _ c xs w6 HX6.out (by omega) HD6.out).mono ?_
  rintro e w7 ⟨⟨vm, rfl, ho⟩, hb⟩
  have HO7 := Lib.hid (HO6.out.below hb)
  have HM7 := Lib.hid ho
  have HB7 := Lib.hid (HB6.out.trans (hb.mono HB6.out.size))
  have HS7 := Lib.hid (HB6.out.size)
  clear ho hb
  go_wp2_with fail
  go_ret2
  exact ⟨⟨_, _, rfl, by rw [HZ.out]; exact HO7.out, by rw [HZ.out]; exact HM7.out.mono HS7.out, fun B h1 h2 => by have := (HO6.out.lt B h1).2; have := HM7.out.ge B h2; omega⟩, HB7.out⟩
set_option maxRecDepth 20000 in
set_option maxHeartbeats 4000000 in
theorem again_one (kind page s1 s2 s3 s4 s5 : Int) (A B : Option Addr) (c d : Nat) (xs ys : List Nat) (w : World) (hA : RB w A xs.length xs) (hnc : xs.length ≤ c) (hla : xs.length ≤ 1048576) (hd : DivT w) :
    Calls Tryd.prog 24 #[.agg #[.int .i64 1, .int .i64 kind, .int .i64 page, .slice A xs.length c, .slice B ys.length d, .int .i64 s1, .int .i64 s2, .int .i64 s3, .int .i64 s4, .int .i64 s5]] w fun e w' => Again w.heap.size (againN 1 kind page xs ⟨s1, s2, s3, s4, s5⟩) e w' ∧ Below w.heap.size w w' := by
  have HA0 := Lib.hid hA
  have HD0 := Lib.hid hd
  have HNC := Lib.hid hnc
  have hla2 : (xs.length : Int) ≤ 1048576 := by omega
  obtain ⟨w1, hw1⟩ : ∃ w1, w1 = w.alloc (.cells #[.int .i64 1, .int .i64 kind, .int .i64 page, .slice A xs.length c, .slice B ys.length d, .int .i64 s1, .int .i64 s2, .int .i64 s3, .int .i64 s4, .int .i64 s5] 52) := ⟨_, rfl⟩
  have HW := Lib.hid hw1
  have HB1 : Hid (Below w.heap.size w w1) := by
    rw [hw1]
    exact (Below.refl _ _).alloc (Nat.le_refl _) _
  have HT1 : Hid (BlkIs w1 w.heap.size 52 #[.int .i64 1, .int .i64 kind, .int .i64 page, .slice A xs.length c, .slice B ys.length d, .int .i64 s1, .int .i64 s2, .int .i64 s3, .int .i64 s4, .int .i64 s5]) := by
    rw [hw1]
    exact BlkIs.new w _ _
  have HX1 := Lib.hid (HA0.out.below HB1.out)
  have HD1 := Lib.hid (HD0.out.below HB1.out)
  clear hw1 hA hd hla hnc HA0 HD0
  have HZ : Hid (againN 1 kind page xs ⟨s1, s2, s3, s4, s5⟩ = (unpackN page xs).2.1) := rfl
  have hc := try_cells HT1.out
  go_enter Tryd.func24, Tryd.ntmps24
  go_wp2_with fail
  rw [← HW.out]
  rename_i KK hKK
  have HKK := Lib.hid hKK
  clear hKK
  have hs0 : w1.cell? ⟨w.heap.size, 2, none⟩ = some (.int .i64 page) ∧ w1.cell? ⟨w.heap.size, 3, none⟩ = some (.slice A xs.length c) := by
    obtain ⟨q0, q1, q2, q3, q4, q5, q6, q7, q8, q9⟩ := hc
    exact ⟨q2, q3⟩
  clear hc HW
  have hkeep : ∀ w2 w3 : World, (w2.cell? ⟨w.heap.size, 2, none⟩ = some (.int .i64 page) ∧ w2.cell? ⟨w.heap.size, 3, none⟩ = some (.slice A xs.length c)) → w.heap.size < w2.heap.size → Below w2.heap.size w2 w3 → (w3.cell? ⟨w.heap.size, 2, none⟩ = some (.int .i64 page) ∧ w3.cell? ⟨w.heap.size, 3, none⟩ = some (.slice A xs.length c)) := fun w2 w3 h hl hb => by
    obtain ⟨q2, q3⟩ := h
    exact ⟨(hb.cell (p := ⟨w.heap.size, 2, none⟩) hl).trans q2, (hb.cell (p := ⟨w.heap.size, 3, none⟩) hl).trans q3⟩
  have HKE := Lib.hid hkeep
  clear hkeep
  have HGL : Hid (w.heap.size < w1.heap.size) := HT1.out.lt
  refine wp_region_held_drew (S := fun w' => (w'.cell? ⟨w.heap.size, 2, none⟩ = some (.int .i64 page) ∧ w'.cell? ⟨w.heap.size, 3, none⟩ = some (.slice A xs.length c)) ∧ Below w1.heap.size w1 w') (by kernel_rfl) ⟨hs0, drewN_below (Below.refl _ _) 1⟩ fun hH => ?_
  refine wpAnyH_take (i := 0) (oi := ⟨some 48, _, _, _, _, _⟩) rfl (by kernel_rfl) (by kernel_rfl) (by kernel_rfl) (fun _ _ _ h => h) (Or.inl ⟨by rfl, fun w hw => by (try dsimp only at hw); go_simp; with_reducible rfl⟩) (by assumption) ?_
  try simp only [Act.put, List.setIfInBounds_toArray, List.set_cons_zero, List.set_cons_succ]
  refine wpAnyH_take (i := 1) (oi := ⟨some 49, _, _, _, _, _⟩) rfl (by kernel_rfl) (by kernel_rfl) (by kernel_rfl) (fun _ _ _ h => h) (Or.inl ⟨by rfl, fun w hw => by ((try dsimp only at hw); go_split_ands; go_simp; with_reducible rfl)⟩) (by assumption) ?_
  try simp only [Act.put, List.setIfInBounds_toArray, List.set_cons_zero, List.set_cons_succ]
  refine wpAnyH_take (i := 2) (oi := ⟨some 50, _, _, _, _, _⟩) rfl (by kernel_rfl) (by kernel_rfl) (by kernel_rfl) (fun _ _ _ h => h) (Or.inl ⟨by rfl, fun w hw => by (try dsimp only at hw); go_simp; with_reducible rfl⟩) (by assumption) ?_
  try simp only [Act.put, List.setIfInBounds_toArray, List.set_cons_zero, List.set_cons_succ]
  refine wpAnyH_take (i := 3) (oi := ⟨some 51, _, _, _, _, _⟩) rfl (by kernel_rfl) (by kernel_rfl) (by kernel_rfl) (fun _ _ _ h => h) (Or.inl ⟨by rfl, fun w hw => by ((try dsimp only at hw); go_split_ands; go_simp; with_reducible rfl)⟩) (by assumption) ?_
  try simp only [Act.put, List.setIfInBounds_toArray, List.set_cons_zero, List.set_cons_succ]
  refine wpAnyH_ready (rs := [4]) (by kernel_rfl) (by simp) ?_
  refine AllReadyH.cons rfl (fun K hK => ?_) (AllReadyH.nil)
  go_simp
  go_at_call 12
  have HDR := Lib.hid hH.2
  refine (copied_any A _ c xs _ (HX1.out.below HDR.out) (by omega)).mono ?_
  rintro e w5 ⟨vx, rfl, ho, hb⟩
  have HB5 := Lib.hid (HDR.out.trans hb)
  have HP5 := Lib.hid ho
  obtain ⟨Ax, cx, rfl, _⟩ := ho.form
  refine hK.out _ _ ⟨HKE.out _ _ hs0 HGL.out HB5.out, HB5.out⟩ (fun hH5 => ?_)
  clear ho hb hK hH
  refine wpAnyH_ready (rs := [5]) (by kernel_rfl) (by simp) ?_
  refine AllReadyH.cons rfl (fun K hK => ?_) (AllReadyH.nil)
  go_simp
  go_at_call 36
  refine (unpack_any page Ax _ cx xs w5 HP5.out.reads HP5.out.room (by omega)).mono ?_
  rintro e w6 ⟨⟨vl, rfl, ho⟩, hb⟩
  have HB6 : Hid (Below w.heap.size w w6) := HB1.out.trans ((HB5.out.trans (hb.mono HB5.out.size)).mono HB1.out.size)
  have HO6 : Hid (OwnU w6 w.heap.size vl _) := ho.mono (Nat.le_trans HB1.out.size HB5.out.size)
  have HX6 := Lib.hid ((HX1.out.below HB5.out).below hb)
  have HD6 := Lib.hid ((HD1.out.below HB5.out).below hb)
  have HT6 := Lib.hid ((HT1.out.below HB5.out).below hb)
  obtain ⟨Al, cl, rfl, _⟩ := ho.form
  refine hK.out _ _ ⟨HKE.out _ _ hs0 HGL.out (HB5.out.trans (hb.mono HB5.out.size)), HB5.out.trans (hb.mono HB5.out.size)⟩ (fun hH6 => ?_)
  clear ho hb hK hH5 hs0 HKE HP5 HDR
  refine wpAnyH_take (i := 6) (oi := ⟨some 47, _, _, _, _, _⟩) rfl (by kernel_rfl) (by kernel_rfl) (by kernel_rfl) (fun _ _ _ h => h) (Or.inl ⟨by rfl, fun w hw => by (try dsimp only at hw); go_simp; with_reducible rfl⟩) (by assumption) ?_
  try simp only [Act.put, List.setIfInBounds_toArray, List.set_cons_zero, List.set_cons_succ]
  refine wpAnyH_take (i := 7) (oi := ⟨some 54, _, _, _, _, _⟩) rfl (by kernel_rfl) (by kernel_rfl) (by kernel_rfl) (fun _ _ _ h => h) (Or.inl ⟨by rfl, fun w hw => by (try dsimp only at hw); go_simp; with_reducible rfl⟩) (by assumption) ?_
  try simp only [Act.put, List.setIfInBounds_toArray, List.set_cons_zero, List.set_cons_succ]
  refine wpAnyH_take (i := 8) (oi := ⟨some 55, _, _, _, _, _⟩) rfl (by kernel_rfl) (by kernel_rfl) (by kernel_rfl) (fun _ _ _ h => h) (Or.inl ⟨by rfl, fun w hw => by (try dsimp only at hw); go_simp; with_reducible rfl⟩) (by assumption) ?_
  try simp only [Act.put, List.setIfInBounds_toArray, List.set_cons_zero, List.set_cons_succ]
  refine wpAnyH_take (i := 9) (oi := ⟨some 56, _, _, _, _, _⟩) rfl (by kernel_rfl) (by kernel_rfl) (by kernel_rfl) (fun _ _ _ h => h) (Or.inl ⟨by rfl, fun w hw => by (try dsimp only at hw); go_simp; with_reducible rfl⟩) (by assumption) ?_
  try simp only [Act.put, List.setIfInBounds_toArray, List.set_cons_zero, List.set_cons_succ]
  refine wpAnyH_take (i := 10) (oi := ⟨some 8, _, _, _, _, _⟩) rfl (by kernel_rfl) (by kernel_rfl) (by kernel_rfl) (fun _ _ _ h => h) (Or.inl ⟨by rfl, fun w hw => by (try dsimp only at hw); go_simp; with_reducible rfl⟩) (by assumption) ?_
  try simp only [Act.put, List.setIfInBounds_toArray, List.set_cons_zero, List.set_cons_succ]
  refine wpAnyH_take (i := 11) (oi := ⟨some 9, _, _, _, _, _⟩) rfl (by kernel_rfl) (by kernel_rfl) (by kernel_rfl) (fun _ _ _ h => h) (Or.inl ⟨by rfl, fun w hw => by (try dsimp only at hw); go_simp; with_reducible rfl⟩) (by assumption) ?_
  try simp only [Act.put, List.setIfInBounds_toArray, List.set_cons_zero, List.set_cons_succ]
  refine wpAnyH_take (i := 12) (oi := ⟨some 10, _, _, _, _, _⟩) rfl (by kernel_rfl) (by kernel_rfl) (by kernel_rfl) (fun _ _ _ h => h) (Or.inl ⟨by rfl, fun w hw => by (try dsimp only at hw); go_simp; with_reducible rfl⟩) (by assumption) ?_
  try simp only [Act.put, List.setIfInBounds_toArray, List.set_cons_zero, List.set_cons_succ]
  refine wpAnyH_done (by kernel_rfl) ?_ _
  change KK _ _
  refine HKK.out _ _ ?_
  clear HKK hH6
  have hc := try_cells HT6.out
  go_wp2_with fail
  clear hc
  refine (refUnpack_any page A _ c xs w6 HX6.out HNC.out (by omega) HD6.out).mono ?_
  rintro e w7 ⟨⟨vm, rfl, ho⟩, hb⟩
  have HO7 := Lib.hid (HO6.out.below hb)
  have HM7 := Lib.hid ho
  have HB7 := Lib.hid (HB6.out.trans (hb.mono HB6.out.size))
  have HS7 := Lib.hid (HB6.out.size)
  clear ho hb
  go_wp2_with fail
  go_ret2
  exact ⟨⟨_, _, rfl, by rw [HZ.out]; exact HO7.out, by rw [HZ.out]; exact HM7.out.mono HS7.out, fun B h1 h2 => by have := (HO6.out.lt B h1).2; have := HM7.out.ge B h2; omega⟩, HB7.out⟩
set_option maxRecDepth 20000 in
set_option maxHeartbeats 4000000 in
theorem again_two (kind page s1 s2 s3 s4 s5 : Int) (A B : Option Addr) (c d : Nat) (xs ys : List Nat) (w : World) (hA : RB w A xs.length xs) (hnc : xs.length ≤ c) (hla : xs.length ≤ 1048576) (hd : DivT w) :
    Calls Tryd.prog 24 #[.agg #[.int .i64 2, .int .i64 kind, .int .i64 page, .slice A xs.length c, .slice B ys.length d, .int .i64 s1, .int .i64 s2, .int .i64 s3, .int .i64 s4, .int .i64 s5]] w fun e w' => Again w.heap.size (againN 2 kind page xs ⟨s1, s2, s3, s4, s5⟩) e w' ∧ Below w.heap.size w w' := by
  have HA0 := Lib.hid hA
  have HD0 := Lib.hid hd
  have HNC := Lib.hid hnc
  have hla2 : (xs.length : Int) ≤ 1048576 := by omega
  obtain ⟨w1, hw1⟩ : ∃ w1, w1 = w.alloc (.cells #[.int .i64 2, .int .i64 kind, .int .i64 page, .slice A xs.length c, .slice B ys.length d, .int .i64 s1, .int .i64 s2, .int .i64 s3, .int .i64 s4, .int .i64 s5] 52) := ⟨_, rfl⟩
  have HW := Lib.hid hw1
  have HB1 : Hid (Below w.heap.size w w1) := by
    rw [hw1]
    exact (Below.refl _ _).alloc (Nat.le_refl _) _
  have HT1 : Hid (BlkIs w1 w.heap.size 52 #[.int .i64 2, .int .i64 kind, .int .i64 page, .slice A xs.length c, .slice B ys.length d, .int .i64 s1, .int .i64 s2, .int .i64 s3, .int .i64 s4, .int .i64 s5]) := by
    rw [hw1]
    exact BlkIs.new w _ _
  have HX1 := Lib.hid (HA0.out.below HB1.out)
  have HD1 := Lib.hid (HD0.out.below HB1.out)
  clear hw1 hA hd hla hnc HA0 HD0
  have HZ : Hid (againN 2 kind page xs ⟨s1, s2, s3, s4, s5⟩ = (packSN ⟨s1, s2, s3, s4, s5⟩).1) := rfl
  have hc := try_cells HT1.out
  go_enter Tryd.func24, Tryd.ntmps24
  go_wp2_with fail
  rw [← HW.out]
  refine (packSuper_any ⟨s1, s2, s3, s4, s5⟩ w1).mono ?_
  rintro e w6 ⟨⟨vl, rfl, ho⟩, hb⟩
  have HB6 : Hid (Below w.heap.size w w6) := HB1.out.trans (hb.mono HB1.out.size)
  have HO6 : Hid (OwnU w6 w.heap.size vl _) := ho.mono HB1.out.size
  have HD6 := Lib.hid (HD1.out.below hb)
  have HT6 := Lib.hid (HT1.out.below hb)
  obtain ⟨Al, cl, rfl, _⟩ := ho.form
  clear hc ho hb HW HX1
  have hc := try_cells HT6.out
  go_wp2_with fail
  clear hc
  refine (refPackSuper_any ⟨s1, s2, s3, s4, s5⟩ w6 HD6.out).mono ?_
  rintro e w7 ⟨⟨vm, rfl, ho⟩, hb⟩
  have HO7 := Lib.hid (HO6.out.below hb)
  have HM7 := Lib.hid ho
  have HB7 := Lib.hid (HB6.out.trans (hb.mono HB6.out.size))
  have HS7 := Lib.hid (HB6.out.size)
  clear ho hb
  go_wp2_with fail
  go_ret2
  exact ⟨⟨_, _, rfl, by rw [HZ.out]; exact HO7.out, by rw [HZ.out]; exact HM7.out.mono HS7.out, fun B h1 h2 => by have := (HO6.out.lt B h1).2; have := HM7.out.ge B h2; omega⟩, HB7.out⟩
set_option maxRecDepth 20000 in
set_option maxHeartbeats 4000000 in
theorem again_more (call kind page s1 s2 s3 s4 s5 : Int) (A B : Option Addr) (c d : Nat) (xs ys : List Nat) (w : World) (hA : RB w A xs.length xs) (hnc : xs.length ≤ c) (hla : xs.length ≤ 1048576) (hd : DivT w) (h0 : ¬ call = 0) (h1 : ¬ call = 1) (h2 : ¬ call = 2) :
    Calls Tryd.prog 24 #[.agg #[.int .i64 call, .int .i64 kind, .int .i64 page, .slice A xs.length c, .slice B ys.length d, .int .i64 s1, .int .i64 s2, .int .i64 s3, .int .i64 s4, .int .i64 s5]] w fun e w' => Again w.heap.size (againN call kind page xs ⟨s1, s2, s3, s4, s5⟩) e w' ∧ Below w.heap.size w w' := by
  have HA0 := Lib.hid hA
  have HD0 := Lib.hid hd
  have HNC := Lib.hid hnc
  have hla2 : (xs.length : Int) ≤ 1048576 := by omega
  obtain ⟨w1, hw1⟩ : ∃ w1, w1 = w.alloc (.cells #[.int .i64 call, .int .i64 kind, .int .i64 page, .slice A xs.length c, .slice B ys.length d, .int .i64 s1, .int .i64 s2, .int .i64 s3, .int .i64 s4, .int .i64 s5] 52) := ⟨_, rfl⟩
  have HW := Lib.hid hw1
  have HB1 : Hid (Below w.heap.size w w1) := by
    rw [hw1]
    exact (Below.refl _ _).alloc (Nat.le_refl _) _
  have HT1 : Hid (BlkIs w1 w.heap.size 52 #[.int .i64 call, .int .i64 kind, .int .i64 page, .slice A xs.length c, .slice B ys.length d, .int .i64 s1, .int .i64 s2, .int .i64 s3, .int .i64 s4, .int .i64 s5]) := by
    rw [hw1]
    exact BlkIs.new w _ _
  have HX1 := Lib.hid (HA0.out.below HB1.out)
  have HD1 := Lib.hid (HD0.out.below HB1.out)
  clear hw1 hA hd hla hnc HA0 HD0
  have HZ : Hid (againN call kind page xs ⟨s1, s2, s3, s4, s5⟩ = []) := by
    show againN call kind page xs _ = []
    unfold againN
    rw [if_neg h0, if_neg h1, if_neg h2]
  go_enter Tryd.func24, Tryd.ntmps24
  go_wp2_with fail
  rw [← HW.out]
  go_ret2
  exact ⟨⟨_, _, rfl, by rw [HZ.out]; exact Own.nil _ _ _, by rw [HZ.out]; exact Own.nil _ _ _, fun B h => by cases h⟩, HB1.out⟩
theorem again_any (call kind page s1 s2 s3 s4 s5 : Int) (A B : Option Addr) (c d : Nat) (xs ys : List Nat) (w : World) (hA : RB w A xs.length xs) (hnc : xs.length ≤ c) (hla : xs.length ≤ 1048576) (hd : DivT w) :
    Calls Tryd.prog 24 #[.agg #[.int .i64 call, .int .i64 kind, .int .i64 page, .slice A xs.length c, .slice B ys.length d, .int .i64 s1, .int .i64 s2, .int .i64 s3, .int .i64 s4, .int .i64 s5]] w fun e w' => Again w.heap.size (againN call kind page xs ⟨s1, s2, s3, s4, s5⟩) e w' ∧ Below w.heap.size w w' := by
  by_cases h0 : call = 0
  · subst h0
    exact again_zero kind page s1 s2 s3 s4 s5 A B c d xs ys w hA hnc hla hd
  by_cases h1 : call = 1
  · subst h1
    exact again_one kind page s1 s2 s3 s4 s5 A B c d xs ys w hA hnc hla hd
  by_cases h2 : call = 2
  · subst h2
    exact again_two kind page s1 s2 s3 s4 s5 A B c d xs ys w hA hnc hla hd
  exact again_more call kind page s1 s2 s3 s4 s5 A B c d xs ys w hA hnc hla hd h0 h1 h2
end Go.Proofs.YtbjbpgbpefkbhaaDoor
