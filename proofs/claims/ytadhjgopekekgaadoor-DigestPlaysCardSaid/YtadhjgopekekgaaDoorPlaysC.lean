/- ledgerlaw1.DigestPlays: one step, of the other kinds but 2. (printed by gen_plays.py) -/
import Derived.Test.YtadhjgopekekgaaDoorPlaysA
namespace Go.Proofs.YtadhjgopekekgaaDoor
open Go.RowKit
set_option maxRecDepth 100000 in
set_option maxHeartbeats 4000000 in
theorem plays_3 {w0 w : World} {K : Nat → Nat} {r n L : Nat} {vh vt : Value} {held : Int} {G : Nat → Nat} {T : Nat → List Nat} {V : Nat → Value} (hI : RowInv w0 K r vh vt held n n G T T V w) (hn : 0 < n) (hn2 : n ≤ 1000) (h0 : 0 ≤ held) (h1 : held ≤ 4000000)
    (hL : ∀ i, i < n → (T i).length ≤ L) (hL2 : L ≤ 2147483647) (ht : Tabs w0) (ht1 : Tabs1 w0) (h : Int) (A : Option Addr) (m c : Nat) :
    Calls Tryd.prog 18 #[.pointer (some ⟨r, 0, none⟩), .agg #[.int .i64 3, .int .i64 h, .slice A m c]] w (PlaysPost w0 r L) := by
  obtain ⟨gh, ch, gt, ct, e1, e2, hc1, hc2⟩ := hI.shapes hn hn
  subst e1 e2
  have HI := Lib.hid hI
  have HL := Lib.hid hL
  have HT := Lib.hid ht
  have HT1 := Lib.hid ht1
  clear hI hL ht ht1
  go_enter Tryd.func18, Tryd.ntmps18
  go_wp2_with (first
    | ((with_reducible refine stopAt (o := ⟨some 3, _, _, _, _, _⟩) ?_); refine boxNew (o := ⟨some 3, _, _, _, _, _⟩) (by rfl) 33 (.tmp 1) rfl _ rfl ?_; intro w1 HB1 HW1 HS1; have HI1 := Lib.hid (HI.out.later HW1.out); have c10 := BlkIs.cell HB1.out 0; have c11 := BlkIs.cell HB1.out 1; simp only [List.getElem?_toArray, List.getElem?_cons_zero, List.getElem?_cons_succ] at c10 c11))
  refine (place_any h HI1.out hn (by omega)).mono ?_
  rintro e w2 ⟨⟨i, hi, rfl⟩, hb⟩
  have HI2 := Lib.hid (HI1.out.later hb)
  have HO2 := Lib.hid (HB1.out.below hb)
  clear hb c10 c11 HI1 HB1 HW1 HS1
  have c0 := HI2.out.c0
  have c1 := HI2.out.c1
  have c2 := HI2.out.c2
  have d1 := HI2.out.hcell hi
  have d2 := HI2.out.tcell hi
  have b0 : w2.cell? ⟨w.heap.size, 0, none⟩ = some (.int .i64 3) := BlkIs.cell HO2.out 0
  obtain ⟨Ai, di, hvi, _⟩ := (HI2.out.text i hi).form
  rw [hvi] at d2
  unfold ptr at d1
  have hli := HL.out i hi
  have hch : (i : Int) < n := by omega
  generalize hx : G i = gi at *
  generalize hy : (T i).length = li at *
  go_wp2_with fail
  go_quiet (fail)
  have HI3 := Lib.hid (HI2.out.later (drewN_below (Below.refl _ _) nq))
  have b3 : (w2.drewN nq).cell? ⟨w.heap.size, 0, none⟩ = some (.int .i64 3) := b0
  generalize hw3 : w2.drewN nq = w3 at *
  clear c0 c1 c2 d1 d2 b0 HI2 HO2
  have c0 := HI3.out.c0
  have c1 := HI3.out.c1
  have c2 := HI3.out.c2
  have d1 := HI3.out.hcell hi
  have d2 := HI3.out.tcell hi
  rw [hvi] at d2
  rw [hx] at d1
  unfold ptr at d1
  have he : ∀ w, (Op.equalIn 10000 23 (.agg (bvs (shaN (T i))).toArray) (.agg (bvs (shaN (T i))).toArray)).run Tryd.prog w = .ok true w := fun w => dig_same w (shaN_isB _) (shaN_length _)
  have HH := Lib.hid (HI3.out.hash i hi)
  go_wp2_with fail
  rename_i KK hKK
  have HKK := Lib.hid hKK
  clear hKK
  refine wp_region_held_drew (S := (fun w' => w'.cell? ⟨r, 1, none⟩ = some (.slice (some ⟨gt, 0, none⟩) n ct) ∧ w'.cell? ⟨gt, i, none⟩ = some (.slice Ai li di))) (by kernel_rfl) ⟨(HI3.out.later (drewN_below (Below.refl _ _) 1)).c1, by have := (HI3.out.later (drewN_below (Below.refl _ _) 1)).tcell hi; rwa [hvi] at this⟩ fun hH => ?_
  refine wpAnyH_take (i := 0) (oi := ⟨some 151, _, _, _, _, _⟩) rfl (by kernel_rfl) (by kernel_rfl) (by kernel_rfl) (fun _ _ _ h => h) (Or.inl ⟨by rfl, fun w hw => by (obtain ⟨hw1, hw2⟩ := hw; go_simp; with_reducible rfl)⟩) (by assumption) ?_
  try simp only [Act.put, List.setIfInBounds_toArray, List.set_cons_zero, List.set_cons_succ]
  refine wpAnyH_take (i := 2) (oi := ⟨some 153, _, _, _, _, _⟩) rfl (by kernel_rfl) (by kernel_rfl) (by kernel_rfl) (fun _ _ _ h => h) (Or.inl ⟨by rfl, fun w hw => by (obtain ⟨hw1, hw2⟩ := hw; go_simp; with_reducible rfl)⟩) (by assumption) ?_
  try simp only [Act.put, List.setIfInBounds_toArray, List.set_cons_zero, List.set_cons_succ]
  refine wpAnyH_take (i := 3) (oi := ⟨some 154, _, _, _, _, _⟩) rfl (by kernel_rfl) (by kernel_rfl) (by kernel_rfl) (fun _ _ _ h => h) (Or.inl ⟨by rfl, fun w hw => by (obtain ⟨hw1, hw2⟩ := hw; go_simp; with_reducible rfl)⟩) (by assumption) ?_
  try simp only [Act.put, List.setIfInBounds_toArray, List.set_cons_zero, List.set_cons_succ]
  refine wpAnyH_take (i := 4) (oi := ⟨some 155, _, _, _, _, _⟩) rfl (by kernel_rfl) (by kernel_rfl) (by kernel_rfl) (fun _ _ _ h => h) (Or.inl ⟨by rfl, fun w hw => by (obtain ⟨hw1, hw2⟩ := hw; go_simp; with_reducible rfl)⟩) (by assumption) ?_
  try simp only [Act.put, List.setIfInBounds_toArray, List.set_cons_zero, List.set_cons_succ]
  refine wpAnyH_take (i := 5) (oi := ⟨some 156, _, _, _, _, _⟩) rfl (by kernel_rfl) (by kernel_rfl) (by kernel_rfl) (fun _ _ _ h => h) (Or.inl ⟨by rfl, fun w hw => by (obtain ⟨hw1, hw2⟩ := hw; go_simp; with_reducible rfl)⟩) (by assumption) ?_
  try simp only [Act.put, List.setIfInBounds_toArray, List.set_cons_zero, List.set_cons_succ]
  refine wpAnyH_take (i := 6) (oi := ⟨some 157, _, _, _, _, _⟩) rfl (by kernel_rfl) (by kernel_rfl) (by kernel_rfl) (fun _ _ _ h => h) (Or.inl ⟨by rfl, fun w hw => by (obtain ⟨hw1, hw2⟩ := hw; go_simp; with_reducible rfl)⟩) (by assumption) ?_
  try simp only [Act.put, List.setIfInBounds_toArray, List.set_cons_zero, List.set_cons_succ]
  refine wpAnyH_take (i := 7) (oi := ⟨some 158, _, _, _, _, _⟩) rfl (by kernel_rfl) (by kernel_rfl) (by kernel_rfl) (fun _ _ _ h => h) (Or.inl ⟨by rfl, fun w hw => by (obtain ⟨hw1, hw2⟩ := hw; go_simp; with_reducible rfl)⟩) (by assumption) ?_
  try simp only [Act.put, List.setIfInBounds_toArray, List.set_cons_zero, List.set_cons_succ]
  refine wpAnyH_take (i := 8) (oi := ⟨some 159, _, _, _, _, _⟩) rfl (by kernel_rfl) (by kernel_rfl) (by kernel_rfl) (fun _ _ _ h => h) (Or.inl ⟨by rfl, fun w hw => by (obtain ⟨hw1, hw2⟩ := hw; go_simp; with_reducible rfl)⟩) (by assumption) ?_
  try simp only [Act.put, List.setIfInBounds_toArray, List.set_cons_zero, List.set_cons_succ]
  refine wpAnyH_ready (rs := [1]) (by kernel_rfl) (by simp) ?_
  refine AllReadyH.cons rfl (fun K hK => ?_) (AllReadyH.nil)
  go_simp
  refine (hsum_any gi (T i) w3.drew (hx ▸ HH.out) (HT.out.below HI3.out.below).2).mono ?_
  rintro e w4 ⟨rfl, hb⟩
  have HI4 := Lib.hid ((HI3.out.later (drewN_below (Below.refl _ _) 1)).later hb)
  clear hb
  refine hK.out _ _ ⟨(HI4.out).c1, by have := (HI4.out).tcell hi; rwa [hvi] at this⟩ (fun hH2 => ?_)
  clear hK hH
  refine wpAnyH_ready (rs := [9]) (by kernel_rfl) (by simp) ?_
  refine AllReadyH.cons rfl (fun K hK => ?_) (AllReadyH.nil)
  go_simp
  obtain ⟨rb4, nil4, le4, len4⟩ := own_at (HI4.out.text i hi) hvi
  refine (refdig_any Ai li di (T i) w4 rb4 nil4 (by omega) (HT1.out.below HI4.out.below)).mono ?_
  rintro e w5 ⟨rfl, hb⟩
  have HI5 := Lib.hid (HI4.out.later hb)
  clear hb rb4 nil4 le4 len4
  refine hK.out _ _ ⟨(HI5.out).c1, by have := (HI5.out).tcell hi; rwa [hvi] at this⟩ (fun hH3 => ?_)
  clear hK hH2
  refine wpAnyH_ready (rs := [10]) (by kernel_rfl) (by simp) ?_
  refine AllReadyH.cons rfl (fun K hK => ?_) (AllReadyH.nil)
  go_simp
  refine hK.out _ _ ⟨(HI5.out).c1, by have := (HI5.out).tcell hi; rwa [hvi] at this⟩ (fun hH4 => ?_)
  clear hK hH3
  refine wpAnyH_take (i := 11) (oi := ⟨some 4, _, _, _, _, _⟩) rfl (by kernel_rfl) (by kernel_rfl) (by kernel_rfl) (fun _ _ _ h => h) (Or.inl ⟨by rfl, fun w hw => by (obtain ⟨hw1, hw2⟩ := hw; go_simp; with_reducible rfl)⟩) (by assumption) ?_
  try simp only [Act.put, List.setIfInBounds_toArray, List.set_cons_zero, List.set_cons_succ]
  refine wpAnyH_done (by kernel_rfl) ?_ _
  change KK _ _
  refine HKK.out _ _ ?_
  clear hH4 he
  go_wp2_with fail
  go_ret
  exact ⟨rfl, _, _, _, _, _, _, _, _, HI5.out, hn, hn2, h0, h1, HL.out⟩
end Go.Proofs.YtadhjgopekekgaaDoor
