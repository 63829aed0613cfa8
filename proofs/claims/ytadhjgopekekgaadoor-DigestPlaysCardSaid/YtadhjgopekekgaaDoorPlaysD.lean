/- ledgerlaw1.DigestPlays: one step, of the other kinds but 2. (printed by gen_plays.py) -/
import Derived.Test.YtadhjgopekekgaaDoorPlaysA
namespace Go.Proofs.YtadhjgopekekgaaDoor
open Go.RowKit
set_option maxRecDepth 100000 in
set_option maxHeartbeats 4000000 in
theorem plays_4 {w0 w : World} {K : Nat → Nat} {r n L : Nat} {vh vt : Value} {held : Int} {G : Nat → Nat} {T : Nat → List Nat} {V : Nat → Value} (hI : RowInv w0 K r vh vt held n n G T T V w) (hn : 0 < n) (hn2 : n ≤ 1000) (h0 : 0 ≤ held) (h1 : held ≤ 4000000)
    (hL : ∀ i, i < n → (T i).length ≤ L) (hL2 : L ≤ 2147483647) (ht : Tabs w0) (h : Int) (A : Option Addr) (m c : Nat) :
    Calls Tryd.prog 18 #[.pointer (some ⟨r, 0, none⟩), .agg #[.int .i64 4, .int .i64 h, .slice A m c]] w (PlaysPost w0 r L) := by
  obtain ⟨gh, ch, gt, ct, e1, e2, hc1, hc2⟩ := hI.shapes hn hn
  subst e1 e2
  have HI := Lib.hid hI
  have HL := Lib.hid hL
  have HT := Lib.hid ht
  clear hI hL ht
  go_enter Tryd.func18, Tryd.ntmps18
  go_wp2_with (first
    | ((with_reducible refine stopAt (o := ⟨some 3, _, _, _, _, _⟩) ?_); refine boxNew (o := ⟨some 3, _, _, _, _, _⟩) (by rfl) 33 (.tmp 1) rfl _ rfl ?_; intro w1 HB1 HW1 HS1; have HI1 := Lib.hid (HI.out.later HW1.out); have c10 := BlkIs.cell HB1.out 0; have c11 := BlkIs.cell HB1.out 1; simp only [List.getElem?_toArray, List.getElem?_cons_zero, List.getElem?_cons_succ] at c10 c11))
  refine (place_any h HI1.out hn (by omega)).mono ?_
  rintro e w2 ⟨⟨i, hi, rfl⟩, hb⟩
  have HI2 := Lib.hid (HI1.out.later hb)
  have HO2 := Lib.hid (HB1.out.below hb)
  clear hb c10 c11 HI1 HB1 HW1 HS1
  have c0 := HI2.out.c0
  have c1 := HI2.out.c1
  have c2 := HI2.out.c2
  have d1 := HI2.out.hcell hi
  have d2 := HI2.out.tcell hi
  have b0 : w2.cell? ⟨w.heap.size, 0, none⟩ = some (.int .i64 4) := BlkIs.cell HO2.out 0
  obtain ⟨Ai, di, hvi, _⟩ := (HI2.out.text i hi).form
  rw [hvi] at d2
  unfold ptr at d1
  have hli := HL.out i hi
  have hch : (i : Int) < n := by omega
  generalize hx : G i = gi at *
  generalize hy : (T i).length = li at *
  go_wp2_with fail
  by_cases hA : 1000 ≤ n
  · have hA' : decide ((1000 : Int) ≤ n) = true := decide_eq_true (by omega)
    go_quiet (fail)
    go_wp2_with fail
    go_ret
    exact ⟨rfl, _, _, _, _, _, _, _, _, HI2.out.later (drewN_below (Below.refl _ _) _), hn, hn2, h0, h1, HL.out⟩
  have hA' : decide ((1000 : Int) ≤ n) = false := decide_eq_false (by omega)
  by_cases hB : 4000000 < held + li
  · go_quiet (fail)
    go_wp2_with fail
    go_ret
    exact ⟨rfl, _, _, _, _, _, _, _, _, HI2.out.later (drewN_below (Below.refl _ _) _), hn, hn2, h0, h1, HL.out⟩
  go_quiet (fail)
  have HI3 := Lib.hid (HI2.out.later (drewN_below (Below.refl _ _) nq))
  have b3 : (w2.drewN nq).cell? ⟨w.heap.size, 0, none⟩ = some (.int .i64 4) := b0
  generalize hw3 : w2.drewN nq = w3 at *
  clear c0 c1 c2 d1 d2 b0 HI2 HO2
  have c0 := HI3.out.c0
  have c1 := HI3.out.c1
  have c2 := HI3.out.c2
  have d1 := HI3.out.hcell hi
  have d2 := HI3.out.tcell hi
  rw [hvi] at d2
  rw [hx] at d1
  unfold ptr at d1
  have HR := Lib.hid (HI3.out.retag (3 + 2 * n))
  have HK3 : Hid (∀ k, w3.heap.size ≤ k → tagged w3 K (3 + 2 * n) k = 3 + 2 * n) := fun k hk => tagged_new hk
  have HH := Lib.hid (HI3.out.hash i hi)
  go_wp2_with fail
  rename_i KK hKK
  have HKK := Lib.hid hKK
  clear hKK
  refine wp_region_held_drew (S := fun _ => True) (by kernel_rfl) trivial fun _ => ?_
  have HF := Lib.hid (fork_any gi (T i) w3.drew (hx ▸ HH.out))
  refine wpAnyH_take (i := 0) (oi := ⟨some 166, _, _, _, _, _⟩) rfl (by kernel_rfl) (by kernel_rfl) (by kernel_rfl) (fun _ _ _ h => h) (Or.inl ⟨by rfl, fun w hw => by (try dsimp only at hw); go_simp; with_reducible rfl⟩) (by assumption) ?_
  try simp only [Act.put, List.setIfInBounds_toArray, List.set_cons_zero, List.set_cons_succ]
  refine wpAnyH_take (i := 1) (oi := ⟨some 167, _, _, _, _, _⟩) rfl (by kernel_rfl) (by kernel_rfl) (by kernel_rfl) (fun _ _ _ h => h) (Or.inl ⟨by rfl, fun w hw => by (try dsimp only at hw); go_simp; with_reducible rfl⟩) (by assumption) ?_
  try simp only [Act.put, List.setIfInBounds_toArray, List.set_cons_zero, List.set_cons_succ]
  refine wpAnyH_take (i := 3) (oi := ⟨some 169, _, _, _, _, _⟩) rfl (by kernel_rfl) (by kernel_rfl) (by kernel_rfl) (fun _ _ _ h => h) (Or.inl ⟨by rfl, fun w hw => by (try dsimp only at hw); go_simp; with_reducible rfl⟩) (by assumption) ?_
  try simp only [Act.put, List.setIfInBounds_toArray, List.set_cons_zero, List.set_cons_succ]
  refine wpAnyH_take (i := 4) (oi := ⟨some 170, _, _, _, _, _⟩) rfl (by kernel_rfl) (by kernel_rfl) (by kernel_rfl) (fun _ _ _ h => h) (Or.inl ⟨by rfl, fun w hw => by (try dsimp only at hw); go_simp; with_reducible rfl⟩) (by assumption) ?_
  try simp only [Act.put, List.setIfInBounds_toArray, List.set_cons_zero, List.set_cons_succ]
  refine wpAnyH_take (i := 5) (oi := ⟨some 171, _, _, _, _, _⟩) rfl (by kernel_rfl) (by kernel_rfl) (by kernel_rfl) (fun _ _ _ h => h) (Or.inl ⟨by rfl, fun w hw => by (try dsimp only at hw); go_simp; with_reducible rfl⟩) (by assumption) ?_
  try simp only [Act.put, List.setIfInBounds_toArray, List.set_cons_zero, List.set_cons_succ]
  refine wpAnyH_take (i := 7) (oi := ⟨some 173, _, _, _, _, _⟩) rfl (by kernel_rfl) (by kernel_rfl) (by kernel_rfl) (fun _ _ _ h => h) (Or.inl ⟨by rfl, fun w hw => by (try dsimp only at hw); go_simp; with_reducible rfl⟩) (by assumption) ?_
  try simp only [Act.put, List.setIfInBounds_toArray, List.set_cons_zero, List.set_cons_succ]
  refine wpAnyH_ready (rs := [2, 6]) (by kernel_rfl) (by simp) ?_
  refine AllReadyH.cons rfl (fun K hK => ?_) (AllReadyH.cons rfl (fun K hK => ?_) AllReadyH.nil)
  · go_simp
    refine HF.out.mono ?_
    rintro e w4 ⟨g, rfl, hg, hh, hb⟩
    have HI4 := Lib.hid ((HR.out.later (drewN_below (Below.refl _ _) 1)).later hb)
    have HH4 := Lib.hid hh
    have HG4 : Hid (w0.heap.size ≤ g) := Nat.le_trans HI3.out.below.size hg
    have HK4 := Lib.hid (HK3.out g hg)
    clear hb hh hg
    refine hK.out _ _ trivial (fun _ => ?_)
    clear hK
    have q1 := HI4.out.c1
    have q2 := HI4.out.tcell hi
    rw [hvi] at q2
    refine wpAnyH_ready (rs := [6]) (by kernel_rfl) (by simp) ?_
    refine AllReadyH.cons rfl (fun K hK => ?_) (AllReadyH.nil)
    go_simp
    refine hK.out _ _ trivial (fun _ => ?_)
    clear hK
    refine wpAnyH_take (i := 8) (oi := ⟨some 174, _, _, _, _, _⟩) rfl (by kernel_rfl) (by kernel_rfl) (by kernel_rfl) (fun _ _ _ h => h) (Or.inl ⟨by rfl, fun w hw => by (try dsimp only at hw); go_simp; with_reducible rfl⟩) (by assumption) ?_
    try simp only [Act.put, List.setIfInBounds_toArray, List.set_cons_zero, List.set_cons_succ]
    refine wpAnyH_ready (rs := [9]) (by kernel_rfl) (by simp) ?_
    refine AllReadyH.cons rfl (fun K hK => ?_) (AllReadyH.nil)
    go_simp
    refine hK.out _ _ trivial (fun _ => ?_)
    clear hK
    refine wpAnyH_ready (rs := [10]) (by kernel_rfl) (by simp) ?_
    refine AllReadyH.cons rfl (fun K hK => ?_) (AllReadyH.nil)
    go_simp
    obtain ⟨rb4, nil4, le4, len4⟩ := own_at (HI4.out.text i hi) hvi
    refine (joins_any HI4.out (by omega) g (T i) HG4.out HK4.out HH4.out Ai li di nil4 (by omega) h0 (by omega) (fun K' vh' held' W hW => (own_at (hW.text i hi) hvi).1)).mono ?_
    rintro e w5 ⟨rfl, hz, K', vh', vt', V', hI5⟩
    have HI5 := Lib.hid hI5
    clear hI5 rb4 nil4 le4 len4
    refine hK.out _ _ trivial (fun _ => ?_)
    clear hK
    refine wpAnyH_take (i := 11) (oi := ⟨some 4, _, _, _, _, _⟩) rfl (by kernel_rfl) (by kernel_rfl) (by kernel_rfl) (fun _ _ _ h => h) (Or.inl ⟨by rfl, fun w hw => by (try dsimp only at hw); go_simp; with_reducible rfl⟩) (by assumption) ?_
    try simp only [Act.put, List.setIfInBounds_toArray, List.set_cons_zero, List.set_cons_succ]
    refine wpAnyH_done (by kernel_rfl) ?_ _
    change KK _ _
    refine HKK.out _ _ ?_
    go_wp2_with fail
    go_ret
    exact ⟨rfl, _, _, _, _, _, _, _, _, HI5.out, by omega, by omega, by omega, by omega, fun j hj => by
      by_cases e : j = n
      · subst e; rw [upd_same]; exact HL.out i hi
      · rw [upd_other _ _ e]; exact HL.out j (by omega)⟩
  · go_simp
    refine hK.out _ _ trivial (fun _ => ?_)
    clear hK
    refine wpAnyH_take (i := 8) (oi := ⟨some 174, _, _, _, _, _⟩) rfl (by kernel_rfl) (by kernel_rfl) (by kernel_rfl) (fun _ _ _ h => h) (Or.inl ⟨by rfl, fun w hw => by (try dsimp only at hw); go_simp; with_reducible rfl⟩) (by assumption) ?_
    try simp only [Act.put, List.setIfInBounds_toArray, List.set_cons_zero, List.set_cons_succ]
    refine wpAnyH_ready (rs := [2, 9]) (by kernel_rfl) (by simp) ?_
    refine AllReadyH.cons rfl (fun K hK => ?_) (AllReadyH.cons rfl (fun K hK => ?_) AllReadyH.nil)
    · go_simp
      refine HF.out.mono ?_
      rintro e w4 ⟨g, rfl, hg, hh, hb⟩
      have HI4 := Lib.hid ((HR.out.later (drewN_below (Below.refl _ _) 1)).later hb)
      have HH4 := Lib.hid hh
      have HG4 : Hid (w0.heap.size ≤ g) := Nat.le_trans HI3.out.below.size hg
      have HK4 := Lib.hid (HK3.out g hg)
      clear hb hh hg
      refine hK.out _ _ trivial (fun _ => ?_)
      clear hK
      have q1 := HI4.out.c1
      have q2 := HI4.out.tcell hi
      rw [hvi] at q2
      refine wpAnyH_ready (rs := [9]) (by kernel_rfl) (by simp) ?_
      refine AllReadyH.cons rfl (fun K hK => ?_) (AllReadyH.nil)
      go_simp
      refine hK.out _ _ trivial (fun _ => ?_)
      clear hK
      refine wpAnyH_ready (rs := [10]) (by kernel_rfl) (by simp) ?_
      refine AllReadyH.cons rfl (fun K hK => ?_) (AllReadyH.nil)
      go_simp
      obtain ⟨rb4, nil4, le4, len4⟩ := own_at (HI4.out.text i hi) hvi
      refine (joins_any HI4.out (by omega) g (T i) HG4.out HK4.out HH4.out Ai li di nil4 (by omega) h0 (by omega) (fun K' vh' held' W hW => (own_at (hW.text i hi) hvi).1)).mono ?_
      rintro e w5 ⟨rfl, hz, K', vh', vt', V', hI5⟩
      have HI5 := Lib.hid hI5
      clear hI5 rb4 nil4 le4 len4
      refine hK.out _ _ trivial (fun _ => ?_)
      clear hK
      refine wpAnyH_take (i := 11) (oi := ⟨some 4, _, _, _, _, _⟩) rfl (by kernel_rfl) (by kernel_rfl) (by kernel_rfl) (fun _ _ _ h => h) (Or.inl ⟨by rfl, fun w hw => by (try dsimp only at hw); go_simp; with_reducible rfl⟩) (by assumption) ?_
      try simp only [Act.put, List.setIfInBounds_toArray, List.set_cons_zero, List.set_cons_succ]
      refine wpAnyH_done (by kernel_rfl) ?_ _
      change KK _ _
      refine HKK.out _ _ ?_
      go_wp2_with fail
      go_ret
      exact ⟨rfl, _, _, _, _, _, _, _, _, HI5.out, by omega, by omega, by omega, by omega, fun j hj => by
        by_cases e : j = n
        · subst e; rw [upd_same]; exact HL.out i hi
        · rw [upd_other _ _ e]; exact HL.out j (by omega)⟩
    · go_simp
      refine hK.out _ _ trivial (fun _ => ?_)
      clear hK
      refine wpAnyH_ready (rs := [2]) (by kernel_rfl) (by simp) ?_
      refine AllReadyH.cons rfl (fun K hK => ?_) (AllReadyH.nil)
      go_simp
      refine HF.out.mono ?_
      rintro e w4 ⟨g, rfl, hg, hh, hb⟩
      have HI4 := Lib.hid ((HR.out.later (drewN_below (Below.refl _ _) 1)).later hb)
      have HH4 := Lib.hid hh
      have HG4 : Hid (w0.heap.size ≤ g) := Nat.le_trans HI3.out.below.size hg
      have HK4 := Lib.hid (HK3.out g hg)
      clear hb hh hg
      refine hK.out _ _ trivial (fun _ => ?_)
      clear hK
      refine wpAnyH_ready (rs := [10]) (by kernel_rfl) (by simp) ?_
      refine AllReadyH.cons rfl (fun K hK => ?_) (AllReadyH.nil)
      go_simp
      obtain ⟨rb4, nil4, le4, len4⟩ := own_at (HI4.out.text i hi) hvi
      refine (joins_any HI4.out (by omega) g (T i) HG4.out HK4.out HH4.out Ai li di nil4 (by omega) h0 (by omega) (fun K' vh' held' W hW => (own_at (hW.text i hi) hvi).1)).mono ?_
      rintro e w5 ⟨rfl, hz, K', vh', vt', V', hI5⟩
      have HI5 := Lib.hid hI5
      clear hI5 rb4 nil4 le4 len4
      refine hK.out _ _ trivial (fun _ => ?_)
      clear hK
      refine wpAnyH_take (i := 11) (oi := ⟨some 4, _, _, _, _, _⟩) rfl (by kernel_rfl) (by kernel_rfl) (by kernel_rfl) (fun _ _ _ h => h) (Or.inl ⟨by rfl, fun w hw => by (try dsimp only at hw); go_simp; with_reducible rfl⟩) (by assumption) ?_
      try simp only [Act.put, List.setIfInBounds_toArray, List.set_cons_zero, List.set_cons_succ]
      refine wpAnyH_done (by kernel_rfl) ?_ _
      change KK _ _
      refine HKK.out _ _ ?_
      go_wp2_with fail
      go_ret
      exact ⟨rfl, _, _, _, _, _, _, _, _, HI5.out, by omega, by omega, by omega, by omega, fun j hj => by
        by_cases e : j = n
        · subst e; rw [upd_same]; exact HL.out i hi
        · rw [upd_other _ _ e]; exact HL.out j (by omega)⟩
end Go.Proofs.YtadhjgopekekgaaDoor
