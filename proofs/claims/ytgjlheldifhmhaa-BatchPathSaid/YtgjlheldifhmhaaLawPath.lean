/- ledgerlaw3.BatchPath: the walk. -/
import Derived.Test.YtgjlheldifhmhaaCommon
import Derived.Test.YtgjlheldifhmhaaCompare
import Derived.Deep.RegionHeld3
import Derived.BigQuiet
namespace Go.Proofs.Ytgjlheldifhmhaa
open Go.RowKit
/-- The list at P holds n keys. -/
def KBs (w : World) (P : Option Addr) (n : Nat) (X : Nat → List Nat) : Prop :=
  ∀ k, k < n → IsB (X k) ∧ (X k).length = 32 ∧ ∃ b o, P = some ⟨b, o, none⟩ ∧ RB w (some ⟨b, o + k * 32, none⟩) 32 (X k)
theorem KBs.below {w w' : World} {P : Option Addr} {n : Nat} {X : Nat → List Nat} (h : KBs w P n X) (hb : Below w.heap.size w w') : KBs w' P n X := fun k hk => by
  obtain ⟨h1, h2, b, o, h3, h4⟩ := h k hk
  exact ⟨h1, h2, b, o, h3, h4.below hb⟩
theorem rb_range {w : World} {b o n : Nat} {xs : List Nat} (h : RB w (some ⟨b, o, none⟩) n xs) (h0 : 0 < n) : w.rangeAt b o (bvs xs) := fun j v hv => by
  obtain ⟨ad, e, _, hc⟩ := h.2.2 h0
  injection e with e
  subst e
  simp only [bvs, List.getElem?_map, Option.map_eq_some_iff] at hv
  obtain ⟨y, hy, rfl⟩ := hv
  have := hc j y hy
  rwa [add_lit] at this
/-- One key stands, and what is below is as it was. -/
abbrev K1 (w0 : World) (b o : Nat) (xs : List Nat) (w' : World) : Prop := w'.rangeAt b o (bvs xs) ∧ RB w' (some ⟨b, o, none⟩) 32 xs ∧ Below w0.heap.size w0 w'
theorem K1.below {w0 w w' : World} {b o : Nat} {xs : List Nat} (h : K1 w0 b o xs w) (hb : Below w.heap.size w w') : K1 w0 b o xs w' :=
  ⟨rb_range (h.2.1.below hb) (by omega), h.2.1.below hb, h.2.2.trans (hb.mono h.2.2.size)⟩
theorem K1.mk {w0 w : World} {b o : Nat} {xs : List Nat} (h : RB w (some ⟨b, o, none⟩) 32 xs) (hb : Below w0.heap.size w0 w) : K1 w0 b o xs w := ⟨rb_range h (by omega), h, hb⟩
/-- Two keys stand. -/
abbrev K2 (w0 : World) (b o c p : Nat) (xs ys : List Nat) (w' : World) : Prop := w'.rangeAt b o (bvs xs) ∧ w'.rangeAt c p (bvs ys) ∧ RB w' (some ⟨b, o, none⟩) 32 xs ∧ RB w' (some ⟨c, p, none⟩) 32 ys ∧ Below w0.heap.size w0 w'
theorem K2.mk {w0 w : World} {b o c p : Nat} {xs ys : List Nat} (h : RB w (some ⟨b, o, none⟩) 32 xs) (h2 : RB w (some ⟨c, p, none⟩) 32 ys) (hb : Below w0.heap.size w0 w) : K2 w0 b o c p xs ys w := ⟨rb_range h (by omega), rb_range h2 (by omega), h, h2, hb⟩
theorem K2.below {w0 w w' : World} {b o c p : Nat} {xs ys : List Nat} (h : K2 w0 b o c p xs ys w) (hb : Below w.heap.size w w') : K2 w0 b o c p xs ys w' :=
  K2.mk (h.2.2.1.below hb) (h.2.2.2.1.below hb) (h.2.2.2.2.trans (hb.mono h.2.2.2.2.size))
theorem size_ks {c : List Nat} (h : c.length = 32) : (Try.prog.info? 28).map (·.size) = some (bvs c).toArray.size := by
  rw [size_key]
  simp [bvs, h]
theorem size_kz {c : List Nat} (h : c.length = 32) : (zarr 32).size = (bvs c).toArray.size := by simp [zarr, bvs, zs, h]
theorem all_ks (c : List Nat) : (bvs c).toArray.all (·.oneCell') = true := by
  rw [Array.all_eq_true_iff_forall_mem]
  intro v hv
  exact bvs_oneCell c v (by simpa using hv)
set_option maxRecDepth 100000 in
set_option maxHeartbeats 4000000 in
theorem batchPath_walk (P : Option Addr) (n c : Nat) (X : Nat → List Nat) (w : World) (hx : KBs w P n X) (hn : n ≤ 281474976710656) :
    Calls Try.prog 5 #[.slice P n c] w fun e w' => e = .returned (.bool true) ∧ Below w.heap.size w w' := by
  have HX := Lib.hid hx
  clear hx
  go_enter Try.func5, Try.ntmps5
  go_wp2_with fail
  go_loopw [3] (fun i wr => ∃ k : Nat, k ≤ n ∧ i = .int .i64 k ∧ Hid (Below w.heap.size w wr)) (fun i _ => n - (intOf i).toNat)
  case atStart => exact ⟨0, by omega, rfl, Below.refl _ _⟩
  case round =>
    obtain ⟨i, hi, rfl, HB⟩ := hrel
    by_cases hlt : i < n
    · obtain ⟨hBi, hLi, b, o, rfl, hri⟩ := (HX.out.below HB.out) i hlt
      have HBi := Lib.hid hBi
      have HLi := Lib.hid hLi
      have HRi := Lib.hid hri
      clear hBi hLi hri
      have hu := und_key
      have hsz : (Try.prog.info? 28).map (·.size) = some (bvs (X i)).length := by rw [size_key]; simp [bvs, HLi.out]
      have he : ∀ w, (Op.equalIn 10000 28 (.agg (bvs (X i)).toArray) (.agg (bvs (X i)).toArray)).run Try.prog w = .ok true w := fun w => by rw [key_eq w _ _ HBi.out HBi.out HLi.out HLi.out]; simp
      go_wp2_with fail
      rename_i KK hKK
      have HKK := Lib.hid hKK
      clear hKK
      refine wp_region_held_drew (S := fun w' => w'.rangeAt b (o + i * 32) (bvs (X i)) ∧ RB w' (some ⟨b, o + i * 32, none⟩) 32 (X i) ∧ Below w.heap.size w w') (by kernel_rfl) (K1.below (K1.mk HRi.out HB.out) (drewN_below (Below.refl _ _) 1)) fun hH => ?_
      refine wpAnyH_take (i := 0) (oi := ⟨some 18, _, _, _, _, _⟩) rfl (by kernel_rfl) (by kernel_rfl) (by kernel_rfl) (fun _ _ _ h => h) (Or.inl ⟨by rfl, fun w hw => by (try dsimp only at hw); go_simp; with_reducible rfl⟩) (by assumption) ?_
      try simp only [Act.put, List.setIfInBounds_toArray, List.set_cons_zero, List.set_cons_succ]
      refine wpAnyH_take (i := 1) (oi := ⟨some 19, _, _, _, _, _⟩) rfl (by kernel_rfl) (by kernel_rfl) (by kernel_rfl) (fun _ _ _ h => h) (Or.inl ⟨by rfl, fun w hw => by (try dsimp only at hw); go_simp; with_reducible rfl⟩) (by assumption) ?_
      try simp only [Act.put, List.setIfInBounds_toArray, List.set_cons_zero, List.set_cons_succ]
      refine wpAnyH_take (i := 2) (oi := ⟨some 20, _, _, _, _, _⟩) rfl (by kernel_rfl) (by kernel_rfl) (by kernel_rfl) (fun _ _ _ h => h) (Or.inl ⟨by rfl, fun w hw => by (try dsimp only at hw); go_simp; with_reducible rfl⟩) (by assumption) ?_
      try simp only [Act.put, List.setIfInBounds_toArray, List.set_cons_zero, List.set_cons_succ]
      refine wpAnyH_take (i := 3) (oi := ⟨some 21, _, _, _, _, _⟩) rfl (by kernel_rfl) (by kernel_rfl) (by kernel_rfl) (fun _ _ _ h => h) (yieldsIf_load_mid (by rfl) _ _ rfl _ _ rfl _ _ (fun w hw => by (try dsimp only at hw); go_split_ands; assumption) (by assumption) rfl (by assumption)) (by assumption) ?_
      try simp only [Act.put, List.setIfInBounds_toArray, List.set_cons_zero, List.set_cons_succ]
      refine wpAnyH_take (i := 5) (oi := ⟨some 23, _, _, _, _, _⟩) rfl (by kernel_rfl) (by kernel_rfl) (by kernel_rfl) (fun _ _ _ h => h) (Or.inl ⟨by rfl, fun w hw => by (try dsimp only at hw); go_simp; with_reducible rfl⟩) (by assumption) ?_
      try simp only [Act.put, List.setIfInBounds_toArray, List.set_cons_zero, List.set_cons_succ]
      refine wpAnyH_take (i := 6) (oi := ⟨some 24, _, _, _, _, _⟩) rfl (by kernel_rfl) (by kernel_rfl) (by kernel_rfl) (fun _ _ _ h => h) (Or.inl ⟨by rfl, fun w hw => by (try dsimp only at hw); go_simp; with_reducible rfl⟩) (by assumption) ?_
      try simp only [Act.put, List.setIfInBounds_toArray, List.set_cons_zero, List.set_cons_succ]
      refine wpAnyH_take (i := 7) (oi := ⟨some 25, _, _, _, _, _⟩) rfl (by kernel_rfl) (by kernel_rfl) (by kernel_rfl) (fun _ _ _ h => h) (Or.inl ⟨by rfl, fun w hw => by (try dsimp only at hw); go_simp; with_reducible rfl⟩) (by assumption) ?_
      try simp only [Act.put, List.setIfInBounds_toArray, List.set_cons_zero, List.set_cons_succ]
      refine wpAnyH_take (i := 8) (oi := ⟨some 26, _, _, _, _, _⟩) rfl (by kernel_rfl) (by kernel_rfl) (by kernel_rfl) (fun _ _ _ h => h) (yieldsIf_load_mid (by rfl) _ _ rfl _ _ rfl _ _ (fun w hw => by (try dsimp only at hw); go_split_ands; assumption) (by assumption) rfl (by assumption)) (by assumption) ?_
      try simp only [Act.put, List.setIfInBounds_toArray, List.set_cons_zero, List.set_cons_succ]
      refine wpAnyH_ready (rs := [4]) (by kernel_rfl) (by simp) ?_
      refine AllReadyH.cons rfl (fun K hK => ?_) (AllReadyH.nil)
      go_simp
      go_at_call 8
      refine (rebuilt_any (X i) _ HBi.out HLi.out).mono ?_
      rintro e w4 ⟨rfl, hb⟩
      refine hK.out _ _ (K1.below (by assumption) hb) (fun hH4 => ?_)
      clear hb hK hH
      refine wpAnyH_take (i := 9) (oi := ⟨some 27, _, _, _, _, _⟩) rfl (by kernel_rfl) (by kernel_rfl) (by kernel_rfl) (fun _ _ _ h => h) (Or.inl ⟨by rfl, fun w hw => by (try dsimp only at hw); go_simp; with_reducible rfl⟩) (by assumption) ?_
      try simp only [Act.put, List.setIfInBounds_toArray, List.set_cons_zero, List.set_cons_succ]
      refine wpAnyH_take (i := 10) (oi := ⟨some 28, _, _, _, _, _⟩) rfl (by kernel_rfl) (by kernel_rfl) (by kernel_rfl) (fun _ _ _ h => h) (Or.inl ⟨by rfl, fun w hw => by (try dsimp only at hw); go_simp; with_reducible rfl⟩) (by assumption) ?_
      try simp only [Act.put, List.setIfInBounds_toArray, List.set_cons_zero, List.set_cons_succ]
      refine wpAnyH_take (i := 11) (oi := ⟨some 29, _, _, _, _, _⟩) rfl (by kernel_rfl) (by kernel_rfl) (by kernel_rfl) (fun _ _ _ h => h) (Or.inl ⟨by rfl, fun w hw => by (try dsimp only at hw); go_simp; with_reducible rfl⟩) (by assumption) ?_
      try simp only [Act.put, List.setIfInBounds_toArray, List.set_cons_zero, List.set_cons_succ]
      refine wpAnyH_take (i := 12) (oi := ⟨some 30, _, _, _, _, _⟩) rfl (by kernel_rfl) (by kernel_rfl) (by kernel_rfl) (fun _ _ _ h => h) (Or.inl ⟨by rfl, fun w hw => by (try dsimp only at hw); go_simp; with_reducible rfl⟩) (by assumption) ?_
      try simp only [Act.put, List.setIfInBounds_toArray, List.set_cons_zero, List.set_cons_succ]
      refine wpAnyH_take (i := 13) (oi := ⟨some 31, _, _, _, _, _⟩) rfl (by kernel_rfl) (by kernel_rfl) (by kernel_rfl) (fun _ _ _ h => h) (Or.inl ⟨by rfl, fun w hw => by (try dsimp only at hw); go_simp; with_reducible rfl⟩) (by assumption) ?_
      try simp only [Act.put, List.setIfInBounds_toArray, List.set_cons_zero, List.set_cons_succ]
      refine wpAnyH_take (i := 14) (oi := ⟨some 32, _, _, _, _, _⟩) rfl (by kernel_rfl) (by kernel_rfl) (by kernel_rfl) (fun _ _ _ h => h) (yieldsIf_load_mid (by rfl) _ _ rfl _ _ rfl _ _ (fun w hw => by (try dsimp only at hw); go_split_ands; assumption) (by assumption) rfl (by assumption)) (by assumption) ?_
      try simp only [Act.put, List.setIfInBounds_toArray, List.set_cons_zero, List.set_cons_succ]
      refine wpAnyH_ready (rs := [15]) (by kernel_rfl) (by simp) ?_
      refine AllReadyH.cons rfl (fun K hK => ?_) (AllReadyH.nil)
      go_simp
      go_at_call 9
      refine (bit_out (X i) (-1) _ (by omega)).mono ?_
      rintro e w5 ⟨rfl, hb⟩
      refine hK.out _ _ (K1.below (by assumption) hb) (fun hH5 => ?_)
      clear hb hK hH4
      refine wpAnyH_take (i := 16) (oi := ⟨some 34, _, _, _, _, _⟩) rfl (by kernel_rfl) (by kernel_rfl) (by kernel_rfl) (fun _ _ _ h => h) (Or.inl ⟨by rfl, fun w hw => by (try dsimp only at hw); go_simp; with_reducible rfl⟩) (by assumption) ?_
      try simp only [Act.put, List.setIfInBounds_toArray, List.set_cons_zero, List.set_cons_succ]
      refine wpAnyH_take (i := 17) (oi := ⟨some 35, _, _, _, _, _⟩) rfl (by kernel_rfl) (by kernel_rfl) (by kernel_rfl) (fun _ _ _ h => h) (Or.inl ⟨by rfl, fun w hw => by (try dsimp only at hw); go_simp; with_reducible rfl⟩) (by assumption) ?_
      try simp only [Act.put, List.setIfInBounds_toArray, List.set_cons_zero, List.set_cons_succ]
      refine wpAnyH_take (i := 18) (oi := ⟨some 36, _, _, _, _, _⟩) rfl (by kernel_rfl) (by kernel_rfl) (by kernel_rfl) (fun _ _ _ h => h) (Or.inl ⟨by rfl, fun w hw => by (try dsimp only at hw); go_simp; with_reducible rfl⟩) (by assumption) ?_
      try simp only [Act.put, List.setIfInBounds_toArray, List.set_cons_zero, List.set_cons_succ]
      refine wpAnyH_take (i := 19) (oi := ⟨some 37, _, _, _, _, _⟩) rfl (by kernel_rfl) (by kernel_rfl) (by kernel_rfl) (fun _ _ _ h => h) (Or.inl ⟨by rfl, fun w hw => by (try dsimp only at hw); go_simp; with_reducible rfl⟩) (by assumption) ?_
      try simp only [Act.put, List.setIfInBounds_toArray, List.set_cons_zero, List.set_cons_succ]
      refine wpAnyH_take (i := 20) (oi := ⟨some 38, _, _, _, _, _⟩) rfl (by kernel_rfl) (by kernel_rfl) (by kernel_rfl) (fun _ _ _ h => h) (Or.inl ⟨by rfl, fun w hw => by (try dsimp only at hw); go_simp; with_reducible rfl⟩) (by assumption) ?_
      try simp only [Act.put, List.setIfInBounds_toArray, List.set_cons_zero, List.set_cons_succ]
      refine wpAnyH_take (i := 21) (oi := ⟨some 39, _, _, _, _, _⟩) rfl (by kernel_rfl) (by kernel_rfl) (by kernel_rfl) (fun _ _ _ h => h) (Or.inl ⟨by rfl, fun w hw => by (try dsimp only at hw); go_simp; with_reducible rfl⟩) (by assumption) ?_
      try simp only [Act.put, List.setIfInBounds_toArray, List.set_cons_zero, List.set_cons_succ]
      refine wpAnyH_take (i := 22) (oi := ⟨some 40, _, _, _, _, _⟩) rfl (by kernel_rfl) (by kernel_rfl) (by kernel_rfl) (fun _ _ _ h => h) (yieldsIf_load_mid (by rfl) _ _ rfl _ _ rfl _ _ (fun w hw => by (try dsimp only at hw); go_split_ands; assumption) (by assumption) rfl (by assumption)) (by assumption) ?_
      try simp only [Act.put, List.setIfInBounds_toArray, List.set_cons_zero, List.set_cons_succ]
      refine wpAnyH_ready (rs := [23]) (by kernel_rfl) (by simp) ?_
      refine AllReadyH.cons rfl (fun K hK => ?_) (AllReadyH.nil)
      go_simp
      go_at_call 9
      refine (bit_out (X i) 256 _ (by omega)).mono ?_
      rintro e w6 ⟨rfl, hb⟩
      refine hK.out _ _ (K1.below (by assumption) hb) (fun hH6 => ?_)
      clear hb hK hH5
      refine wpAnyH_take (i := 24) (oi := ⟨some 42, _, _, _, _, _⟩) rfl (by kernel_rfl) (by kernel_rfl) (by kernel_rfl) (fun _ _ _ h => h) (Or.inl ⟨by rfl, fun w hw => by (try dsimp only at hw); go_simp; with_reducible rfl⟩) (by assumption) ?_
      try simp only [Act.put, List.setIfInBounds_toArray, List.set_cons_zero, List.set_cons_succ]
      refine wpAnyH_take (i := 25) (oi := ⟨some 43, _, _, _, _, _⟩) rfl (by kernel_rfl) (by kernel_rfl) (by kernel_rfl) (fun _ _ _ h => h) (Or.inl ⟨by rfl, fun w hw => by (try dsimp only at hw); go_simp; with_reducible rfl⟩) (by assumption) ?_
      try simp only [Act.put, List.setIfInBounds_toArray, List.set_cons_zero, List.set_cons_succ]
      refine wpAnyH_done (by kernel_rfl) ?_ _
      change KK _ _
      have HB6 := Lib.hid hH6.2.2
      clear hH6 he hu hsz
      refine HKK.out _ _ ?_
      clear HKK
      go_wp2_with fail
      go_loopw [4] (fun j wr => ∃ k : Nat, k ≤ n ∧ j = .int .i64 k ∧ Hid (Below w.heap.size w wr)) (fun j _ => n - (intOf j).toNat)
      case atStart => exact ⟨0, by omega, rfl, HB6.out⟩
      case round =>
        clear HB HRi HB6
        obtain ⟨j, hj, rfl, HB7⟩ := hrel
        obtain ⟨w7, rfl⟩ : ∃ w7, w7 = wr := ⟨_, rfl⟩
        by_cases hlj : j < n ∧ j < 8
        · obtain ⟨hlj, hj8⟩ := hlj
          obtain ⟨_, _, b2, o2, e1, hr1⟩ := (HX.out.below HB7.out) i hlt
          injection e1 with e1
          injection e1 with e1 e2
          subst e1 e2
          obtain ⟨hBj, hLj, b2, o2, e1, hr2⟩ := (HX.out.below HB7.out) j hlj
          injection e1 with e1
          injection e1 with e1 e2
          subst e1 e2
          have HRi := Lib.hid hr1
          have HRj := Lib.hid hr2
          have HBy := Lib.hid hBj
          have HLy := Lib.hid hLj
          have HBx := HBi
          have HLx := HLi
          clear hr1 hr2 hBj hLj HBi HLi
          generalize X i = xs at *
          generalize X j = ys at *
          by_cases hxy : xs = ys
          · subst hxy
            have HE : Hid (∀ w, (Op.equalIn 10000 28 (.agg (bvs xs).toArray) (.agg (bvs xs).toArray)).run Try.prog w = .ok true w) := fun w => by rw [key_eq w _ _ HBx.out HBx.out HLx.out HLx.out]; simp
            clear HBy HLy
            have HA1 : Hid (RB (w7.alloc (.cells (bvs xs).toArray 28)) (some ⟨b, o + j * 32, none⟩) 32 xs) := HRj.out.alloc _
            have HA2 : Hid (RB ((w7.alloc (.cells (bvs xs).toArray 28)).alloc (.cells (bvs xs).toArray 28)) (some ⟨w7.heap.size, 0, none⟩) 32 xs) := BlkB.whole (BlkIs.alloc (BlkIs.new w7 28 _) _) HBx.out HLx.out
            have HA3 : Hid (RB ((w7.alloc (.cells (bvs xs).toArray 28)).alloc (.cells (bvs xs).toArray 28)) (some ⟨w7.heap.size + 1, 0, none⟩) 32 xs) := BlkB.whole (blk_at w7 _ 1 _ _ (by simp)) HBx.out HLx.out
            have HW8 := Lib.hid ((HB7.out.alloc HB7.out.size (.cells (bvs xs).toArray 28)).alloc (by have := HB7.out.size; simp; omega) (.cells (bvs xs).toArray 28))
            go_wp2_with (first
              | (refine wpList_load_arr (o := ⟨some 57, _, _, _, _, _⟩) (by rfl) 28 (.tmp 56) rfl ⟨b, o + i * 32, none⟩ 32 xs rfl HRi.out (by omega) row_key size_key ?_)
              | (refine wpList_store_arr (o := ⟨none, _, _, _, _, _⟩) (by rfl) 28 (.tmp 5) (.tmp 57) rfl w7 _ (bvs xs).toArray rfl rfl (size_ks HLx.out) (size_kz HLx.out) (all_ks xs) ?_)
              | (refine wpList_load_arr (o := ⟨some 61, _, _, _, _, _⟩) (by rfl) 28 (.tmp 60) rfl ⟨b, o + j * 32, none⟩ 32 xs rfl HA1.out (by omega) row_key size_key ?_)
              | (refine wpList_store_arr_at (o := ⟨none, _, _, _, _, _⟩) (by rfl) 28 (.tmp 6) (.tmp 61) rfl (w7.alloc (.cells (bvs xs).toArray 28)) _ (bvs xs).toArray (w7.heap.size + 1) (by simp) rfl rfl (size_ks HLx.out) (size_kz HLx.out) (all_ks xs) ?_)
              | (refine wpList_load_arr (o := ⟨some 62, _, _, _, _, _⟩) (by rfl) 28 (.tmp 5) rfl ⟨w7.heap.size, 0, none⟩ 32 xs rfl HA2.out (by omega) row_key size_key ?_)
              | (refine wpList_load_arr (o := ⟨some 63, _, _, _, _, _⟩) (by rfl) 28 (.tmp 6) rfl ⟨w7.heap.size + 1, 0, none⟩ 32 xs rfl HA3.out (by omega) row_key size_key ?_))
            refine (common_same xs _ HBx.out HLx.out).mono ?_
            rintro e w8 ⟨rfl, hb⟩
            have HS : Hid (K2 w w7.heap.size 0 (w7.heap.size + 1) 0 xs xs w8) := K2.below (K2.mk HA2.out HA3.out HW8.out) hb
            clear hb HA1 HA2 HA3 HW8 HRi HRj HB7
            generalize w7.heap.size = ga at *
            have he := HE.out
            go_wp2_with (first
              | (refine wpList_load_arrG (o := ⟨some 74, _, _, _, _, _⟩) (by rfl) 28 (.tmp 5) rfl ⟨ga, 0, none⟩ 32 xs rfl HS.out.2.2.1 (by omega) row_key size_key ?_)
              | (refine wpList_load_arrG (o := ⟨some 75, _, _, _, _, _⟩) (by rfl) 28 (.tmp 6) rfl ⟨ga + 1, 0, none⟩ 32 xs rfl HS.out.2.2.2.1 (by omega) row_key size_key ?_))
            go_loopw [8] (fun h wr => ∃ k : Nat, k ≤ 256 ∧ h = .int .i64 k ∧ Hid (K2 w ga 0 (ga + 1) 0 xs xs wr)) (fun h _ => 256 - (intOf h).toNat)
            case atStart => exact ⟨0, by omega, rfl, HS.out⟩
            case round =>
              clear HS
              obtain ⟨h, hh, rfl, HS⟩ := hrel
              by_cases hlh : h < 256
              · have hu := und_key
                have hsx : (Try.prog.info? 28).map (·.size) = some (bvs xs).length := by rw [size_key]; simp [bvs, HLx.out]
                have HC1 := Lib.hid (fun w => bit_in xs h w HBx.out HLx.out (by omega))
                have HC2 := Lib.hid (fun w => bit_in xs h w HBx.out HLx.out (by omega))
                generalize bitK xs h = bb at *
                clear he
                go_wp2_with fail
                rename_i KK hKK
                have HKK := Lib.hid hKK
                clear hKK
                refine wp_region_held_drew (S := fun w' => w'.rangeAt ga 0 (bvs xs) ∧ w'.rangeAt (ga + 1) 0 (bvs xs) ∧ RB w' (some ⟨ga, 0, none⟩) 32 xs ∧ RB w' (some ⟨ga + 1, 0, none⟩) 32 xs ∧ Below w.heap.size w w') (by kernel_rfl) (K2.below HS.out (drewN_below (Below.refl _ _) 1)) fun hH => ?_
                refine wpAnyH_take (i := 0) (oi := ⟨some 84, _, _, _, _, _⟩) rfl (by kernel_rfl) (by kernel_rfl) (by kernel_rfl) (fun _ _ _ h => h) (yieldsIf_load_mid (by rfl) _ _ rfl _ _ rfl _ _ (fun w hw => by (try dsimp only at hw); go_split_ands; assumption) (by assumption) rfl (by assumption)) (by assumption) ?_
                try simp only [Act.put, List.setIfInBounds_toArray, List.set_cons_zero, List.set_cons_succ]
                refine wpAnyH_take (i := 1) (oi := ⟨some 85, _, _, _, _, _⟩) rfl (by kernel_rfl) (by kernel_rfl) (by kernel_rfl) (fun _ _ _ h => h) (Or.inl ⟨by rfl, fun w hw => by (try dsimp only at hw); go_simp; with_reducible rfl⟩) (by assumption) ?_
                try simp only [Act.put, List.setIfInBounds_toArray, List.set_cons_zero, List.set_cons_succ]
                refine wpAnyH_take (i := 3) (oi := ⟨some 87, _, _, _, _, _⟩) rfl (by kernel_rfl) (by kernel_rfl) (by kernel_rfl) (fun _ _ _ h => h) (yieldsIf_load_mid (by rfl) _ _ rfl _ _ rfl _ _ (fun w hw => by (try dsimp only at hw); go_split_ands; assumption) (by assumption) rfl (by assumption)) (by assumption) ?_
                try simp only [Act.put, List.setIfInBounds_toArray, List.set_cons_zero, List.set_cons_succ]
                refine wpAnyH_take (i := 4) (oi := ⟨some 88, _, _, _, _, _⟩) rfl (by kernel_rfl) (by kernel_rfl) (by kernel_rfl) (fun _ _ _ h => h) (Or.inl ⟨by rfl, fun w hw => by (try dsimp only at hw); go_simp; with_reducible rfl⟩) (by assumption) ?_
                try simp only [Act.put, List.setIfInBounds_toArray, List.set_cons_zero, List.set_cons_succ]
                refine wpAnyH_ready (rs := [2]) (by kernel_rfl) (by simp) ?_
                refine AllReadyH.cons rfl (fun K hK => ?_) (AllReadyH.nil)
                go_simp
                go_at_call 9
                refine (HC1.out _).mono ?_
                rintro e w9 ⟨rfl, hb⟩
                refine hK.out _ _ (K2.below (by assumption) hb) (fun hH9 => ?_)
                clear hb hK hH
                refine wpAnyH_ready (rs := [5]) (by kernel_rfl) (by simp) ?_
                refine AllReadyH.cons rfl (fun K hK => ?_) (AllReadyH.nil)
                go_simp
                go_at_call 9
                refine (HC2.out _).mono ?_
                rintro e w10 ⟨rfl, hb⟩
                refine hK.out _ _ (K2.below (by assumption) hb) (fun hH10 => ?_)
                clear hb hK hH9
                refine wpAnyH_take (i := 6) (oi := ⟨some 90, _, _, _, _, _⟩) rfl (by kernel_rfl) (by kernel_rfl) (by kernel_rfl) (fun _ _ _ h => h) (Or.inl ⟨by rfl, fun w hw => by (try dsimp only at hw); go_simp; with_reducible rfl⟩) (by assumption) ?_
                try simp only [Act.put, List.setIfInBounds_toArray, List.set_cons_zero, List.set_cons_succ]
                refine wpAnyH_done (by kernel_rfl) ?_ _
                change KK _ _
                have HS10 : Hid (K2 w ga 0 (ga + 1) 0 xs xs w10) := hH10
                clear hH10 hu hsx
                refine HKK.out _ _ ?_
                clear HKK
                go_wp2_with fail
                go_roundw
                case rel => exact ⟨h + 1, by omega, by go_num, HS10.out⟩
                case measure => simp [intOf]; omega
              · have hhe : h = 256 := by omega
                subst hhe
                go_wp2_with (first
                  | (refine wpList_load_arr (o := ⟨some 91, _, _, _, _, _⟩) (by rfl) 28 (.tmp 5) rfl ⟨ga, 0, none⟩ 32 xs rfl HS.out.2.2.1 (by omega) row_key size_key ?_)
                  | (refine wpList_load_arr (o := ⟨some 92, _, _, _, _, _⟩) (by rfl) 28 (.tmp 6) rfl ⟨ga + 1, 0, none⟩ 32 xs rfl HS.out.2.2.2.1 (by omega) row_key size_key ?_))
                have HCM := Lib.hid (fun w => compare_any xs xs w HBx.out HLx.out HBx.out HLx.out)
                rw [cmpN_same] at HCM
                refine (HCM.out _).mono ?_
                rintro e w11 ⟨rfl, hb⟩
                have HB11 := Lib.hid (K2.below HS.out hb).2.2.2.2
                clear hb HCM
                go_wp2_with fail
                go_roundw
                case rel => exact ⟨j + 1, by omega, by go_num, HB11.out⟩
                case measure => simp [intOf]; omega
          · have HE : Hid (∀ w, (Op.equalIn 10000 28 (.agg (bvs xs).toArray) (.agg (bvs ys).toArray)).run Try.prog w = .ok false w) := fun w => by rw [key_eq w _ _ HBx.out HBy.out HLx.out HLy.out, decide_eq_false hxy]
            obtain ⟨dd, hd⟩ := diff_of HLx.out HLy.out hxy
            have HC := Lib.hid (com_spec HBx.out HBy.out hd)
            have HD := Lib.hid hd
            clear hd hxy
            have HA1 : Hid (RB (w7.alloc (.cells (bvs xs).toArray 28)) (some ⟨b, o + j * 32, none⟩) 32 ys) := HRj.out.alloc _
            have HA2 : Hid (RB ((w7.alloc (.cells (bvs xs).toArray 28)).alloc (.cells (bvs ys).toArray 28)) (some ⟨w7.heap.size, 0, none⟩) 32 xs) := BlkB.whole (BlkIs.alloc (BlkIs.new w7 28 _) _) HBx.out HLx.out
            have HA3 : Hid (RB ((w7.alloc (.cells (bvs xs).toArray 28)).alloc (.cells (bvs ys).toArray 28)) (some ⟨w7.heap.size + 1, 0, none⟩) 32 ys) := BlkB.whole (blk_at w7 _ 1 _ _ (by simp)) HBy.out HLy.out
            have HW8 := Lib.hid ((HB7.out.alloc HB7.out.size (.cells (bvs xs).toArray 28)).alloc (by have := HB7.out.size; simp; omega) (.cells (bvs ys).toArray 28))
            go_wp2_with (first
              | (refine wpList_load_arr (o := ⟨some 57, _, _, _, _, _⟩) (by rfl) 28 (.tmp 56) rfl ⟨b, o + i * 32, none⟩ 32 xs rfl HRi.out (by omega) row_key size_key ?_)
              | (refine wpList_store_arr (o := ⟨none, _, _, _, _, _⟩) (by rfl) 28 (.tmp 5) (.tmp 57) rfl w7 _ (bvs xs).toArray rfl rfl (size_ks HLx.out) (size_kz HLx.out) (all_ks xs) ?_)
              | (refine wpList_load_arr (o := ⟨some 61, _, _, _, _, _⟩) (by rfl) 28 (.tmp 60) rfl ⟨b, o + j * 32, none⟩ 32 ys rfl HA1.out (by omega) row_key size_key ?_)
              | (refine wpList_store_arr_at (o := ⟨none, _, _, _, _, _⟩) (by rfl) 28 (.tmp 6) (.tmp 61) rfl (w7.alloc (.cells (bvs xs).toArray 28)) _ (bvs ys).toArray (w7.heap.size + 1) (by simp) rfl rfl (size_ks HLy.out) (size_kz HLy.out) (all_ks ys) ?_)
              | (refine wpList_load_arr (o := ⟨some 62, _, _, _, _, _⟩) (by rfl) 28 (.tmp 5) rfl ⟨w7.heap.size, 0, none⟩ 32 xs rfl HA2.out (by omega) row_key size_key ?_)
              | (refine wpList_load_arr (o := ⟨some 63, _, _, _, _, _⟩) (by rfl) 28 (.tmp 6) rfl ⟨w7.heap.size + 1, 0, none⟩ 32 ys rfl HA3.out (by omega) row_key size_key ?_))
            refine (common_diff xs ys dd _ HBx.out HLx.out HBy.out HLy.out HD.out).mono ?_
            rintro e w8 ⟨rfl, hb⟩
            have HS : Hid (K2 w w7.heap.size 0 (w7.heap.size + 1) 0 xs ys w8) := K2.below (K2.mk HA2.out HA3.out HW8.out) hb
            clear hb HA1 HA2 HA3 HW8 HRi HRj HB7
            generalize w7.heap.size = ga at *
            obtain ⟨m, HM⟩ : ∃ m, Hid (comN xs ys dd = m) := ⟨_, rfl⟩
            rw [HM.out] at HC ⊢
            have hm := HC.out.1
            have hm6 : ((m : Int) == 256) = false := by rw [beq_eq_false_iff_ne]; omega
            have hm0 : decide ((m : Int) < 0) = false := decide_eq_false (by omega)
            have hm1 : decide ((256 : Int) < (m : Int)) = false := decide_eq_false (by omega)
            clear HM
            have he := HE.out
            go_wp2_with (first
              | (refine wpList_load_arrG (o := ⟨some 74, _, _, _, _, _⟩) (by rfl) 28 (.tmp 5) rfl ⟨ga, 0, none⟩ 32 xs rfl HS.out.2.2.1 (by omega) row_key size_key ?_)
              | (refine wpList_load_arrG (o := ⟨some 75, _, _, _, _, _⟩) (by rfl) 28 (.tmp 6) rfl ⟨ga + 1, 0, none⟩ 32 ys rfl HS.out.2.2.2.1 (by omega) row_key size_key ?_))
            go_loopw [8] (fun h wr => ∃ k : Nat, k ≤ m ∧ h = .int .i64 k ∧ Hid (K2 w ga 0 (ga + 1) 0 xs ys wr)) (fun h _ => m - (intOf h).toNat)
            case atStart => exact ⟨0, by omega, rfl, HS.out⟩
            case round =>
              clear HS
              obtain ⟨h, hh, rfl, HS⟩ := hrel
              by_cases hlh : h < m
              · have hu := und_key
                have hsx : (Try.prog.info? 28).map (·.size) = some (bvs xs).length := by rw [size_key]; simp [bvs, HLx.out]
                have hsy : (Try.prog.info? 28).map (·.size) = some (bvs ys).length := by rw [size_key]; simp [bvs, HLy.out]
                have HBE := Lib.hid (HC.out.2.1 h hlh)
                have HC1 := Lib.hid (fun w => bit_in xs h w HBx.out HLx.out (by omega))
                have HC2 := Lib.hid (fun w => bit_in ys h w HBy.out HLy.out (by omega))
                rw [← HBE.out] at HC2
                clear HBE
                generalize bitK xs h = bb at *
                clear he
                go_wp2_with fail
                rename_i KK hKK
                have HKK := Lib.hid hKK
                clear hKK
                refine wp_region_held_drew (S := fun w' => w'.rangeAt ga 0 (bvs xs) ∧ w'.rangeAt (ga + 1) 0 (bvs ys) ∧ RB w' (some ⟨ga, 0, none⟩) 32 xs ∧ RB w' (some ⟨ga + 1, 0, none⟩) 32 ys ∧ Below w.heap.size w w') (by kernel_rfl) (K2.below HS.out (drewN_below (Below.refl _ _) 1)) fun hH => ?_
                refine wpAnyH_take (i := 0) (oi := ⟨some 84, _, _, _, _, _⟩) rfl (by kernel_rfl) (by kernel_rfl) (by kernel_rfl) (fun _ _ _ h => h) (yieldsIf_load_mid (by rfl) _ _ rfl _ _ rfl _ _ (fun w hw => by (try dsimp only at hw); go_split_ands; assumption) (by assumption) rfl (by assumption)) (by assumption) ?_
                try simp only [Act.put, List.setIfInBounds_toArray, List.set_cons_zero, List.set_cons_succ]
                refine wpAnyH_take (i := 1) (oi := ⟨some 85, _, _, _, _, _⟩) rfl (by kernel_rfl) (by kernel_rfl) (by kernel_rfl) (fun _ _ _ h => h) (Or.inl ⟨by rfl, fun w hw => by (try dsimp only at hw); go_simp; with_reducible rfl⟩) (by assumption) ?_
                try simp only [Act.put, List.setIfInBounds_toArray, List.set_cons_zero, List.set_cons_succ]
                refine wpAnyH_take (i := 3) (oi := ⟨some 87, _, _, _, _, _⟩) rfl (by kernel_rfl) (by kernel_rfl) (by kernel_rfl) (fun _ _ _ h => h) (yieldsIf_load_mid (by rfl) _ _ rfl _ _ rfl _ _ (fun w hw => by (try dsimp only at hw); go_split_ands; assumption) (by assumption) rfl (by assumption)) (by assumption) ?_
                try simp only [Act.put, List.setIfInBounds_toArray, List.set_cons_zero, List.set_cons_succ]
                refine wpAnyH_take (i := 4) (oi := ⟨some 88, _, _, _, _, _⟩) rfl (by kernel_rfl) (by kernel_rfl) (by kernel_rfl) (fun _ _ _ h => h) (Or.inl ⟨by rfl, fun w hw => by (try dsimp only at hw); go_simp; with_reducible rfl⟩) (by assumption) ?_
                try simp only [Act.put, List.setIfInBounds_toArray, List.set_cons_zero, List.set_cons_succ]
                refine wpAnyH_ready (rs := [2]) (by kernel_rfl) (by simp) ?_
                refine AllReadyH.cons rfl (fun K hK => ?_) (AllReadyH.nil)
                go_simp
                go_at_call 9
                refine (HC1.out _).mono ?_
                rintro e w9 ⟨rfl, hb⟩
                refine hK.out _ _ (K2.below (by assumption) hb) (fun hH9 => ?_)
                clear hb hK hH
                refine wpAnyH_ready (rs := [5]) (by kernel_rfl) (by simp) ?_
                refine AllReadyH.cons rfl (fun K hK => ?_) (AllReadyH.nil)
                go_simp
                go_at_call 9
                refine (HC2.out _).mono ?_
                rintro e w10 ⟨rfl, hb⟩
                refine hK.out _ _ (K2.below (by assumption) hb) (fun hH10 => ?_)
                clear hb hK hH9
                refine wpAnyH_take (i := 6) (oi := ⟨some 90, _, _, _, _, _⟩) rfl (by kernel_rfl) (by kernel_rfl) (by kernel_rfl) (fun _ _ _ h => h) (Or.inl ⟨by rfl, fun w hw => by (try dsimp only at hw); go_simp; with_reducible rfl⟩) (by assumption) ?_
                try simp only [Act.put, List.setIfInBounds_toArray, List.set_cons_zero, List.set_cons_succ]
                refine wpAnyH_done (by kernel_rfl) ?_ _
                change KK _ _
                have HS10 : Hid (K2 w ga 0 (ga + 1) 0 xs ys w10) := hH10
                clear hH10 hu hsx
                refine HKK.out _ _ ?_
                clear HKK
                go_wp2_with fail
                go_roundw
                case rel => exact ⟨h + 1, by omega, by go_num, HS10.out⟩
                case measure => simp [intOf]; omega
              · have hhe : h = m := by omega
                subst hhe
                go_wp2_with (first
                  | (refine wpList_load_arr (o := ⟨some 91, _, _, _, _, _⟩) (by rfl) 28 (.tmp 5) rfl ⟨ga, 0, none⟩ 32 xs rfl HS.out.2.2.1 (by omega) row_key size_key ?_)
                  | (refine wpList_load_arr (o := ⟨some 92, _, _, _, _, _⟩) (by rfl) 28 (.tmp 6) rfl ⟨ga + 1, 0, none⟩ 32 ys rfl HS.out.2.2.2.1 (by omega) row_key size_key ?_))
                have HCM := Lib.hid (fun w => compare_any xs ys w HBx.out HLx.out HBy.out HLy.out)
                rw [cmpN_diff HBx.out HBy.out HLx.out HLy.out HD.out] at HCM
                have HCX := Lib.hid (fun w => bit_in xs h w HBx.out HLx.out (by omega))
                have HCY := Lib.hid (fun w => bit_in ys h w HBy.out HLy.out (by omega))
                rcases HC.out.2.2 with ⟨c1, c2, c3⟩ | ⟨c1, c2, c3⟩
                · rw [if_pos c1] at HCM
                  rw [c2] at HCX
                  rw [c3] at HCY
                  clear c1 c2 c3
                  refine (HCM.out _).mono ?_
                  rintro e w11 ⟨rfl, hb⟩
                  have HS11 : Hid (K2 w ga 0 (ga + 1) 0 xs ys w11) := K2.below HS.out hb
                  clear hb HCM
                  go_wp2_with (refine wpList_load_arr (o := ⟨some 98, _, _, _, _, _⟩) (by rfl) 28 (.tmp 5) rfl ⟨ga, 0, none⟩ 32 xs rfl HS11.out.2.2.1 (by omega) row_key size_key ?_)
                  refine (HCX.out _).mono ?_
                  rintro e w12 ⟨rfl, hb⟩
                  have HS12 : Hid (K2 w ga 0 (ga + 1) 0 xs ys w12) := K2.below HS11.out hb
                  clear hb HCX
                  go_wp2_with (refine wpList_load_arr (o := ⟨some 101, _, _, _, _, _⟩) (by rfl) 28 (.tmp 6) rfl ⟨ga + 1, 0, none⟩ 32 ys rfl HS12.out.2.2.2.1 (by omega) row_key size_key ?_)
                  refine (HCY.out _).mono ?_
                  rintro e w13 ⟨rfl, hb⟩
                  have HB13 := Lib.hid (K2.below HS12.out hb).2.2.2.2
                  clear hb HCY
                  go_wp2_with fail
                  go_roundw
                  case rel => exact ⟨j + 1, by omega, by go_num, HB13.out⟩
                  case measure => simp [intOf]; omega
                · rw [if_neg (by omega)] at HCM
                  rw [c2] at HCX
                  rw [c3] at HCY
                  clear c1 c2 c3
                  refine (HCM.out _).mono ?_
                  rintro e w11 ⟨rfl, hb⟩
                  have HS11 : Hid (K2 w ga 0 (ga + 1) 0 xs ys w11) := K2.below HS.out hb
                  clear hb HCM
                  go_wp2_with (refine wpList_load_arr (o := ⟨some 98, _, _, _, _, _⟩) (by rfl) 28 (.tmp 5) rfl ⟨ga, 0, none⟩ 32 xs rfl HS11.out.2.2.1 (by omega) row_key size_key ?_)
                  refine (HCX.out _).mono ?_
                  rintro e w12 ⟨rfl, hb⟩
                  have HS12 : Hid (K2 w ga 0 (ga + 1) 0 xs ys w12) := K2.below HS11.out hb
                  clear hb HCX
                  go_wp2_with (refine wpList_load_arr (o := ⟨some 101, _, _, _, _, _⟩) (by rfl) 28 (.tmp 6) rfl ⟨ga + 1, 0, none⟩ 32 ys rfl HS12.out.2.2.2.1 (by omega) row_key size_key ?_)
                  refine (HCY.out _).mono ?_
                  rintro e w13 ⟨rfl, hb⟩
                  have HB13 := Lib.hid (K2.below HS12.out hb).2.2.2.2
                  clear hb HCY
                  go_wp2_with fail
                  go_roundw
                  case rel => exact ⟨j + 1, by omega, by go_num, HB13.out⟩
                  case measure => simp [intOf]; omega
        · by_cases hlj2 : j < n
          · have hj8 : 8 ≤ j := by omega
            clear hlj
            go_wp2_with fail
            go_roundw
            case rel => exact ⟨i + 1, by omega, by go_num, HB7.out⟩
            case measure => simp [intOf]; omega
          · clear hlj
            go_wp2_with fail
            go_roundw
            case rel => exact ⟨i + 1, by omega, by go_num, HB7.out⟩
            case measure => simp [intOf]; omega
    · go_wp2_with fail
      go_ret
      exact ⟨rfl, HB.out⟩
end Go.Proofs.Ytgjlheldifhmhaa
