/- ledgerlaw1.DigestCuts: the walk. -/
import Derived.Test.YtgjlheldifhmhaaCut
import Derived.BigQuiet
import Derived.Deep.RegionHeld3
namespace Go.Proofs.Ytgjlheldifhmhaa
open Go.RowKit
theorem cutK_min (a b : Int) : cutK (min a b) = min (cutK a) (cutK b) := by unfold cutK; omega
theorem cut_cut {ds : List Nat} (hl : ds.length = 32) (a b : Int) : cutN (cutN ds a) b = cutN ds (min a b) := by
  have h1 := cutK_le a
  have h2 := cutK_le b
  unfold cutN
  rw [cutK_min]
  rcases Nat.le_total (cutK b) (cutK a) with h | h
  · rw [show min (cutK a) (cutK b) = cutK b by omega, List.take_append_of_le_length (by rw [List.length_take, hl]; omega), List.take_take, show min (cutK b) (cutK a) = cutK b by omega]
  · rw [show min (cutK a) (cutK b) = cutK a by omega, List.take_append, List.take_of_length_le (by rw [List.length_take, hl]; omega), List.length_take, hl, show min (cutK a) 32 = cutK a by omega, List.append_assoc]
    congr 1
    simp only [zs]
    rw [List.take_replicate, List.replicate_append_replicate]
    congr 1
    omega
theorem dig_eq (w : World) (xs : List Nat) (hB : IsB xs) (hl : xs.length = 32) : (Op.equalIn 10000 24 (.agg (bvs xs).toArray) (.agg (bvs xs).toArray)).run Try.prog w = .ok true w := by
  rw [show (10000 : Nat) = 9998 + 2 from rfl, eq_arr w 9998 24 5 32 (by kernel_rfl) (by kernel_rfl) byte_sizeOf hB hB hl hl]
  simp
theorem size_cs {c : List Nat} (h : c.length = 32) : (Try.prog.info? 24).map (·.size) = some (bvs c).toArray.size := by
  rw [size_dig]
  simp [bvs, h]
theorem size_z {c : List Nat} (h : c.length = 32) : (zarr 32).size = (bvs c).toArray.size := by simp [zarr, bvs, zs, h]
theorem all_cs (c : List Nat) : (bvs c).toArray.all (·.oneCell') = true := by
  rw [Array.all_eq_true_iff_forall_mem]
  intro v hv
  exact bvs_oneCell c v (by simpa using hv)
theorem und_dig : Try.prog.underlying 24 = some (.array 32 5) := by kernel_rfl
theorem blk_range' {w : World} {g : Nat} {t : TypeId} {xs : List Nat} (h : BlkB w g t xs) : w.rangeAt g 0 (bvs xs) := fun j v hv => by
  rw [Nat.zero_add, BlkIs.cell h]
  simpa using hv
/-- Three arrays stand, and what is below is as it was. -/
abbrev Three (w0 : World) (t : TypeId) (g1 g2 g3 : Nat) (x1 x2 x3 : List Nat) (w' : World) : Prop :=
  w'.rangeAt g1 0 (bvs x1) ∧ w'.rangeAt g2 0 (bvs x2) ∧ w'.rangeAt g3 0 (bvs x3) ∧ BlkB w' g1 t x1 ∧ BlkB w' g2 t x2 ∧ BlkB w' g3 t x3 ∧ Below w0.heap.size w0 w'
theorem Three.below {w0 w w' : World} {t : TypeId} {g1 g2 g3 : Nat} {x1 x2 x3 : List Nat} (h : Three w0 t g1 g2 g3 x1 x2 x3 w) (hb : Below w.heap.size w w') : Three w0 t g1 g2 g3 x1 x2 x3 w' := by
  obtain ⟨_, _, _, h1, h2, h3, h4⟩ := h
  have k1 : BlkB w' g1 t x1 := BlkIs.below h1 hb
  have k2 : BlkB w' g2 t x2 := BlkIs.below h2 hb
  have k3 : BlkB w' g3 t x3 := BlkIs.below h3 hb
  exact ⟨blk_range' k1, blk_range' k2, blk_range' k3, k1, k2, k3, h4.trans (hb.mono h4.size)⟩
theorem Three.drew {w0 w : World} {t : TypeId} {g1 g2 g3 : Nat} {x1 x2 x3 : List Nat} (h : Three w0 t g1 g2 g3 x1 x2 x3 w) : Three w0 t g1 g2 g3 x1 x2 x3 w.drew :=
  h.below (drewN_below (Below.refl _ _) 1)
set_option maxHeartbeats 800000 in
theorem digestCuts_walk (ds : List Nat) (a b : Int) (w : World) (hB : IsB ds) (hl : ds.length = 32) :
    Calls Try.prog 4 #[.agg (bvs ds).toArray, .int .i64 a, .int .i64 b] w fun e w' => e = .returned (.bool true) ∧ Below w.heap.size w w' := by
  have HB := Lib.hid hB
  have HL := Lib.hid hl
  obtain ⟨C, HC⟩ : ∃ C : Int → List Nat, Hid (∀ x, C x = cutN ds x) := ⟨cutN ds, fun _ => rfl⟩
  have HBC : Hid (∀ x, IsB (C x)) := fun x => HC.out x ▸ cutN_isB hB x
  have HLC : Hid (∀ x, (C x).length = 32) := fun x => HC.out x ▸ cutN_length hl x
  have HCA : Hid (∀ x w, Calls Try.prog 6 #[.agg (bvs ds).toArray, .int .i64 x] w fun e w' => e = .returned (.agg (bvs (C x)).toArray) ∧ Below w.heap.size w w') := fun x w => HC.out x ▸ cut_any ds x w hB hl
  have HRA : Hid (∀ x w, Calls Try.prog 7 #[.agg (bvs ds).toArray, .int .i64 x] w fun e w' => e = .returned (.agg (bvs (C x)).toArray) ∧ Below w.heap.size w w') := fun x w => HC.out x ▸ refCut_any ds x w hB hl
  have HC2 : Hid (∀ w, Calls Try.prog 6 #[.agg (bvs (C a)).toArray, .int .i64 b] w fun e w' => e = .returned (.agg (bvs (C (min a b))).toArray) ∧ Below w.heap.size w w') := fun w => by
    have h := cut_any (C a) b w (HBC.out a) (HLC.out a)
    rw [HC.out a, cut_cut hl, ← HC.out, ← HC.out] at h
    exact h
  have he := Lib.hid (fun x w => dig_eq w (C x) (HBC.out x) (HLC.out x))
  clear hB hl
  go_enter Try.func4, Try.ntmps4
  have HX0 : Hid (RB (w.alloc (.cells (bvs ds).toArray 24)) (some ⟨w.heap.size, 0, none⟩) 32 ds) := BlkB.whole (BlkIs.new w 24 _) HB.out HL.out
  go_wp2_with (refine wpList_load_arr (o := ⟨some 10, _, _, _, _, _⟩) (by rfl) 24 (.tmp 3) rfl ⟨w.heap.size, 0, none⟩ 32 ds rfl HX0.out (by omega) row_dig size_dig ?_)
  refine (HCA.out a _).mono ?_
  rintro e w1 ⟨rfl, hb1⟩
  have HB1 := Lib.hid (((Below.refl w.heap.size w).alloc (Nat.le_refl _) (.cells (bvs ds).toArray 24)).trans (hb1.mono (by simp)))
  have HD1 : Hid (BlkB w1 w.heap.size 24 ds) := BlkIs.below (BlkIs.new w 24 _) hb1
  clear hb1 HX0
  have HX1 : Hid (RB (w1.alloc (.cells (bvs (C a)).toArray 24)) (some ⟨w1.heap.size, 0, none⟩) 32 (C a)) := BlkB.whole (BlkIs.new w1 24 _) (HBC.out a) (HLC.out a)
  go_wp2_with (first
    | (refine wpList_store_arr (o := ⟨none, _, _, _, _, _⟩) (by rfl) 24 (.tmp 7) (.tmp 12) rfl w1 _ (bvs (C a)).toArray rfl rfl (size_cs (HLC.out a)) (size_z (HLC.out a)) (all_cs (C a)) ?_)
    | (refine wpList_load_arr (o := ⟨some 13, _, _, _, _, _⟩) (by rfl) 24 (.tmp 7) rfl ⟨w1.heap.size, 0, none⟩ 32 (C a) rfl HX1.out (by omega) row_dig size_dig ?_))
  refine (HC2.out _).mono ?_
  rintro e w2 ⟨rfl, hb2⟩
  have hs1 : w.heap.size ≤ w1.heap.size := HB1.out.size
  have hgd : w.heap.size < w1.heap.size := BlkIs.lt HD1.out
  have HB2 := Lib.hid ((HB1.out.alloc HB1.out.size (.cells (bvs (C a)).toArray 24)).trans (hb2.mono (by simp; omega)))
  have HD2 : Hid (BlkB w2 w.heap.size 24 ds) := BlkIs.below (BlkIs.alloc HD1.out _) hb2
  have HO2 : Hid (BlkB w2 w1.heap.size 24 (C a)) := BlkIs.below (BlkIs.new w1 24 _) hb2
  clear hb2 HX1 HC2 HB1 HD1
  generalize w1.heap.size = g1 at *
  obtain ⟨m, HM⟩ : ∃ m, Hid (min a b = m) := ⟨_, rfl⟩
  rw [HM.out]
  have hm : (b < a ∧ m = b) ∨ (¬ b < a ∧ m = a) := by have := HM.out; omega
  clear HM
  have HX3 : Hid (BlkB (w2.alloc (.cells (bvs (C m)).toArray 24)) w2.heap.size 24 (C m)) := BlkIs.new w2 24 _
  have HO3 : Hid (BlkB (w2.alloc (.cells (bvs (C m)).toArray 24)) g1 24 (C a)) := BlkIs.alloc HO2.out _
  have HD3 : Hid (BlkB (w2.alloc (.cells (bvs (C m)).toArray 24)) w.heap.size 24 ds) := BlkIs.alloc HD2.out _
  have HB3 := Lib.hid (HB2.out.alloc HB2.out.size (.cells (bvs (C m)).toArray 24))
  clear HB2 HD2 HO2
  rcases hm with ⟨hm, rfl⟩ | ⟨hm, rfl⟩
  · go_wp2_with (refine wpList_store_arr (o := ⟨none, _, _, _, _, _⟩) (by rfl) 24 (.tmp 8) (.tmp 15) rfl w2 _ (bvs (C m)).toArray rfl rfl (size_cs (HLC.out m)) (size_z (HLC.out m)) (all_cs (C m)) ?_)
    generalize w2.heap.size = g2 at *
    generalize w2.alloc (.cells (bvs (C m)).toArray 24) = w3 at *
    have hS0 : Three w 24 w.heap.size g1 g2 ds (C a) (C m) w3 := ⟨blk_range' HD3.out, blk_range' HO3.out, blk_range' HX3.out, HD3.out, HO3.out, HX3.out, HB3.out⟩
    have hu := und_dig
    have hid : (Try.prog.info? 24).map (·.size) = some (bvs ds).length := by rw [size_dig]; simp [bvs, HL.out]
    have hia : (Try.prog.info? 24).map (·.size) = some (bvs (C a)).length := by rw [size_dig]; simp [bvs, HLC.out a]
    have him : (Try.prog.info? 24).map (·.size) = some (bvs (C m)).length := by rw [size_dig]; simp [bvs, HLC.out m]
    have hea := he.out a
    have hem := he.out m
    clear HD3 HO3 HX3 HB3 HB HL HBC HLC HC he hm
    rename_i KK hKK
    have HKK := Lib.hid hKK
    clear hKK
    refine wp_region_held_drew (S := fun w' => w'.rangeAt w.heap.size 0 (bvs ds) ∧ w'.rangeAt g1 0 (bvs (C a)) ∧ w'.rangeAt g2 0 (bvs (C m)) ∧ BlkB w' w.heap.size 24 ds ∧ BlkB w' g1 24 (C a) ∧ BlkB w' g2 24 (C m) ∧ Below w.heap.size w w') (by kernel_rfl) hS0.drew fun hH => ?_
    refine wpAnyH_take (i := 0) (oi := ⟨some 21, _, _, _, _, _⟩) rfl (by kernel_rfl) (by kernel_rfl) (by kernel_rfl) (fun _ _ _ h => h) (yieldsIf_load_mid (by rfl) _ _ rfl _ _ rfl _ _ (fun w hw => by (try dsimp only at hw); go_split_ands; assumption) (by assumption) rfl (by assumption)) (by assumption) ?_
    try simp only [Act.put, List.setIfInBounds_toArray, List.set_cons_zero, List.set_cons_succ]
    refine wpAnyH_take (i := 1) (oi := ⟨some 22, _, _, _, _, _⟩) rfl (by kernel_rfl) (by kernel_rfl) (by kernel_rfl) (fun _ _ _ h => h) (yieldsIf_load_mid (by rfl) _ _ rfl _ _ rfl _ _ (fun w hw => by (try dsimp only at hw); go_split_ands; assumption) (by assumption) rfl (by assumption)) (by assumption) ?_
    try simp only [Act.put, List.setIfInBounds_toArray, List.set_cons_zero, List.set_cons_succ]
    refine wpAnyH_take (i := 2) (oi := ⟨some 23, _, _, _, _, _⟩) rfl (by kernel_rfl) (by kernel_rfl) (by kernel_rfl) (fun _ _ _ h => h) (Or.inl ⟨by rfl, fun w hw => by (try dsimp only at hw); go_simp; with_reducible rfl⟩) (by assumption) ?_
    try simp only [Act.put, List.setIfInBounds_toArray, List.set_cons_zero, List.set_cons_succ]
    refine wpAnyH_ready (rs := [3]) (by kernel_rfl) (by simp) ?_
    refine AllReadyH.cons rfl (fun K hK => ?_) (AllReadyH.nil)
    go_simp
    go_at_call 7
    refine (HRA.out _ _).mono ?_
    rintro e w4 ⟨rfl, hb⟩
    refine hK.out _ _ (Three.below (by assumption) hb) (fun hH4 => ?_)
    clear hb hK hH
    refine wpAnyH_take (i := 4) (oi := ⟨some 25, _, _, _, _, _⟩) rfl (by kernel_rfl) (by kernel_rfl) (by kernel_rfl) (fun _ _ _ h => h) (Or.inl ⟨by rfl, fun w hw => by (try dsimp only at hw); go_simp; with_reducible rfl⟩) (by assumption) ?_
    try simp only [Act.put, List.setIfInBounds_toArray, List.set_cons_zero, List.set_cons_succ]
    refine wpAnyH_take (i := 5) (oi := ⟨some 26, _, _, _, _, _⟩) rfl (by kernel_rfl) (by kernel_rfl) (by kernel_rfl) (fun _ _ _ h => h) (Or.inl ⟨by rfl, fun w hw => by (try dsimp only at hw); go_simp; with_reducible rfl⟩) (by assumption) ?_
    try simp only [Act.put, List.setIfInBounds_toArray, List.set_cons_zero, List.set_cons_succ]
    refine wpAnyH_take (i := 6) (oi := ⟨some 27, _, _, _, _, _⟩) rfl (by kernel_rfl) (by kernel_rfl) (by kernel_rfl) (fun _ _ _ h => h) (yieldsIf_load_mid (by rfl) _ _ rfl _ _ rfl _ _ (fun w hw => by (try dsimp only at hw); go_split_ands; assumption) (by assumption) rfl (by assumption)) (by assumption) ?_
    try simp only [Act.put, List.setIfInBounds_toArray, List.set_cons_zero, List.set_cons_succ]
    refine wpAnyH_take (i := 7) (oi := ⟨some 28, _, _, _, _, _⟩) rfl (by kernel_rfl) (by kernel_rfl) (by kernel_rfl) (fun _ _ _ h => h) (yieldsIf_load_mid (by rfl) _ _ rfl _ _ rfl _ _ (fun w hw => by (try dsimp only at hw); go_split_ands; assumption) (by assumption) rfl (by assumption)) (by assumption) ?_
    try simp only [Act.put, List.setIfInBounds_toArray, List.set_cons_zero, List.set_cons_succ]
    refine wpAnyH_take (i := 8) (oi := ⟨some 29, _, _, _, _, _⟩) rfl (by kernel_rfl) (by kernel_rfl) (by kernel_rfl) (fun _ _ _ h => h) (Or.inl ⟨by rfl, fun w hw => by (try dsimp only at hw); go_simp; with_reducible rfl⟩) (by assumption) ?_
    try simp only [Act.put, List.setIfInBounds_toArray, List.set_cons_zero, List.set_cons_succ]
    refine wpAnyH_ready (rs := [9]) (by kernel_rfl) (by simp) ?_
    refine AllReadyH.cons rfl (fun K hK => ?_) (AllReadyH.nil)
    go_simp
    go_at_call 7
    refine (HRA.out _ _).mono ?_
    rintro e w5 ⟨rfl, hb⟩
    refine hK.out _ _ (Three.below (by assumption) hb) (fun hH5 => ?_)
    clear hb hK hH4
    refine wpAnyH_take (i := 10) (oi := ⟨some 31, _, _, _, _, _⟩) rfl (by kernel_rfl) (by kernel_rfl) (by kernel_rfl) (fun _ _ _ h => h) (Or.inl ⟨by rfl, fun w hw => by (try dsimp only at hw); go_simp; with_reducible rfl⟩) (by assumption) ?_
    try simp only [Act.put, List.setIfInBounds_toArray, List.set_cons_zero, List.set_cons_succ]
    refine wpAnyH_take (i := 11) (oi := ⟨some 32, _, _, _, _, _⟩) rfl (by kernel_rfl) (by kernel_rfl) (by kernel_rfl) (fun _ _ _ h => h) (Or.inl ⟨by rfl, fun w hw => by (try dsimp only at hw); go_simp; with_reducible rfl⟩) (by assumption) ?_
    try simp only [Act.put, List.setIfInBounds_toArray, List.set_cons_zero, List.set_cons_succ]
    refine wpAnyH_take (i := 12) (oi := ⟨some 33, _, _, _, _, _⟩) rfl (by kernel_rfl) (by kernel_rfl) (by kernel_rfl) (fun _ _ _ h => h) (Or.inl ⟨by rfl, fun w hw => by (try dsimp only at hw); go_simp; with_reducible rfl⟩) (by assumption) ?_
    try simp only [Act.put, List.setIfInBounds_toArray, List.set_cons_zero, List.set_cons_succ]
    refine wpAnyH_take (i := 13) (oi := ⟨some 34, _, _, _, _, _⟩) rfl (by kernel_rfl) (by kernel_rfl) (by kernel_rfl) (fun _ _ _ h => h) (yieldsIf_load_mid (by rfl) _ _ rfl _ _ rfl _ _ (fun w hw => by (try dsimp only at hw); go_split_ands; assumption) (by assumption) rfl (by assumption)) (by assumption) ?_
    try simp only [Act.put, List.setIfInBounds_toArray, List.set_cons_zero, List.set_cons_succ]
    refine wpAnyH_take (i := 14) (oi := ⟨some 35, _, _, _, _, _⟩) rfl (by kernel_rfl) (by kernel_rfl) (by kernel_rfl) (fun _ _ _ h => h) (yieldsIf_load_mid (by rfl) _ _ rfl _ _ rfl _ _ (fun w hw => by (try dsimp only at hw); go_split_ands; assumption) (by assumption) rfl (by assumption)) (by assumption) ?_
    try simp only [Act.put, List.setIfInBounds_toArray, List.set_cons_zero, List.set_cons_succ]
    refine wpAnyH_take (i := 15) (oi := ⟨some 36, _, _, _, _, _⟩) rfl (by kernel_rfl) (by kernel_rfl) (by kernel_rfl) (fun _ _ _ h => h) (Or.inl ⟨by rfl, fun w hw => by (try dsimp only at hw); go_simp; with_reducible rfl⟩) (by assumption) ?_
    try simp only [Act.put, List.setIfInBounds_toArray, List.set_cons_zero, List.set_cons_succ]
    refine wpAnyH_ready (rs := [16]) (by kernel_rfl) (by simp) ?_
    refine AllReadyH.cons rfl (fun K hK => ?_) (AllReadyH.nil)
    go_simp
    go_at_call 6
    refine (HCA.out _ _).mono ?_
    rintro e w6 ⟨rfl, hb⟩
    refine hK.out _ _ (Three.below (by assumption) hb) (fun hH6 => ?_)
    clear hb hK hH5
    refine wpAnyH_take (i := 17) (oi := ⟨some 38, _, _, _, _, _⟩) rfl (by kernel_rfl) (by kernel_rfl) (by kernel_rfl) (fun _ _ _ h => h) (Or.inl ⟨by rfl, fun w hw => by (try dsimp only at hw); go_simp; with_reducible rfl⟩) (by assumption) ?_
    try simp only [Act.put, List.setIfInBounds_toArray, List.set_cons_zero, List.set_cons_succ]
    refine wpAnyH_take (i := 18) (oi := ⟨some 39, _, _, _, _, _⟩) rfl (by kernel_rfl) (by kernel_rfl) (by kernel_rfl) (fun _ _ _ h => h) (Or.inl ⟨by rfl, fun w hw => by (try dsimp only at hw); go_simp; with_reducible rfl⟩) (by assumption) ?_
    try simp only [Act.put, List.setIfInBounds_toArray, List.set_cons_zero, List.set_cons_succ]
    refine wpAnyH_take (i := 19) (oi := ⟨some 6, _, _, _, _, _⟩) rfl (by kernel_rfl) (by kernel_rfl) (by kernel_rfl) (fun _ _ _ h => h) (Or.inl ⟨by rfl, fun w hw => by (try dsimp only at hw); go_simp; with_reducible rfl⟩) (by assumption) ?_
    try simp only [Act.put, List.setIfInBounds_toArray, List.set_cons_zero, List.set_cons_succ]
    refine wpAnyH_done (by kernel_rfl) ?_ _
    change KK _ _
    refine HKK.out _ _ ?_
    go_wp2_with fail
    go_ret
    exact ⟨rfl, hH6.2.2.2.2.2.2⟩
  · go_wp2_with (refine wpList_store_arr (o := ⟨none, _, _, _, _, _⟩) (by rfl) 24 (.tmp 8) (.tmp 15) rfl w2 _ (bvs (C m)).toArray rfl rfl (size_cs (HLC.out m)) (size_z (HLC.out m)) (all_cs (C m)) ?_)
    generalize w2.heap.size = g2 at *
    generalize w2.alloc (.cells (bvs (C m)).toArray 24) = w3 at *
    have hS0 : Three w 24 w.heap.size g1 g2 ds (C m) (C m) w3 := ⟨blk_range' HD3.out, blk_range' HO3.out, blk_range' HX3.out, HD3.out, HO3.out, HX3.out, HB3.out⟩
    have hu := und_dig
    have hid : (Try.prog.info? 24).map (·.size) = some (bvs ds).length := by rw [size_dig]; simp [bvs, HL.out]
    have hia : (Try.prog.info? 24).map (·.size) = some (bvs (C m)).length := by rw [size_dig]; simp [bvs, HLC.out m]
    have him : (Try.prog.info? 24).map (·.size) = some (bvs (C m)).length := by rw [size_dig]; simp [bvs, HLC.out m]
    have hea := he.out m
    have hem := he.out m
    clear HD3 HO3 HX3 HB3 HB HL HBC HLC HC he hm
    rename_i KK hKK
    have HKK := Lib.hid hKK
    clear hKK
    refine wp_region_held_drew (S := fun w' => w'.rangeAt w.heap.size 0 (bvs ds) ∧ w'.rangeAt g1 0 (bvs (C m)) ∧ w'.rangeAt g2 0 (bvs (C m)) ∧ BlkB w' w.heap.size 24 ds ∧ BlkB w' g1 24 (C m) ∧ BlkB w' g2 24 (C m) ∧ Below w.heap.size w w') (by kernel_rfl) hS0.drew fun hH => ?_
    refine wpAnyH_take (i := 0) (oi := ⟨some 21, _, _, _, _, _⟩) rfl (by kernel_rfl) (by kernel_rfl) (by kernel_rfl) (fun _ _ _ h => h) (yieldsIf_load_mid (by rfl) _ _ rfl _ _ rfl _ _ (fun w hw => by (try dsimp only at hw); go_split_ands; assumption) (by assumption) rfl (by assumption)) (by assumption) ?_
    try simp only [Act.put, List.setIfInBounds_toArray, List.set_cons_zero, List.set_cons_succ]
    refine wpAnyH_take (i := 1) (oi := ⟨some 22, _, _, _, _, _⟩) rfl (by kernel_rfl) (by kernel_rfl) (by kernel_rfl) (fun _ _ _ h => h) (yieldsIf_load_mid (by rfl) _ _ rfl _ _ rfl _ _ (fun w hw => by (try dsimp only at hw); go_split_ands; assumption) (by assumption) rfl (by assumption)) (by assumption) ?_
    try simp only [Act.put, List.setIfInBounds_toArray, List.set_cons_zero, List.set_cons_succ]
    refine wpAnyH_take (i := 2) (oi := ⟨some 23, _, _, _, _, _⟩) rfl (by kernel_rfl) (by kernel_rfl) (by kernel_rfl) (fun _ _ _ h => h) (Or.inl ⟨by rfl, fun w hw => by (try dsimp only at hw); go_simp; with_reducible rfl⟩) (by assumption) ?_
    try simp only [Act.put, List.setIfInBounds_toArray, List.set_cons_zero, List.set_cons_succ]
    refine wpAnyH_ready (rs := [3]) (by kernel_rfl) (by simp) ?_
    refine AllReadyH.cons rfl (fun K hK => ?_) (AllReadyH.nil)
    go_simp
    go_at_call 7
    refine (HRA.out _ _).mono ?_
    rintro e w4 ⟨rfl, hb⟩
    refine hK.out _ _ (Three.below (by assumption) hb) (fun hH4 => ?_)
    clear hb hK hH
    refine wpAnyH_take (i := 4) (oi := ⟨some 25, _, _, _, _, _⟩) rfl (by kernel_rfl) (by kernel_rfl) (by kernel_rfl) (fun _ _ _ h => h) (Or.inl ⟨by rfl, fun w hw => by (try dsimp only at hw); go_simp; with_reducible rfl⟩) (by assumption) ?_
    try simp only [Act.put, List.setIfInBounds_toArray, List.set_cons_zero, List.set_cons_succ]
    refine wpAnyH_take (i := 5) (oi := ⟨some 26, _, _, _, _, _⟩) rfl (by kernel_rfl) (by kernel_rfl) (by kernel_rfl) (fun _ _ _ h => h) (Or.inl ⟨by rfl, fun w hw => by (try dsimp only at hw); go_simp; with_reducible rfl⟩) (by assumption) ?_
    try simp only [Act.put, List.setIfInBounds_toArray, List.set_cons_zero, List.set_cons_succ]
    refine wpAnyH_take (i := 6) (oi := ⟨some 27, _, _, _, _, _⟩) rfl (by kernel_rfl) (by kernel_rfl) (by kernel_rfl) (fun _ _ _ h => h) (yieldsIf_load_mid (by rfl) _ _ rfl _ _ rfl _ _ (fun w hw => by (try dsimp only at hw); go_split_ands; assumption) (by assumption) rfl (by assumption)) (by assumption) ?_
    try simp only [Act.put, List.setIfInBounds_toArray, List.set_cons_zero, List.set_cons_succ]
    refine wpAnyH_take (i := 7) (oi := ⟨some 28, _, _, _, _, _⟩) rfl (by kernel_rfl) (by kernel_rfl) (by kernel_rfl) (fun _ _ _ h => h) (yieldsIf_load_mid (by rfl) _ _ rfl _ _ rfl _ _ (fun w hw => by (try dsimp only at hw); go_split_ands; assumption) (by assumption) rfl (by assumption)) (by assumption) ?_
    try simp only [Act.put, List.setIfInBounds_toArray, List.set_cons_zero, List.set_cons_succ]
    refine wpAnyH_take (i := 8) (oi := ⟨some 29, _, _, _, _, _⟩) rfl (by kernel_rfl) (by kernel_rfl) (by kernel_rfl) (fun _ _ _ h => h) (Or.inl ⟨by rfl, fun w hw => by (try dsimp only at hw); go_simp; with_reducible rfl⟩) (by assumption) ?_
    try simp only [Act.put, List.setIfInBounds_toArray, List.set_cons_zero, List.set_cons_succ]
    refine wpAnyH_ready (rs := [9]) (by kernel_rfl) (by simp) ?_
    refine AllReadyH.cons rfl (fun K hK => ?_) (AllReadyH.nil)
    go_simp
    go_at_call 7
    refine (HRA.out _ _).mono ?_
    rintro e w5 ⟨rfl, hb⟩
    refine hK.out _ _ (Three.below (by assumption) hb) (fun hH5 => ?_)
    clear hb hK hH4
    refine wpAnyH_take (i := 10) (oi := ⟨some 31, _, _, _, _, _⟩) rfl (by kernel_rfl) (by kernel_rfl) (by kernel_rfl) (fun _ _ _ h => h) (Or.inl ⟨by rfl, fun w hw => by (try dsimp only at hw); go_simp; with_reducible rfl⟩) (by assumption) ?_
    try simp only [Act.put, List.setIfInBounds_toArray, List.set_cons_zero, List.set_cons_succ]
    refine wpAnyH_take (i := 11) (oi := ⟨some 32, _, _, _, _, _⟩) rfl (by kernel_rfl) (by kernel_rfl) (by kernel_rfl) (fun _ _ _ h => h) (Or.inl ⟨by rfl, fun w hw => by (try dsimp only at hw); go_simp; with_reducible rfl⟩) (by assumption) ?_
    try simp only [Act.put, List.setIfInBounds_toArray, List.set_cons_zero, List.set_cons_succ]
    refine wpAnyH_take (i := 12) (oi := ⟨some 33, _, _, _, _, _⟩) rfl (by kernel_rfl) (by kernel_rfl) (by kernel_rfl) (fun _ _ _ h => h) (Or.inl ⟨by rfl, fun w hw => by (try dsimp only at hw); go_simp; with_reducible rfl⟩) (by assumption) ?_
    try simp only [Act.put, List.setIfInBounds_toArray, List.set_cons_zero, List.set_cons_succ]
    refine wpAnyH_take (i := 13) (oi := ⟨some 34, _, _, _, _, _⟩) rfl (by kernel_rfl) (by kernel_rfl) (by kernel_rfl) (fun _ _ _ h => h) (yieldsIf_load_mid (by rfl) _ _ rfl _ _ rfl _ _ (fun w hw => by (try dsimp only at hw); go_split_ands; assumption) (by assumption) rfl (by assumption)) (by assumption) ?_
    try simp only [Act.put, List.setIfInBounds_toArray, List.set_cons_zero, List.set_cons_succ]
    refine wpAnyH_take (i := 14) (oi := ⟨some 35, _, _, _, _, _⟩) rfl (by kernel_rfl) (by kernel_rfl) (by kernel_rfl) (fun _ _ _ h => h) (yieldsIf_load_mid (by rfl) _ _ rfl _ _ rfl _ _ (fun w hw => by (try dsimp only at hw); go_split_ands; assumption) (by assumption) rfl (by assumption)) (by assumption) ?_
    try simp only [Act.put, List.setIfInBounds_toArray, List.set_cons_zero, List.set_cons_succ]
    refine wpAnyH_take (i := 15) (oi := ⟨some 36, _, _, _, _, _⟩) rfl (by kernel_rfl) (by kernel_rfl) (by kernel_rfl) (fun _ _ _ h => h) (Or.inl ⟨by rfl, fun w hw => by (try dsimp only at hw); go_simp; with_reducible rfl⟩) (by assumption) ?_
    try simp only [Act.put, List.setIfInBounds_toArray, List.set_cons_zero, List.set_cons_succ]
    refine wpAnyH_ready (rs := [16]) (by kernel_rfl) (by simp) ?_
    refine AllReadyH.cons rfl (fun K hK => ?_) (AllReadyH.nil)
    go_simp
    go_at_call 6
    refine (HCA.out _ _).mono ?_
    rintro e w6 ⟨rfl, hb⟩
    refine hK.out _ _ (Three.below (by assumption) hb) (fun hH6 => ?_)
    clear hb hK hH5
    refine wpAnyH_take (i := 17) (oi := ⟨some 38, _, _, _, _, _⟩) rfl (by kernel_rfl) (by kernel_rfl) (by kernel_rfl) (fun _ _ _ h => h) (Or.inl ⟨by rfl, fun w hw => by (try dsimp only at hw); go_simp; with_reducible rfl⟩) (by assumption) ?_
    try simp only [Act.put, List.setIfInBounds_toArray, List.set_cons_zero, List.set_cons_succ]
    refine wpAnyH_take (i := 18) (oi := ⟨some 39, _, _, _, _, _⟩) rfl (by kernel_rfl) (by kernel_rfl) (by kernel_rfl) (fun _ _ _ h => h) (Or.inl ⟨by rfl, fun w hw => by (try dsimp only at hw); go_simp; with_reducible rfl⟩) (by assumption) ?_
    try simp only [Act.put, List.setIfInBounds_toArray, List.set_cons_zero, List.set_cons_succ]
    refine wpAnyH_take (i := 19) (oi := ⟨some 6, _, _, _, _, _⟩) rfl (by kernel_rfl) (by kernel_rfl) (by kernel_rfl) (fun _ _ _ h => h) (Or.inl ⟨by rfl, fun w hw => by (try dsimp only at hw); go_simp; with_reducible rfl⟩) (by assumption) ?_
    try simp only [Act.put, List.setIfInBounds_toArray, List.set_cons_zero, List.set_cons_succ]
    refine wpAnyH_done (by kernel_rfl) ?_ _
    change KK _ _
    refine HKK.out _ _ ?_
    go_wp2_with fail
    go_ret
    exact ⟨rfl, hH6.2.2.2.2.2.2⟩
end Go.Proofs.Ytgjlheldifhmhaa
