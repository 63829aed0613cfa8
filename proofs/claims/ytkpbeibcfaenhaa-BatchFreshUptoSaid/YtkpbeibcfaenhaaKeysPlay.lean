/- ledgerlaw3.keysPlay. (printed by gen_keysplay.py) -/
import Derived.Test.YtkpbeibcfaenhaaRefKeys
import Derived.Deep.RegionHeld3
namespace Go.Proofs.Ytkpbeibcfaenhaa
open Go.RowKit
/-- The cells of a step. -/
def opC (kind n : Int) (ds es : List Nat) (rest : List Value) : List Value := .int .i64 kind :: .int .i64 n :: (bvs ds ++ (bvs es ++ rest))
theorem opC_length (kind n : Int) {ds es : List Nat} {rest : List Value} (h1 : ds.length = 32) (h2 : es.length = 32) (h3 : rest.length = 3) : (opC kind n ds es rest).length = 69 := by
  simp [opC, bvs, h1, h2, h3]
theorem size_op : (Try.prog.info? 87).map (·.size) = some 69 := by kernel_rfl
theorem row_op : (Try.prog.underlying 87).map (·.isRow) = some true := by kernel_rfl
section
variable {w : World} {g : Nat} {t : TypeId} {kind n : Int} {ds es : List Nat} {rest : List Value}
theorem op_kind (h : BlkIs w g t (opC kind n ds es rest).toArray) : w.cell? ⟨g, 0, none⟩ = some (.int .i64 kind) := BlkIs.cell h 0
theorem op_n (h : BlkIs w g t (opC kind n ds es rest).toArray) : w.cell? ⟨g, 1, none⟩ = some (.int .i64 n) := by
  rw [BlkIs.cell h 1]
  rfl
theorem op_a (h : BlkIs w g t (opC kind n ds es rest).toArray) : w.rangeAt g 2 (bvs ds) := fun j v hj => by
  rw [BlkIs.cell h]
  have hl : j < (bvs ds).length := (List.getElem?_eq_some_iff.1 hj).1
  rw [List.getElem?_toArray, opC, Nat.add_comm, List.getElem?_cons_succ, List.getElem?_cons_succ, List.getElem?_append_left hl]
  exact hj
theorem op_b (h : BlkIs w g t (opC kind n ds es rest).toArray) (hd : ds.length = 32) : w.rangeAt g 34 (bvs es) := fun j v hj => by
  rw [BlkIs.cell h]
  have hl : j < (bvs es).length := (List.getElem?_eq_some_iff.1 hj).1
  have hbl : (bvs ds).length = 32 := by simp [bvs, hd]
  rw [List.getElem?_toArray, opC, show 34 + j = (32 + j) + 1 + 1 by omega, List.getElem?_cons_succ, List.getElem?_cons_succ, List.getElem?_append_right (by omega), hbl, show 32 + j - 32 = j by omega, List.getElem?_append_left hl]
  exact hj
end
def KeyRet (f : FuncId) (args : Array Value) (z : Int) : Prop := ∀ w : World, Calls Try.prog f args w fun e w' => e = .returned (.int .i64 z) ∧ Below w.heap.size w w'
theorem bit_n (ks : List Nat) (i : Int) (hB : IsB ks) (hl : ks.length = 32) : ∃ z, KeyRet 17 #[.agg (bvs ks).toArray, .int .i64 i] z ∧ KeyRet 78 #[.agg (bvs ks).toArray, .int .i64 i] z := by
  by_cases h : 0 ≤ i ∧ i < 256
  · obtain ⟨k, rfl⟩ : ∃ k : Nat, i = k := ⟨i.toNat, by omega⟩
    exact ⟨_, fun w => bit_in ks k w hB hl (by omega), fun w => refbit_in ks k w hB hl (by omega)⟩
  · exact ⟨_, fun w => bit_out ks i w (by omega), fun w => refbit_out ks i w (by omega)⟩
theorem common_n (ds es : List Nat) (hB : IsB ds) (hl : ds.length = 32) (hB2 : IsB es) (hl2 : es.length = 32) : ∃ z, KeyRet 18 #[.agg (bvs ds).toArray, .agg (bvs es).toArray] z ∧ KeyRet 79 #[.agg (bvs ds).toArray, .agg (bvs es).toArray] z := by
  by_cases h : ds = es
  · subst h
    exact ⟨_, fun w => common_same ds w hB hl, fun w => refcommon_any ds ds 256 w hB hl hB hl (Nat.le_refl _) (fun _ _ => rfl) (fun h => by omega)⟩
  · obtain ⟨d, hd⟩ := diff_of hl hl2 h
    obtain ⟨h1, h2, h3⟩ := com_spec hB hB2 hd
    exact ⟨_, fun w => common_diff ds es d w hB hl hB2 hl2 hd, fun w => refcommon_any ds es (comN ds es d) w hB hl hB2 hl2 (by omega) h2 (fun _ => by rcases h3 with ⟨_, a, b⟩ | ⟨_, a, b⟩ <;> omega)⟩
theorem compare_n (ds es : List Nat) (hB : IsB ds) (hl : ds.length = 32) (hB2 : IsB es) (hl2 : es.length = 32) : ∃ z, KeyRet 19 #[.agg (bvs ds).toArray, .agg (bvs es).toArray] z ∧ KeyRet 80 #[.agg (bvs ds).toArray, .agg (bvs es).toArray] z := by
  refine ⟨cmpN ds es, fun w => compare_any ds es w hB hl hB2 hl2, fun w => ?_⟩
  by_cases h : ds = es
  · subst h
    exact refcompare_any ds ds 32 _ w hB hl hB hl (Nat.le_refl _) (fun _ _ => rfl) (fun h => by omega) (fun _ => cmpN_same ds) (fun h => by omega)
  · obtain ⟨d, hd⟩ := diff_of hl hl2 h
    exact refcompare_any ds es d _ w hB hl hB2 hl2 (by have := hd.1; omega) hd.2.1 (fun _ => hd.2.2) (fun e => by have := hd.1; omega) (fun _ => cmpN_diff hB hB2 hl hl2 hd)
set_option maxRecDepth 100000 in
set_option maxHeartbeats 1600000 in
theorem keysplay_1 (n : Int) (ds es : List Nat) (rest : List Value) (w : World) (hB : IsB ds) (hl : ds.length = 32) (hl2 : es.length = 32) (h3 : rest.length = 3) :
    Calls Try.prog 65 #[.agg (opC 1 n ds es rest).toArray] w fun e w' => e = .returned (.bool true) ∧ Below w.heap.size w w' := by
  obtain ⟨z, H1, H2⟩ := bit_n ds n hB hl
  have H1 := Lib.hid H1
  have H2 := Lib.hid H2
  have hu := und_key
  have hsz : (Try.prog.info? 25).map (·.size) = some (bvs ds).length := by rw [size_key]; simp [bvs, hl]
  have hsz2 : (Try.prog.info? 25).map (·.size) = some (bvs es).length := by rw [size_key]; simp [bvs, hl2]
  have HLO := Lib.hid (opC_length 1 n hl hl2 h3)
  clear hB hl2 h3
  go_enter Try.func65, Try.ntmps65
  go_wp2_with (first
    | ((with_reducible refine stopAt (o := ⟨some 1, _, _, _, _, _⟩) ?_); refine boxNew (o := ⟨some 1, _, _, _, _, _⟩) (by rfl) 87 (.tmp 0) rfl _ rfl ?_; intro w1 HA1 HW1 HS1; have b0 := op_kind HA1.out))
  rename_i KK hKK
  have HKK := Lib.hid hKK
  clear hKK b0
  refine wp_region_held_drew (S := fun w' => w'.rangeAt w.heap.size 2 (bvs ds) ∧ w'.rangeAt w.heap.size 34 (bvs es) ∧ w'.cell? ⟨w.heap.size, 1, none⟩ = some (.int .i64 n)) (by kernel_rfl) ⟨op_a HA1.out, op_b HA1.out hl, op_n HA1.out⟩ fun hH => ?_
  refine wpAnyH_take (i := 0) (oi := ⟨some 7, _, _, _, _, _⟩) rfl (by kernel_rfl) (by kernel_rfl) (by kernel_rfl) (fun _ _ _ h => h) (Or.inl ⟨by rfl, fun w hw => by (try dsimp only at hw); go_simp; with_reducible rfl⟩) (by assumption) ?_
  try simp only [Act.put, List.setIfInBounds_toArray, List.set_cons_zero, List.set_cons_succ]
  refine wpAnyH_take (i := 1) (oi := ⟨some 8, _, _, _, _, _⟩) rfl (by kernel_rfl) (by kernel_rfl) (by kernel_rfl) (fun _ _ _ h => h) (yieldsIf_load_mid (by rfl) _ _ rfl _ _ rfl _ _ (fun w hw => by (try dsimp only at hw); go_split_ands; assumption) (by assumption) rfl (by assumption)) (by assumption) ?_
  try simp only [Act.put, List.setIfInBounds_toArray, List.set_cons_zero, List.set_cons_succ]
  refine wpAnyH_take (i := 2) (oi := ⟨some 9, _, _, _, _, _⟩) rfl (by kernel_rfl) (by kernel_rfl) (by kernel_rfl) (fun _ _ _ h => h) (Or.inl ⟨by rfl, fun w hw => by (try dsimp only at hw); go_simp; with_reducible rfl⟩) (by assumption) ?_
  try simp only [Act.put, List.setIfInBounds_toArray, List.set_cons_zero, List.set_cons_succ]
  refine wpAnyH_take (i := 3) (oi := ⟨some 10, _, _, _, _, _⟩) rfl (by kernel_rfl) (by kernel_rfl) (by kernel_rfl) (fun _ _ _ h => h) (Or.inl ⟨by rfl, fun w hw => by (obtain ⟨hw1, hw2, hw3⟩ := hw; go_simp; with_reducible rfl)⟩) (by assumption) ?_
  try simp only [Act.put, List.setIfInBounds_toArray, List.set_cons_zero, List.set_cons_succ]
  refine wpAnyH_take (i := 5) (oi := ⟨some 12, _, _, _, _, _⟩) rfl (by kernel_rfl) (by kernel_rfl) (by kernel_rfl) (fun _ _ _ h => h) (Or.inl ⟨by rfl, fun w hw => by (try dsimp only at hw); go_simp; with_reducible rfl⟩) (by assumption) ?_
  try simp only [Act.put, List.setIfInBounds_toArray, List.set_cons_zero, List.set_cons_succ]
  refine wpAnyH_take (i := 6) (oi := ⟨some 13, _, _, _, _, _⟩) rfl (by kernel_rfl) (by kernel_rfl) (by kernel_rfl) (fun _ _ _ h => h) (yieldsIf_load_mid (by rfl) _ _ rfl _ _ rfl _ _ (fun w hw => by (try dsimp only at hw); go_split_ands; assumption) (by assumption) rfl (by assumption)) (by assumption) ?_
  try simp only [Act.put, List.setIfInBounds_toArray, List.set_cons_zero, List.set_cons_succ]
  refine wpAnyH_take (i := 7) (oi := ⟨some 14, _, _, _, _, _⟩) rfl (by kernel_rfl) (by kernel_rfl) (by kernel_rfl) (fun _ _ _ h => h) (Or.inl ⟨by rfl, fun w hw => by (try dsimp only at hw); go_simp; with_reducible rfl⟩) (by assumption) ?_
  try simp only [Act.put, List.setIfInBounds_toArray, List.set_cons_zero, List.set_cons_succ]
  refine wpAnyH_take (i := 8) (oi := ⟨some 15, _, _, _, _, _⟩) rfl (by kernel_rfl) (by kernel_rfl) (by kernel_rfl) (fun _ _ _ h => h) (Or.inl ⟨by rfl, fun w hw => by (obtain ⟨hw1, hw2, hw3⟩ := hw; go_simp; with_reducible rfl)⟩) (by assumption) ?_
  try simp only [Act.put, List.setIfInBounds_toArray, List.set_cons_zero, List.set_cons_succ]
  refine wpAnyH_ready (rs := [4]) (by kernel_rfl) (by simp) ?_
  refine AllReadyH.cons rfl (fun K hK => ?_) (AllReadyH.nil)
  go_simp
  go_at_call 17
  refine (H1.out _).mono ?_
  rintro e w2 ⟨rfl, hb0⟩
  have hb : Below w1.heap.size w1 w2 := (drewN_below (Below.refl w1.heap.size w1) 1).trans hb0
  clear hb0
  have HB2 : Hid (BlkIs w2 w.heap.size 87 (opC 1 n ds es rest).toArray) := BlkIs.below HA1.out hb
  have HW2 : Hid (Below w.heap.size w w2) := HW1.out.trans (hb.mono HW1.out.size)
  clear hb
  refine hK.out _ _ ⟨op_a HB2.out, op_b HB2.out hl, op_n HB2.out⟩ (fun hH2 => ?_)
  clear hK hH
  refine wpAnyH_ready (rs := [9]) (by kernel_rfl) (by simp) ?_
  refine AllReadyH.cons rfl (fun K hK => ?_) (AllReadyH.nil)
  go_simp
  go_at_call 78
  refine (H2.out _).mono ?_
  rintro e w3 ⟨rfl, hb⟩
  have HB3 : Hid (BlkIs w3 w.heap.size 87 (opC 1 n ds es rest).toArray) := BlkIs.below HB2.out hb
  have HW3 := Lib.hid (HW2.out.trans (hb.mono HW2.out.size))
  clear hb
  refine hK.out _ _ ⟨op_a HB3.out, op_b HB3.out hl, op_n HB3.out⟩ (fun hH3 => ?_)
  clear hK hH2
  refine wpAnyH_take (i := 10) (oi := ⟨some 17, _, _, _, _, _⟩) rfl (by kernel_rfl) (by kernel_rfl) (by kernel_rfl) (fun _ _ _ h => h) (Or.inl ⟨by rfl, fun w hw => by (try dsimp only at hw); go_simp; with_reducible rfl⟩) (by assumption) ?_
  try simp only [Act.put, List.setIfInBounds_toArray, List.set_cons_zero, List.set_cons_succ]
  refine wpAnyH_take (i := 11) (oi := ⟨some 2, _, _, _, _, _⟩) rfl (by kernel_rfl) (by kernel_rfl) (by kernel_rfl) (fun _ _ _ h => h) (Or.inl ⟨by rfl, fun w hw => by (try dsimp only at hw); go_simp; with_reducible rfl⟩) (by assumption) ?_
  try simp only [Act.put, List.setIfInBounds_toArray, List.set_cons_zero, List.set_cons_succ]
  refine wpAnyH_done (by kernel_rfl) ?_ _
  change KK _ _
  refine HKK.out _ _ ?_
  clear hH3 hu hsz hsz2
  go_wp2_with fail
  go_ret
  exact ⟨rfl, HW3.out⟩
set_option maxRecDepth 100000 in
set_option maxHeartbeats 1600000 in
theorem keysplay_2 (n : Int) (ds es : List Nat) (rest : List Value) (w : World) (hB : IsB ds) (hl : ds.length = 32) (hB2 : IsB es) (hl2 : es.length = 32) (h3 : rest.length = 3) :
    Calls Try.prog 65 #[.agg (opC 2 n ds es rest).toArray] w fun e w' => e = .returned (.bool true) ∧ Below w.heap.size w w' := by
  obtain ⟨z, H1, H2⟩ := common_n ds es hB hl hB2 hl2
  have H1 := Lib.hid H1
  have H2 := Lib.hid H2
  have hu := und_key
  have hsz : (Try.prog.info? 25).map (·.size) = some (bvs ds).length := by rw [size_key]; simp [bvs, hl]
  have hsz2 : (Try.prog.info? 25).map (·.size) = some (bvs es).length := by rw [size_key]; simp [bvs, hl2]
  have HLO := Lib.hid (opC_length 2 n hl hl2 h3)
  clear hB hB2 hl2 h3
  go_enter Try.func65, Try.ntmps65
  go_wp2_with (first
    | ((with_reducible refine stopAt (o := ⟨some 1, _, _, _, _, _⟩) ?_); refine boxNew (o := ⟨some 1, _, _, _, _, _⟩) (by rfl) 87 (.tmp 0) rfl _ rfl ?_; intro w1 HA1 HW1 HS1; have b0 := op_kind HA1.out))
  rename_i KK hKK
  have HKK := Lib.hid hKK
  clear hKK b0
  refine wp_region_held_drew (S := fun w' => w'.rangeAt w.heap.size 2 (bvs ds) ∧ w'.rangeAt w.heap.size 34 (bvs es) ∧ w'.cell? ⟨w.heap.size, 1, none⟩ = some (.int .i64 n)) (by kernel_rfl) ⟨op_a HA1.out, op_b HA1.out hl, op_n HA1.out⟩ fun hH => ?_
  refine wpAnyH_take (i := 0) (oi := ⟨some 20, _, _, _, _, _⟩) rfl (by kernel_rfl) (by kernel_rfl) (by kernel_rfl) (fun _ _ _ h => h) (Or.inl ⟨by rfl, fun w hw => by (try dsimp only at hw); go_simp; with_reducible rfl⟩) (by assumption) ?_
  try simp only [Act.put, List.setIfInBounds_toArray, List.set_cons_zero, List.set_cons_succ]
  refine wpAnyH_take (i := 1) (oi := ⟨some 21, _, _, _, _, _⟩) rfl (by kernel_rfl) (by kernel_rfl) (by kernel_rfl) (fun _ _ _ h => h) (yieldsIf_load_mid (by rfl) _ _ rfl _ _ rfl _ _ (fun w hw => by (try dsimp only at hw); go_split_ands; assumption) (by assumption) rfl (by assumption)) (by assumption) ?_
  try simp only [Act.put, List.setIfInBounds_toArray, List.set_cons_zero, List.set_cons_succ]
  refine wpAnyH_take (i := 2) (oi := ⟨some 22, _, _, _, _, _⟩) rfl (by kernel_rfl) (by kernel_rfl) (by kernel_rfl) (fun _ _ _ h => h) (Or.inl ⟨by rfl, fun w hw => by (try dsimp only at hw); go_simp; with_reducible rfl⟩) (by assumption) ?_
  try simp only [Act.put, List.setIfInBounds_toArray, List.set_cons_zero, List.set_cons_succ]
  refine wpAnyH_take (i := 3) (oi := ⟨some 23, _, _, _, _, _⟩) rfl (by kernel_rfl) (by kernel_rfl) (by kernel_rfl) (fun _ _ _ h => h) (yieldsIf_load_mid (by rfl) _ _ rfl _ _ rfl _ _ (fun w hw => by (try dsimp only at hw); go_split_ands; assumption) (by assumption) rfl (by assumption)) (by assumption) ?_
  try simp only [Act.put, List.setIfInBounds_toArray, List.set_cons_zero, List.set_cons_succ]
  refine wpAnyH_take (i := 5) (oi := ⟨some 25, _, _, _, _, _⟩) rfl (by kernel_rfl) (by kernel_rfl) (by kernel_rfl) (fun _ _ _ h => h) (Or.inl ⟨by rfl, fun w hw => by (try dsimp only at hw); go_simp; with_reducible rfl⟩) (by assumption) ?_
  try simp only [Act.put, List.setIfInBounds_toArray, List.set_cons_zero, List.set_cons_succ]
  refine wpAnyH_take (i := 6) (oi := ⟨some 26, _, _, _, _, _⟩) rfl (by kernel_rfl) (by kernel_rfl) (by kernel_rfl) (fun _ _ _ h => h) (yieldsIf_load_mid (by rfl) _ _ rfl _ _ rfl _ _ (fun w hw => by (try dsimp only at hw); go_split_ands; assumption) (by assumption) rfl (by assumption)) (by assumption) ?_
  try simp only [Act.put, List.setIfInBounds_toArray, List.set_cons_zero, List.set_cons_succ]
  refine wpAnyH_take (i := 7) (oi := ⟨some 27, _, _, _, _, _⟩) rfl (by kernel_rfl) (by kernel_rfl) (by kernel_rfl) (fun _ _ _ h => h) (Or.inl ⟨by rfl, fun w hw => by (try dsimp only at hw); go_simp; with_reducible rfl⟩) (by assumption) ?_
  try simp only [Act.put, List.setIfInBounds_toArray, List.set_cons_zero, List.set_cons_succ]
  refine wpAnyH_take (i := 8) (oi := ⟨some 28, _, _, _, _, _⟩) rfl (by kernel_rfl) (by kernel_rfl) (by kernel_rfl) (fun _ _ _ h => h) (yieldsIf_load_mid (by rfl) _ _ rfl _ _ rfl _ _ (fun w hw => by (try dsimp only at hw); go_split_ands; assumption) (by assumption) rfl (by assumption)) (by assumption) ?_
  try simp only [Act.put, List.setIfInBounds_toArray, List.set_cons_zero, List.set_cons_succ]
  refine wpAnyH_ready (rs := [4]) (by kernel_rfl) (by simp) ?_
  refine AllReadyH.cons rfl (fun K hK => ?_) (AllReadyH.nil)
  go_simp
  go_at_call 18
  refine (H1.out _).mono ?_
  rintro e w2 ⟨rfl, hb0⟩
  have hb : Below w1.heap.size w1 w2 := (drewN_below (Below.refl w1.heap.size w1) 1).trans hb0
  clear hb0
  have HB2 : Hid (BlkIs w2 w.heap.size 87 (opC 2 n ds es rest).toArray) := BlkIs.below HA1.out hb
  have HW2 : Hid (Below w.heap.size w w2) := HW1.out.trans (hb.mono HW1.out.size)
  clear hb
  refine hK.out _ _ ⟨op_a HB2.out, op_b HB2.out hl, op_n HB2.out⟩ (fun hH2 => ?_)
  clear hK hH
  refine wpAnyH_ready (rs := [9]) (by kernel_rfl) (by simp) ?_
  refine AllReadyH.cons rfl (fun K hK => ?_) (AllReadyH.nil)
  go_simp
  go_at_call 79
  refine (H2.out _).mono ?_
  rintro e w3 ⟨rfl, hb⟩
  have HB3 : Hid (BlkIs w3 w.heap.size 87 (opC 2 n ds es rest).toArray) := BlkIs.below HB2.out hb
  have HW3 := Lib.hid (HW2.out.trans (hb.mono HW2.out.size))
  clear hb
  refine hK.out _ _ ⟨op_a HB3.out, op_b HB3.out hl, op_n HB3.out⟩ (fun hH3 => ?_)
  clear hK hH2
  refine wpAnyH_take (i := 10) (oi := ⟨some 30, _, _, _, _, _⟩) rfl (by kernel_rfl) (by kernel_rfl) (by kernel_rfl) (fun _ _ _ h => h) (Or.inl ⟨by rfl, fun w hw => by (try dsimp only at hw); go_simp; with_reducible rfl⟩) (by assumption) ?_
  try simp only [Act.put, List.setIfInBounds_toArray, List.set_cons_zero, List.set_cons_succ]
  refine wpAnyH_take (i := 11) (oi := ⟨some 2, _, _, _, _, _⟩) rfl (by kernel_rfl) (by kernel_rfl) (by kernel_rfl) (fun _ _ _ h => h) (Or.inl ⟨by rfl, fun w hw => by (try dsimp only at hw); go_simp; with_reducible rfl⟩) (by assumption) ?_
  try simp only [Act.put, List.setIfInBounds_toArray, List.set_cons_zero, List.set_cons_succ]
  refine wpAnyH_done (by kernel_rfl) ?_ _
  change KK _ _
  refine HKK.out _ _ ?_
  clear hH3 hu hsz hsz2
  go_wp2_with fail
  go_ret
  exact ⟨rfl, HW3.out⟩
set_option maxRecDepth 100000 in
set_option maxHeartbeats 1600000 in
theorem keysplay_3 (n : Int) (ds es : List Nat) (rest : List Value) (w : World) (hB : IsB ds) (hl : ds.length = 32) (hB2 : IsB es) (hl2 : es.length = 32) (h3 : rest.length = 3) :
    Calls Try.prog 65 #[.agg (opC 3 n ds es rest).toArray] w fun e w' => e = .returned (.bool true) ∧ Below w.heap.size w w' := by
  obtain ⟨z, H1, H2⟩ := compare_n ds es hB hl hB2 hl2
  have H1 := Lib.hid H1
  have H2 := Lib.hid H2
  have hu := und_key
  have hsz : (Try.prog.info? 25).map (·.size) = some (bvs ds).length := by rw [size_key]; simp [bvs, hl]
  have hsz2 : (Try.prog.info? 25).map (·.size) = some (bvs es).length := by rw [size_key]; simp [bvs, hl2]
  have HLO := Lib.hid (opC_length 3 n hl hl2 h3)
  clear hB hB2 hl2 h3
  go_enter Try.func65, Try.ntmps65
  go_wp2_with (first
    | ((with_reducible refine stopAt (o := ⟨some 1, _, _, _, _, _⟩) ?_); refine boxNew (o := ⟨some 1, _, _, _, _, _⟩) (by rfl) 87 (.tmp 0) rfl _ rfl ?_; intro w1 HA1 HW1 HS1; have b0 := op_kind HA1.out))
  rename_i KK hKK
  have HKK := Lib.hid hKK
  clear hKK b0
  refine wp_region_held_drew (S := fun w' => w'.rangeAt w.heap.size 2 (bvs ds) ∧ w'.rangeAt w.heap.size 34 (bvs es) ∧ w'.cell? ⟨w.heap.size, 1, none⟩ = some (.int .i64 n)) (by kernel_rfl) ⟨op_a HA1.out, op_b HA1.out hl, op_n HA1.out⟩ fun hH => ?_
  refine wpAnyH_take (i := 0) (oi := ⟨some 31, _, _, _, _, _⟩) rfl (by kernel_rfl) (by kernel_rfl) (by kernel_rfl) (fun _ _ _ h => h) (Or.inl ⟨by rfl, fun w hw => by (try dsimp only at hw); go_simp; with_reducible rfl⟩) (by assumption) ?_
  try simp only [Act.put, List.setIfInBounds_toArray, List.set_cons_zero, List.set_cons_succ]
  refine wpAnyH_take (i := 1) (oi := ⟨some 32, _, _, _, _, _⟩) rfl (by kernel_rfl) (by kernel_rfl) (by kernel_rfl) (fun _ _ _ h => h) (yieldsIf_load_mid (by rfl) _ _ rfl _ _ rfl _ _ (fun w hw => by (try dsimp only at hw); go_split_ands; assumption) (by assumption) rfl (by assumption)) (by assumption) ?_
  try simp only [Act.put, List.setIfInBounds_toArray, List.set_cons_zero, List.set_cons_succ]
  refine wpAnyH_take (i := 2) (oi := ⟨some 33, _, _, _, _, _⟩) rfl (by kernel_rfl) (by kernel_rfl) (by kernel_rfl) (fun _ _ _ h => h) (Or.inl ⟨by rfl, fun w hw => by (try dsimp only at hw); go_simp; with_reducible rfl⟩) (by assumption) ?_
  try simp only [Act.put, List.setIfInBounds_toArray, List.set_cons_zero, List.set_cons_succ]
  refine wpAnyH_take (i := 3) (oi := ⟨some 34, _, _, _, _, _⟩) rfl (by kernel_rfl) (by kernel_rfl) (by kernel_rfl) (fun _ _ _ h => h) (yieldsIf_load_mid (by rfl) _ _ rfl _ _ rfl _ _ (fun w hw => by (try dsimp only at hw); go_split_ands; assumption) (by assumption) rfl (by assumption)) (by assumption) ?_
  try simp only [Act.put, List.setIfInBounds_toArray, List.set_cons_zero, List.set_cons_succ]
  refine wpAnyH_take (i := 5) (oi := ⟨some 36, _, _, _, _, _⟩) rfl (by kernel_rfl) (by kernel_rfl) (by kernel_rfl) (fun _ _ _ h => h) (Or.inl ⟨by rfl, fun w hw => by (try dsimp only at hw); go_simp; with_reducible rfl⟩) (by assumption) ?_
  try simp only [Act.put, List.setIfInBounds_toArray, List.set_cons_zero, List.set_cons_succ]
  refine wpAnyH_take (i := 6) (oi := ⟨some 37, _, _, _, _, _⟩) rfl (by kernel_rfl) (by kernel_rfl) (by kernel_rfl) (fun _ _ _ h => h) (yieldsIf_load_mid (by rfl) _ _ rfl _ _ rfl _ _ (fun w hw => by (try dsimp only at hw); go_split_ands; assumption) (by assumption) rfl (by assumption)) (by assumption) ?_
  try simp only [Act.put, List.setIfInBounds_toArray, List.set_cons_zero, List.set_cons_succ]
  refine wpAnyH_take (i := 7) (oi := ⟨some 38, _, _, _, _, _⟩) rfl (by kernel_rfl) (by kernel_rfl) (by kernel_rfl) (fun _ _ _ h => h) (Or.inl ⟨by rfl, fun w hw => by (try dsimp only at hw); go_simp; with_reducible rfl⟩) (by assumption) ?_
  try simp only [Act.put, List.setIfInBounds_toArray, List.set_cons_zero, List.set_cons_succ]
  refine wpAnyH_take (i := 8) (oi := ⟨some 39, _, _, _, _, _⟩) rfl (by kernel_rfl) (by kernel_rfl) (by kernel_rfl) (fun _ _ _ h => h) (yieldsIf_load_mid (by rfl) _ _ rfl _ _ rfl _ _ (fun w hw => by (try dsimp only at hw); go_split_ands; assumption) (by assumption) rfl (by assumption)) (by assumption) ?_
  try simp only [Act.put, List.setIfInBounds_toArray, List.set_cons_zero, List.set_cons_succ]
  refine wpAnyH_ready (rs := [4]) (by kernel_rfl) (by simp) ?_
  refine AllReadyH.cons rfl (fun K hK => ?_) (AllReadyH.nil)
  go_simp
  go_at_call 19
  refine (H1.out _).mono ?_
  rintro e w2 ⟨rfl, hb0⟩
  have hb : Below w1.heap.size w1 w2 := (drewN_below (Below.refl w1.heap.size w1) 1).trans hb0
  clear hb0
  have HB2 : Hid (BlkIs w2 w.heap.size 87 (opC 3 n ds es rest).toArray) := BlkIs.below HA1.out hb
  have HW2 : Hid (Below w.heap.size w w2) := HW1.out.trans (hb.mono HW1.out.size)
  clear hb
  refine hK.out _ _ ⟨op_a HB2.out, op_b HB2.out hl, op_n HB2.out⟩ (fun hH2 => ?_)
  clear hK hH
  refine wpAnyH_ready (rs := [9]) (by kernel_rfl) (by simp) ?_
  refine AllReadyH.cons rfl (fun K hK => ?_) (AllReadyH.nil)
  go_simp
  go_at_call 80
  refine (H2.out _).mono ?_
  rintro e w3 ⟨rfl, hb⟩
  have HB3 : Hid (BlkIs w3 w.heap.size 87 (opC 3 n ds es rest).toArray) := BlkIs.below HB2.out hb
  have HW3 := Lib.hid (HW2.out.trans (hb.mono HW2.out.size))
  clear hb
  refine hK.out _ _ ⟨op_a HB3.out, op_b HB3.out hl, op_n HB3.out⟩ (fun hH3 => ?_)
  clear hK hH2
  refine wpAnyH_take (i := 10) (oi := ⟨some 41, _, _, _, _, _⟩) rfl (by kernel_rfl) (by kernel_rfl) (by kernel_rfl) (fun _ _ _ h => h) (Or.inl ⟨by rfl, fun w hw => by (try dsimp only at hw); go_simp; with_reducible rfl⟩) (by assumption) ?_
  try simp only [Act.put, List.setIfInBounds_toArray, List.set_cons_zero, List.set_cons_succ]
  refine wpAnyH_take (i := 11) (oi := ⟨some 2, _, _, _, _, _⟩) rfl (by kernel_rfl) (by kernel_rfl) (by kernel_rfl) (fun _ _ _ h => h) (Or.inl ⟨by rfl, fun w hw => by (try dsimp only at hw); go_simp; with_reducible rfl⟩) (by assumption) ?_
  try simp only [Act.put, List.setIfInBounds_toArray, List.set_cons_zero, List.set_cons_succ]
  refine wpAnyH_done (by kernel_rfl) ?_ _
  change KK _ _
  refine HKK.out _ _ ?_
  clear hH3 hu hsz hsz2
  go_wp2_with fail
  go_ret
  exact ⟨rfl, HW3.out⟩
end Go.Proofs.Ytkpbeibcfaenhaa
