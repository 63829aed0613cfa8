/- ledgerlaw1.hex, written. -/
import Derived.Test.YtadhjgopekekgaaDoorRefDig
namespace Go.Proofs.YtadhjgopekekgaaDoor
open Go.RowKit
def hexN (x : Nat) : Nat := if 97 ≤ x then x - 87 else (x + 208) % 256
theorem hexN_lt {x : Nat} (h : x < 256) : hexN x < 256 := by unfold hexN; split <;> omega
theorem hex_any (x : Nat) (w : World) (hx : x < 256) : Calls Tryd.prog 22 #[.int .u8 x] w fun e w' => e = .returned (.int .u8 (hexN x : Nat)) ∧ w' = w := by
  by_cases h : 97 ≤ x
  · have e : hexN x = x - 87 := by simp [hexN, h]
    rw [e]
    clear e
    go_enter Tryd.func22, Tryd.ntmps22
    go_wp2_with fail
    go_ret
    exact ⟨ret_int (by omega), rfl⟩
  · have e : hexN x = (x + 208) % 256 := by simp [hexN, h]
    rw [e]
    clear e
    go_enter Tryd.func22, Tryd.ntmps22
    go_wp2_with fail
    go_ret
    exact ⟨ret_int (by omega), rfl⟩
def sB (s : ByteArray) (i : Nat) : Nat := (s.data.toList.getD i 0).toNat
theorem sB_lt (s : ByteArray) (i : Nat) : sB s i < 256 := (s.data.toList.getD i 0).toNat_lt
def wrN (s : ByteArray) : List Nat := (List.range 32).map fun i => (16 * hexN (sB s (2 * i)) + hexN (sB s (2 * i + 1))) % 256
theorem wrN_length (s : ByteArray) : (wrN s).length = 32 := by simp [wrN]
theorem wrN_isB (s : ByteArray) : IsB (wrN s) := by
  intro x hx
  simp only [wrN, List.mem_map] at hx
  obtain ⟨i, _, rfl⟩ := hx
  exact Nat.mod_lt _ (by decide)
theorem wrN_at (s : ByteArray) {i : Nat} (h : i < 32) : (wrN s).getD i 0 = (16 * hexN (sB s (2 * i)) + hexN (sB s (2 * i + 1))) % 256 := by
  simp [wrN, List.getD, h]
theorem index_str {P : Program} (t : TypeId) (s : ByteArray) (i : Int) (j : Nat) (w : World) (h : P.underlying t = some .string) (hi : i = (j : Int)) (hj : j < s.size) :
    (Instr.index t (.string s) (.int .i64 i)).run P w = .ok (.int .u8 (sB s j : Nat)) w := by
  subst hi
  rw [run_index_string w t s .i64 _ h, dif_pos ⟨by omega, by omega⟩]
  have hj' : j < s.data.size := hj
  congr 2
  simp only [Int.toNat_natCast]
  have : s[j] = s.data[j] := rfl
  rw [this]
  unfold sB
  simp only [List.getD, Array.getElem?_toList]
  rw [getElem?_pos s.data j hj']
  rfl
set_option maxRecDepth 100000 in
set_option maxHeartbeats 800000 in
theorem written_any (s : ByteArray) (w : World) (hs : s.size = 64) :
    Calls Tryd.prog 9 #[.string s] w fun e w' => e = .returned (.agg (bvs (wrN s)).toArray) ∧ Below w.heap.size w w' := by
  have HS := Lib.hid hs
  have hs64 : (s.size : Int) = 64 := by omega
  clear hs
  obtain ⟨D, HD⟩ : ∃ D, Hid (∀ _ : Nat, wrN s = D) := ⟨_, fun _ => rfl⟩
  have HDL : Hid (∀ _ : Nat, D.length = 32) := fun _ => by rw [← HD.out 0, wrN_length]
  have HDB : Hid (IsB D) := by
    rw [← HD.out 0]
    exact wrN_isB s
  have HDA : Hid (∀ i, i < 32 → D.getD i 0 = (16 * hexN (sB s (2 * i)) + hexN (sB s (2 * i + 1))) % 256) := fun i hi => by rw [← HD.out 0, wrN_at s hi]
  go_enter Tryd.func9, Tryd.ntmps9
  go_wp2_with (first
    | ((with_reducible refine stopAt (o := ⟨some 2, _, _, _, _, _⟩) ?_); refine allocNew (o := ⟨some 2, _, _, _, _, _⟩) (by rfl) 23 rfl _ _ info_dig ?_; intro w1 HB1 HW1 HS1; (try simp only [Act.put, List.setIfInBounds_toArray, List.set_cons_zero, List.set_cons_succ]))
    | ((with_reducible refine stopAt (o := ⟨some 3, _, _, _, _, _⟩) ?_); refine allocNew (o := ⟨some 3, _, _, _, _, _⟩) (by rfl) 23 rfl _ _ info_dig ?_; intro w2 HB2 HW2 HS2; (try simp only [Act.put, List.setIfInBounds_toArray, List.set_cons_zero, List.set_cons_succ])))
  have HC0 : Hid (BlkB w2 w1.heap.size 23 (cutZ D 0)) := HB2.out
  have HW0 : Hid (Below w1.heap.size w1 w2) := HW2.out
  go_loopw [4] (fun i wr => ∃ k : Nat, k ≤ 32 ∧ i = .int .i64 k ∧ Hid (BlkB wr w1.heap.size 23 (cutZ D k)) ∧ Hid (Below w1.heap.size w1 wr)) (fun i _ => 32 - (intOf i).toNat)
  case atStart => exact ⟨0, by omega, rfl, HC0.out, HW0.out⟩
  case round =>
    clear HC0 HW0
    obtain ⟨k, hk, rfl, HC, HW⟩ := hrel
    obtain ⟨w3, rfl⟩ : ∃ w3, w3 = wr := ⟨_, rfl⟩
    by_cases hlt : k < 32
    · have cd := HC.out.cell (i := k) (by rw [cutZ_length (HDL.out 0) hk]; exact hlt)
      have fd := BlkIs.frozen HC.out k
      have hr0 := fun w => index_str (P := Tryd.prog) 9 s (2 * (k : Int)) (2 * k) w Tryd.underlying9 (by omega) (by have := HS.out; omega)
      have hr1 := fun w => index_str (P := Tryd.prog) 9 s (2 * (k : Int) + 1) (2 * k + 1) w Tryd.underlying9 (by omega) (by have := HS.out; omega)
      have l0 := sB_lt s (2 * k)
      have l1 := sB_lt s (2 * k + 1)
      have hv : ((16 * hexN (sB s (2 * k)) + hexN (sB s (2 * k + 1))) % 256) = D.getD k 0 := (HDA.out k hlt).symm
      have HCn : Hid (∀ e : Int, e = ((D.getD k 0 : Nat) : Int) → BlkB (w3.drew.setCell ⟨w1.heap.size, k, none⟩ (.int .u8 e)) w1.heap.size 23 (cutZ D (k + 1))) := by
        intro e' he
        subst he
        have h1 := BlkB.set (w := w3.drew) HC.out k (D.getD k 0)
        rwa [cutZ_next (HDL.out 0) hlt] at h1
      have HWn : Hid (∀ v, Below w1.heap.size w1 (w3.drew.setCell ⟨w1.heap.size, k, none⟩ v)) := fun v => (drewN_below HW.out 1).setCell (Nat.le_refl _) v
      have HV := Lib.hid hv
      clear hv
      generalize sB s (2 * k) = x0 at *
      generalize sB s (2 * k + 1) = x1 at *
      generalize (cutZ D k).getD k 0 = z at *
      generalize D.getD k 0 = y at *
      have i0 : 2 * (k : Int) + 1 < 64 := by omega
      have i1 : (k : Int) < 32 := by omega
      go_wp2_with fail
      refine wp_region_still_tail 15 (by kernel_rfl) (by kernel_rfl) ?_
      simp only [List.take_succ_cons, List.take_zero, List.drop_succ_cons, List.drop_zero]
      repeat (refine wpStill_step (fun K hK => ?_); go_simp; (try go_bits); first | ((with_reducible refine hK _ ?_); clear hK K) | ((with_reducible refine ⟨_, hex_any x0 _ l0, hK _ ?_⟩); clear hK K) | ((with_reducible refine ⟨_, hex_any x1 _ l1, hK _ ?_⟩); clear hK K))
      try refine wpStill_nil ?_
      change wpList _ _ _ _ _ w3.drew
      clear hr0 hr1
      go_wp2_with fail
      go_roundw
      case rel => exact ⟨k + 1, by omega, by go_num, HCn.out _ (by have := HV.out; omega), HWn.out _⟩
      case measure => simp [intOf]; omega
    · have HDf : Hid (BlkB w3 w1.heap.size 23 D) := by
        have h1 := HC.out
        rwa [show k = 32 by omega, cutZ_end (HDL.out 0)] at h1
      have HX3 := Lib.hid (HDf.out.whole HDB.out (HDL.out 0))
      have HR : Hid (BlkB w3 w.heap.size 23 (zs 32)) := BlkIs.belowB HB1.out HW.out (by rw [HS1.out]; omega)
      have HY : Hid (Below w.heap.size w w3) := HW1.out.trans (HW.out.mono (by rw [HS1.out]; omega))
      go_wp2_with (first
        | ((with_reducible refine stopAt (o := ⟨some 32, _, _, _, _, _⟩) ?_); refine wpList_load_arr (o := ⟨some 32, _, _, _, _, _⟩) (by rfl) 23 (.tmp 3) rfl ⟨w1.heap.size, 0, none⟩ 32 D rfl HX3.out (by omega) row_dig size_dig ?_; (try simp only [Act.put, List.setIfInBounds_toArray, List.set_cons_zero, List.set_cons_succ]))
        | ((with_reducible refine stopAt (o := ⟨none, .store _ (.tmp 2) _, _, _, _, _⟩) ?_); refine storeA (o := ⟨none, _, _, _, _, _⟩) (by rfl) 23 (.tmp 2) (.tmp 32) rfl w.heap.size 32 D (zs 32) 23 rfl rfl HR.out size_dig (HDL.out 0) (zs_length 32) w.heap.size w HY.out (by omega) ?_; intro wf HRf HBf))
      exact arr_ret (g := w.heap.size) (n := 32) rfl rfl HRf.out (HDL.out 0) row_dig size_dig rfl ⟨by rw [HD.out 0], HBf⟩
end Go.Proofs.YtadhjgopekekgaaDoor
