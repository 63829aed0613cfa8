/- digest.Cut and ledgerref1.Cut. -/
import Derived.Test.YtfnlhfaihoojfaaDoorHSum
import Derived.Test.YtfnlhfaihoojfaaDoorArr
import Derived.Deep.QuietTactic
import Derived.StillTailTactics
namespace Go.Proofs.YtfnlhfaihoojfaaDoor
open Go.RowKit
/-- The first bytes, zeros behind them. -/
def cutK (width : Int) : Nat := (min (max width 0) 32).toNat
def cutN (ds : List Nat) (width : Int) : List Nat := ds.take (cutK width) ++ zs (32 - cutK width)
theorem cutK_le (width : Int) : cutK width ≤ 32 := by unfold cutK; omega
theorem cutN_length {ds : List Nat} (hl : ds.length = 32) (width : Int) : (cutN ds width).length = 32 := by
  have := cutK_le width
  simp [cutN, zs, hl]; omega
theorem cutN_isB {ds : List Nat} (hB : IsB ds) (width : Int) : IsB (cutN ds width) := (hB.take _).app (zs_isB _)
theorem und_bs : Tryd.prog.underlying 22 = some (.slice 5) := by kernel_rfl
theorem cut_step {X ds : List Nat} {k : Nat} (h1 : k < X.length) (h2 : X.length = ds.length) : (X.take k ++ ds.drop k).set k (X.getD k 0) = X.take (k + 1) ++ ds.drop (k + 1) := by
  rw [List.set_append_right _ _ (by rw [List.length_take]; omega), List.length_take, show k - min k X.length = 0 by omega, take_succ_getD h1, List.append_assoc]
  congr 1
  rw [List.drop_eq_getElem_cons (show k < ds.length by omega)]
  rfl
theorem cut_same {X ds : List Nat} {k : Nat} (h1 : k < X.length) (h2 : X.length = ds.length) (h : X.getD k 0 = ds.getD k 0) : X.take k ++ ds.drop k = X.take (k + 1) ++ ds.drop (k + 1) := by
  rw [take_succ_getD h1, h, List.append_assoc]
  congr 1
  rw [List.drop_eq_getElem_cons (show k < ds.length by omega)]
  simp [List.getD, show k < ds.length by omega]
theorem cutN_at {ds : List Nat} (hl : ds.length = 32) {width : Int} {k : Nat} (hk : k < 32) : (cutN ds width).getD k 0 = if width ≤ k then 0 else ds.getD k 0 := by
  unfold cutN
  have hc : cutK width = (min (max width 0) 32).toNat := rfl
  simp only [List.getD]
  rw [List.getElem?_append, List.length_take, hl]
  by_cases h : width ≤ k
  · rw [if_neg (by omega), if_pos h]
    simp only [zs, List.getElem?_replicate]
    split <;> rfl
  · rw [if_pos (by omega), if_neg h, List.getElem?_take, if_pos (by omega)]
set_option maxHeartbeats 800000 in
theorem refCut_any (ds : List Nat) (width : Int) (w : World) (hB : IsB ds) (hl : ds.length = 32) :
    Calls Tryd.prog 44 #[.agg (bvs ds).toArray, .int .i64 width] w fun e w' => e = .returned (.agg (bvs (cutN ds width)).toArray) ∧ Below w.heap.size w w' := by
  have HB := Lib.hid hB
  have HL := Lib.hid hl
  clear hB hl
  go_enter Tryd.func44, Tryd.ntmps44
  go_wp2_with fail
  refine start2 (G := fun w2 => Code.wp _ _ _ _ w2) fun w2 HD HR HW HS => ?_
  have HD2 : Hid (BlkB w2 w.heap.size 29 ds) := HD
  have HR2 : Hid (BlkB w2 (w.heap.size + 1) 29 (zs 32)) := HR
  clear HD HR
  go_loopw [5] (fun i wr => ∃ k : Nat, k ≤ 32 ∧ i = .int .i64 k ∧ Hid (BlkB wr w.heap.size 29 ((cutN ds width).take k ++ ds.drop k)) ∧ Hid (w2.grownBy wr (some w.heap.size))) (fun i _ => 32 - (intOf i).toNat)
  case atStart => exact ⟨0, by omega, rfl, HD2.out, World.grownBy.refl _ _⟩
  case round =>
    obtain ⟨k, hk, rfl, HLr, HG⟩ := hrel
    have HLL : Hid (((cutN ds width).take k ++ ds.drop k).length = 32) := by
      show _ = 32
      rw [List.length_append, List.length_take, List.length_drop, cutN_length HL.out, HL.out]; omega
    by_cases hlt : k < 32
    · have hc := HLr.out.cell (i := k) (by rw [HLL.out]; exact hlt)
      have hf := BlkIs.frozen HLr.out k
      by_cases hw : width ≤ k
      · have hs := HLr.out.set k 0
        have e : (cutN ds width).getD k 0 = 0 := by rw [cutN_at HL.out hlt, if_pos hw]
        have st := cut_step (X := cutN ds width) (ds := ds) (k := k) (by rw [cutN_length HL.out]; exact hlt) (by rw [cutN_length HL.out, HL.out])
        rw [e] at st
        rw [st] at hs
        have HS2 := Lib.hid hs
        have HG2 := Lib.hid (grown_trans HG.out (grown_setCell wr (g := w.heap.size) k (.int .u8 ((0 : Nat) : Int))))
        clear hs e st HLL
        generalize ((cutN ds width).take k ++ ds.drop k).getD k 0 = z at *
        go_wp2
        go_roundw
        case rel => exact ⟨k + 1, by omega, by go_num, HS2.out, HG2.out⟩
        case measure => simp [intOf]; omega
      · have hs := HLr.out
        rw [cut_same (by rw [cutN_length HL.out]; exact hlt) (by rw [cutN_length HL.out, HL.out]) (by rw [cutN_at HL.out hlt, if_neg hw])] at hs
        have HS2 := Lib.hid hs
        clear hs hc hf HLL
        go_wp2
        go_roundw
        case rel => exact ⟨k + 1, by omega, by go_num, HS2.out, HG.out⟩
        case measure => simp [intOf]; omega
    · have HF : Hid (BlkB wr w.heap.size 29 (cutN ds width)) := by
        have h := HLr.out
        rw [show k = 32 by omega, List.take_of_length_le (by rw [cutN_length HL.out]; exact Nat.le_refl _), List.drop_of_length_le (by rw [HL.out]; exact Nat.le_refl _), List.append_nil] at h
        exact h
      have HZ : Hid (BlkB wr (w.heap.size + 1) 29 (zs 32)) := BlkIs.grown HR2.out HG.out (by simp)
      have HBw : Hid (Below w.heap.size w wr) := HW.out.grown HG.out HW.out.size (fun k hk => by cases hk; exact Nat.le_refl _)
      have HX := Lib.hid (HF.out.whole (cutN_isB HB.out width) (cutN_length HL.out width))
      have HLC := Lib.hid (cutN_length HL.out width)
      clear HLL
      obtain ⟨cs, HCS⟩ : ∃ cs, Hid (cutN ds width = cs) := ⟨_, rfl⟩
      rw [HCS.out] at HX HLC
      go_wp2_with (first
        | (refine wpList_load_arr (o := ⟨some 15, _, _, _, _, _⟩) (by rfl) 29 (.tmp 2) rfl ⟨w.heap.size, 0, none⟩ 32 cs rfl HX.out (by omega) row_dig size_dig ?_)
        | (refine storeA (o := ⟨none, _, _, _, _, _⟩) (by rfl) 29 (.tmp 4) (.tmp 15) rfl (w.heap.size + 1) 32 cs (zs 32) 29 rfl rfl HZ.out size_dig HLC.out (zs_length 32) w.heap.size w HBw.out (by omega) ?_; intro wf HRf HBf))
      exact arr_ret (g := w.heap.size + 1) (n := 32) rfl rfl HRf.out HLC.out row_dig size_dig rfl ⟨by rw [HCS.out], HBf⟩
/-- Of a cut the first bytes are copied. -/
theorem cut_splice {ds : List Nat} (hl : ds.length = 32) {k : Nat} (hk : k ≤ 32) : splice (zs 32) 0 (ds.take k) = ds.take k ++ zs (32 - k) := by
  unfold splice
  rw [List.take_zero, List.nil_append, List.length_take, hl, show 0 + min k 32 = k by omega]
  congr 1
  unfold zs
  rw [List.drop_replicate]
set_option maxRecDepth 100000 in
set_option maxHeartbeats 800000 in
theorem cut_any (ds : List Nat) (width : Int) (w : World) (hB : IsB ds) (hl : ds.length = 32) :
    Calls Tryd.prog 17 #[.agg (bvs ds).toArray, .int .i64 width] w fun e w' => e = .returned (.agg (bvs (cutN ds width)).toArray) ∧ Below w.heap.size w w' := by
  have HB := Lib.hid hB
  have HL := Lib.hid hl
  clear hB hl
  go_enter Tryd.func17, Tryd.ntmps17
  go_wp2_with fail
  all_goals
    refine start3 (G := fun w2 => Code.wp _ _ _ _ w2) fun w2 HD HR HO HW HS => ?_
    have HD2 : Hid (BlkB w2 w.heap.size 29 ds) := HD
    have HR2 : Hid (BlkB w2 (w.heap.size + 1) 29 (zs 32)) := HR
    have HO2 : Hid (BlkB w2 (w.heap.size + 1 + 1) 29 (zs 32)) := HO
    clear HD HR HO HS
  · rename_i h2
    rw [if_neg (by omega)] at h2
    have HX := Lib.hid ((HD2.out.whole HB.out HL.out).take (k := 32) (by omega))
    have HF : Hid (splice (zs 32) 0 (ds.take 32) = cutN ds width) := by
      show _ = _
      rw [cut_splice HL.out (by omega)]
      unfold cutN
      rw [show cutK width = 32 by unfold cutK; omega]
    have HLC := Lib.hid (cutN_length HL.out width)
    have HBC := Lib.hid (cutN_isB HB.out width)
    obtain ⟨cs, HCS⟩ : ∃ cs, Hid (cutN ds width = cs) := ⟨_, rfl⟩
    rw [HCS.out] at HF HLC HBC
    go_still_tail 4, (by kernel_rfl)
    change wpList _ _ _ _ _ w2.drew
    replace HX : Hid (RB w2.drew (some ⟨w.heap.size, 0, none⟩) 32 (ds.take 32)) := HX.out
    replace HO2 : Hid (BlkB w2.drew (w.heap.size + 1 + 1) 29 (zs 32)) := HO2.out
    replace HR2 : Hid (BlkB w2.drew (w.heap.size + 1) 29 (zs 32)) := HR2.out
    replace HW : Hid (Below w.heap.size w w2.drew) := Lib.hid (drewN_below HW.out 1)
    clear HD2
    generalize w2.drew = w2 at *
    go_wp2_with (first
      | (refine copyB (o := ⟨some 13, _, _, _, _, _⟩) (by rfl) (.tmp 10) (.tmp 12) 22 22 rfl 5 und_bs byte_size (some ⟨w.heap.size, 0, none⟩) (w.heap.size + 1 + 1) 0 32 32 32 32 rfl rfl (zs 32) 29 HO2.out _ HX.out (by omega) (by rw [zs_length]; omega) (w.heap.size + 1 + 1) w2 (Below.refl _ _) (Nat.le_refl _) ?_; intro w3 HO3 HB3; rw [HF.out] at HO3; have HR3 := Lib.hid (BlkIs.belowB HR2.out HB3 (by omega)); have HW3 := Lib.hid (HW.out.trans (HB3.mono (by omega))); have HX3 := Lib.hid (HO3.out.whole HBC.out HLC.out); clear HB3)
      | (refine wpList_load_arr (o := ⟨some 14, _, _, _, _, _⟩) (by rfl) 29 (.tmp 5) rfl ⟨w.heap.size + 1 + 1, 0, none⟩ 32 cs rfl HX3.out (by omega) row_dig size_dig ?_)
      | (refine storeA (o := ⟨none, _, _, _, _, _⟩) (by rfl) 29 (.tmp 4) (.tmp 14) rfl (w.heap.size + 1) 32 cs (zs 32) 29 rfl rfl HR3.out size_dig HLC.out (zs_length 32) w.heap.size w HW3.out (by omega) ?_; intro wf HRf HBf))
    exact arr_ret (g := w.heap.size + 1) (n := 32) rfl rfl HRf.out HLC.out row_dig size_dig rfl ⟨by rw [HCS.out], HBf⟩
  · rename_i h2
    clear h2
    have HX := Lib.hid ((HD2.out.whole HB.out HL.out).take (k := 0) (by omega))
    have HF : Hid (splice (zs 32) 0 (ds.take 0) = cutN ds width) := by
      show _ = _
      rw [cut_splice HL.out (by omega)]
      unfold cutN
      rw [show cutK width = 0 by unfold cutK; omega]
    have HLC := Lib.hid (cutN_length HL.out width)
    have HBC := Lib.hid (cutN_isB HB.out width)
    obtain ⟨cs, HCS⟩ : ∃ cs, Hid (cutN ds width = cs) := ⟨_, rfl⟩
    rw [HCS.out] at HF HLC HBC
    go_still_tail 4, (by kernel_rfl)
    change wpList _ _ _ _ _ w2.drew
    replace HX : Hid (RB w2.drew (some ⟨w.heap.size, 0, none⟩) 0 (ds.take 0)) := HX.out
    replace HO2 : Hid (BlkB w2.drew (w.heap.size + 1 + 1) 29 (zs 32)) := HO2.out
    replace HR2 : Hid (BlkB w2.drew (w.heap.size + 1) 29 (zs 32)) := HR2.out
    replace HW : Hid (Below w.heap.size w w2.drew) := Lib.hid (drewN_below HW.out 1)
    clear HD2
    generalize w2.drew = w2 at *
    go_wp2_with (first
      | (refine copyB (o := ⟨some 13, _, _, _, _, _⟩) (by rfl) (.tmp 10) (.tmp 12) 22 22 rfl 5 und_bs byte_size (some ⟨w.heap.size, 0, none⟩) (w.heap.size + 1 + 1) 0 0 32 0 32 rfl rfl (zs 32) 29 HO2.out _ HX.out (by omega) (by rw [zs_length]; omega) (w.heap.size + 1 + 1) w2 (Below.refl _ _) (Nat.le_refl _) ?_; intro w3 HO3 HB3; rw [HF.out] at HO3; have HR3 := Lib.hid (BlkIs.belowB HR2.out HB3 (by omega)); have HW3 := Lib.hid (HW.out.trans (HB3.mono (by omega))); have HX3 := Lib.hid (HO3.out.whole HBC.out HLC.out); clear HB3)
      | (refine wpList_load_arr (o := ⟨some 14, _, _, _, _, _⟩) (by rfl) 29 (.tmp 5) rfl ⟨w.heap.size + 1 + 1, 0, none⟩ 32 cs rfl HX3.out (by omega) row_dig size_dig ?_)
      | (refine storeA (o := ⟨none, _, _, _, _, _⟩) (by rfl) 29 (.tmp 4) (.tmp 14) rfl (w.heap.size + 1) 32 cs (zs 32) 29 rfl rfl HR3.out size_dig HLC.out (zs_length 32) w.heap.size w HW3.out (by omega) ?_; intro wf HRf HBf))
    exact arr_ret (g := w.heap.size + 1) (n := 32) rfl rfl HRf.out HLC.out row_dig size_dig rfl ⟨by rw [HCS.out], HBf⟩
  · rename_i h2
    rw [if_neg (by omega)] at h2
    obtain ⟨k, rfl⟩ : ∃ k : Nat, width = k := ⟨width.toNat, by omega⟩
    have HX := Lib.hid ((HD2.out.whole HB.out HL.out).take (k := k) (by omega))
    have HF : Hid (splice (zs 32) 0 (ds.take k) = cutN ds (k : Int)) := by
      show _ = _
      rw [cut_splice HL.out (by omega)]
      unfold cutN
      rw [show cutK (k : Int) = k by unfold cutK; omega]
    have HLC := Lib.hid (cutN_length HL.out (k : Int))
    have HBC := Lib.hid (cutN_isB HB.out (k : Int))
    obtain ⟨cs, HCS⟩ : ∃ cs, Hid (cutN ds (k : Int) = cs) := ⟨_, rfl⟩
    rw [HCS.out] at HF HLC HBC
    go_still_tail 4, (by kernel_rfl)
    change wpList _ _ _ _ _ w2.drew
    replace HX : Hid (RB w2.drew (some ⟨w.heap.size, 0, none⟩) k (ds.take k)) := HX.out
    replace HO2 : Hid (BlkB w2.drew (w.heap.size + 1 + 1) 29 (zs 32)) := HO2.out
    replace HR2 : Hid (BlkB w2.drew (w.heap.size + 1) 29 (zs 32)) := HR2.out
    replace HW : Hid (Below w.heap.size w w2.drew) := Lib.hid (drewN_below HW.out 1)
    clear HD2
    generalize w2.drew = w2 at *
    go_wp2_with (first
      | (refine copyB (o := ⟨some 13, _, _, _, _, _⟩) (by rfl) (.tmp 10) (.tmp 12) 22 22 rfl 5 und_bs byte_size (some ⟨w.heap.size, 0, none⟩) (w.heap.size + 1 + 1) 0 k 32 k 32 rfl rfl (zs 32) 29 HO2.out _ HX.out (by omega) (by rw [zs_length]; omega) (w.heap.size + 1 + 1) w2 (Below.refl _ _) (Nat.le_refl _) ?_; intro w3 HO3 HB3; rw [HF.out] at HO3; have HR3 := Lib.hid (BlkIs.belowB HR2.out HB3 (by omega)); have HW3 := Lib.hid (HW.out.trans (HB3.mono (by omega))); have HX3 := Lib.hid (HO3.out.whole HBC.out HLC.out); clear HB3)
      | (refine wpList_load_arr (o := ⟨some 14, _, _, _, _, _⟩) (by rfl) 29 (.tmp 5) rfl ⟨w.heap.size + 1 + 1, 0, none⟩ 32 cs rfl HX3.out (by omega) row_dig size_dig ?_)
      | (refine storeA (o := ⟨none, _, _, _, _, _⟩) (by rfl) 29 (.tmp 4) (.tmp 14) rfl (w.heap.size + 1) 32 cs (zs 32) 29 rfl rfl HR3.out size_dig HLC.out (zs_length 32) w.heap.size w HW3.out (by omega) ?_; intro wf HRf HBf))
    exact arr_ret (g := w.heap.size + 1) (n := 32) rfl rfl HRf.out HLC.out row_dig size_dig rfl ⟨by rw [HCS.out], HBf⟩
end Go.Proofs.YtfnlhfaihoojfaaDoor
