/- batch.Bit. -/
import Derived.Test.YtkpbeibcfaenhaaArr
import Derived.Test.YtkpbeibcfaenhaaPathN
import Derived.Test.YtkpbeibcfaenhaaBits
namespace Go.Proofs.Ytkpbeibcfaenhaa
open Go.RowKit
theorem info_key : (Try.prog.info? 25).map (fun i => (i.zero, i.size)) = some (some (.agg (zarr 32)), 32) := by kernel_rfl
theorem row_key : (Try.prog.underlying 25).map (·.isRow) = some true := by kernel_rfl
theorem size_key : (Try.prog.info? 25).map (·.size) = some 32 := (zero_of_info info_key).2
theorem und_key : Try.prog.underlying 25 = some (.array 32 5) := by kernel_rfl
theorem and64_7 (a : Nat) (ha : a < 9223372036854775808) : bits .and .i64 (a : Int) 7 = ((a % 8 : Nat) : Int) := by
  show IntKind.i64.wrap ((BitVec.ofInt 64 (a : Int) &&& BitVec.ofInt 64 ((7 : Nat) : Int)).toNat : Int) = _
  rw [BitVec.toNat_and, ofInt64 a ha, ofInt64 7 (by omega), IntKind.wrap_i64, Nat.and_two_pow_sub_one_eq_mod a 3]
  omega
set_option maxHeartbeats 400000 in
theorem bit_in (ks : List Nat) (i : Nat) (w : World) (hB : IsB ks) (hl : ks.length = 32) (hi : i < 256) :
    Calls Try.prog 17 #[.agg (bvs ks).toArray, .int .i64 i] w fun e w' => e = .returned (.int .i64 (bitK ks i : Nat)) ∧ Below w.heap.size w w' := by
  have hc := BlkB.cell (BlkIs.new w 25 (bvs ks).toArray : BlkB _ _ _ ks) (i := i / 8) (by omega)
  have hx8 := byte_at hB (i / 8)
  have h7 := and64_7 i (by omega)
  have h1 := and64_1 (ks.getD (i / 8) 0 / 2 ^ (7 - i % 8)) (Nat.lt_of_le_of_lt (Nat.div_le_self _ _) (by omega))
  have HBK : Hid (bitK ks i = ks.getD (i / 8) 0 / 2 ^ (7 - i % 8) % 2) := rfl
  clear hB hl
  generalize ks.getD (i / 8) 0 = x at *
  go_enter Try.func17, Try.ntmps17
  have HF : Hid (bits .and .i64 (wrap64 ((x : Int) / 2 ^ (7 - i % 8))) 1 = ((x / 2 ^ (7 - i % 8) % 2 : Nat) : Int)) := by
    show _ = _
    have e : ((x : Int) / 2 ^ (7 - i % 8)) = ((x / 2 ^ (7 - i % 8) : Nat) : Int) := by simp
    have hb : x / 2 ^ (7 - i % 8) < 256 := Nat.lt_of_le_of_lt (Nat.div_le_self _ _) hx8
    rw [e, ← h1]
    congr 1
    generalize x / 2 ^ (7 - i % 8) = y at hb
    unfold wrap64
    omega
  clear h1
  go_wp2_with fail
  go_ret
  exact ⟨by rw [HBK.out, ← HF.out]; rfl, (Below.refl _ _).alloc (Nat.le_refl _) _⟩
theorem bit_out (ks : List Nat) (i : Int) (w : World) (hi : i < 0 ∨ 256 ≤ i) :
    Calls Try.prog 17 #[.agg (bvs ks).toArray, .int .i64 i] w fun e w' => e = .returned (.int .i64 0) ∧ Below w.heap.size w w' := by
  go_enter Try.func17, Try.ntmps17
  go_wp2_with fail
  all_goals
    go_ret
    exact ⟨rfl, (Below.refl _ _).alloc (Nat.le_refl _) _⟩
set_option maxRecDepth 100000 in
set_option maxHeartbeats 1600000 in
theorem rebuilt_any (ks : List Nat) (w : World) (hB : IsB ks) (hl : ks.length = 32) :
    Calls Try.prog 16 #[.agg (bvs ks).toArray] w fun e w' => e = .returned (.agg (bvs ks).toArray) ∧ Below w.heap.size w w' := by
  have HB := Lib.hid hB
  have HL := Lib.hid hl
  clear hB hl
  go_enter Try.func16, Try.ntmps16
  go_wp2_with fail
  refine start3 (G := fun w2 => Code.wp _ _ _ _ w2) fun w2 HK HR HM HW HS => ?_
  have HK2 : Hid (BlkB w2 w.heap.size 25 ks) := HK
  have HR2 : Hid (BlkB w2 (w.heap.size + 1) 25 (zs 32)) := HR
  have HM2 : Hid (BlkB w2 (w.heap.size + 1 + 1) 25 (rebN ks 0)) := by
    show BlkB _ _ _ _
    rw [rebN_zero HB.out]
    exact HM
  clear HK HR HM HS
  go_loopw [4] (fun i wr => ∃ k : Nat, k ≤ 256 ∧ i = .int .i64 k ∧ Hid (BlkB wr w.heap.size 25 ks) ∧ Hid (BlkB wr (w.heap.size + 1) 25 (zs 32)) ∧ Hid (BlkB wr (w.heap.size + 1 + 1) 25 (rebN ks k)) ∧ Hid (Below w.heap.size w wr)) (fun i _ => 256 - (intOf i).toNat)
  case atStart => exact ⟨0, by omega, rfl, HK2.out, HR2.out, HM2.out, HW.out⟩
  case round =>
    clear HK2 HR2 HM2 HW
    obtain ⟨k, hk, rfl, HK, HR, HM, HW⟩ := hrel
    have HX := Lib.hid (HK.out.whole HB.out HL.out)
    by_cases hlt : k < 256
    · go_wp2_with (refine wpList_load_arr (o := ⟨some 10, _, _, _, _, _⟩) (by rfl) 25 (.tmp 1) rfl ⟨w.heap.size, 0, none⟩ 32 ks rfl HX.out (by omega) row_key size_key ?_)
      refine (bit_in ks k wr HB.out HL.out hlt).mono ?_
      rintro e w3 ⟨rfl, hb⟩
      have HK3 : Hid (BlkB w3 w.heap.size 25 ks) := BlkIs.below HK.out hb
      have HR3 : Hid (BlkB w3 (w.heap.size + 1) 25 (zs 32)) := BlkIs.below HR.out hb
      have HM3 : Hid (BlkB w3 (w.heap.size + 1 + 1) 25 (rebN ks k)) := BlkIs.below HM.out hb
      have HW3 := Lib.hid (HW.out.trans (hb.mono HW.out.size))
      clear hb HK HR HM HW HX
      have hc := HM3.out.cell (i := k / 8) (by rw [rebN_length]; omega)
      have hf := BlkIs.frozen HM3.out (k / 8)
      have hs := HM3.out.set (k / 8) (2 * (rebN ks k).getD (k / 8) 0 + bitK ks k)
      rw [rebN_step HB.out hlt] at hs
      have HMS := Lib.hid hs
      have HG := Lib.hid (grown_setCell w3 (g := w.heap.size + 1 + 1) (k / 8) (.int .u8 ((2 * (rebN ks k).getD (k / 8) 0 + bitK ks k : Nat) : Int)))
      have hb2 : bitK ks k < 2 := bitB_lt _ _
      have hz : 2 * (rebN ks k).getD (k / 8) 0 + bitK ks k < 256 := by
        have h1 : ((rebN ks k).set (k / 8) (2 * (rebN ks k).getD (k / 8) 0 + bitK ks k)).getD (k / 8) 0 = (rebN ks (k + 1)).getD (k / 8) 0 := by rw [rebN_step HB.out hlt]
        have h2 := byte_at HB.out (k / 8)
        have h3 : (rebN ks (k + 1)).getD (k / 8) 0 ≤ ks.getD (k / 8) 0 := by
          rw [rebN_getD _ _ _ (by omega)]
          exact Nat.div_le_self _ _
        rw [← h1] at h3
        have h4 : ((rebN ks k).set (k / 8) (2 * (rebN ks k).getD (k / 8) 0 + bitK ks k)).getD (k / 8) 0 = 2 * (rebN ks k).getD (k / 8) 0 + bitK ks k := by
          simp [List.getD, rebN_length, show k / 8 < 32 by omega]
        omega
      clear hs HM3
      have HKS : Hid (BlkB (w3.setCell ⟨w.heap.size + 1 + 1, k / 8, none⟩ (.int .u8 ((2 * (rebN ks k).getD (k / 8) 0 + bitK ks k : Nat) : Int))) w.heap.size 25 ks) := BlkIs.grown HK3.out HG.out (by intro h; injection h with h; omega)
      have HRS : Hid (BlkB (w3.setCell ⟨w.heap.size + 1 + 1, k / 8, none⟩ (.int .u8 ((2 * (rebN ks k).getD (k / 8) 0 + bitK ks k : Nat) : Int))) (w.heap.size + 1) 25 (zs 32)) := BlkIs.grown HR3.out HG.out (by intro h; injection h with h; omega)
      have HWS := Lib.hid (HW3.out.grown HG.out HW3.out.size (fun j hj => by injection hj with hj; omega))
      clear HK3 HR3 HW3 HG
      generalize (rebN ks k).getD (k / 8) 0 = m at *
      have hbc : bitK ks k = 0 ∨ bitK ks k = 1 := by omega
      generalize bitK ks k = b at *
      rcases hbc with rfl | rfl
      · have e0 : ((2 * m + 0 : Nat) : Int) = 2 * (m : Int) := by omega
        rw [e0] at HMS HKS HRS HWS
        clear e0
        go_wp2_with fail
        go_roundw
        case rel => exact ⟨k + 1, by omega, by go_num, HKS.out, HRS.out, HMS.out, HWS.out⟩
        case measure => simp [intOf]; omega
      · have e0 : ((2 * m + 1 : Nat) : Int) = 2 * (m : Int) + 1 := by omega
        rw [e0] at HMS HKS HRS HWS
        clear e0
        go_wp2_with fail
        go_roundw
        case rel => exact ⟨k + 1, by omega, by go_num, HKS.out, HRS.out, HMS.out, HWS.out⟩
        case measure => simp [intOf]; omega
    · have HE : Hid (BlkB wr (w.heap.size + 1 + 1) 25 ks) := by
        have h := HM.out
        rwa [show k = 256 by omega, rebN_end HL.out] at h
      have HXE := Lib.hid (HE.out.whole HB.out HL.out)
      clear HM HX HK
      go_wp2_with (first
        | (refine wpList_load_arr (o := ⟨some 31, _, _, _, _, _⟩) (by rfl) 25 (.tmp 3) rfl ⟨w.heap.size + 1 + 1, 0, none⟩ 32 ks rfl HXE.out (by omega) row_key size_key ?_)
        | (refine storeA (o := ⟨none, _, _, _, _, _⟩) (by rfl) 25 (.tmp 2) (.tmp 31) rfl (w.heap.size + 1) 32 ks (zs 32) 25 rfl rfl HR.out size_key HL.out (zs_length 32) w.heap.size w HW.out (by omega) ?_; intro wf HRf HBf))
      exact arr_ret (g := w.heap.size + 1) (n := 32) rfl rfl HRf.out HL.out row_key size_key rfl ⟨rfl, HBf⟩
end Go.Proofs.Ytkpbeibcfaenhaa
