/- ledgerref3.Bit, Common, Compare. -/
import Derived.Test.YtkpbeibcfaenhaaCommon
import Derived.Test.YtkpbeibcfaenhaaCompare
import Derived.Test.YtkpbeibcfaenhaaGa
namespace Go.Proofs.Ytkpbeibcfaenhaa
open Go.RowKit
theorem half_next {x j i : Nat} (h : i ≤ j) : x / 2 ^ (j - i) / 2 = x / 2 ^ (j + 1 - i) := by
  rw [show j + 1 - i = (j - i) + 1 by omega, Nat.pow_succ, Nat.div_div_eq_div_mul]
set_option maxRecDepth 100000 in
theorem refbit_in (ks : List Nat) (i : Nat) (w : World) (hB : IsB ks) (hl : ks.length = 32) (hi : i < 256) :
    Calls Try.prog 78 #[.agg (bvs ks).toArray, .int .i64 i] w fun e w' => e = .returned (.int .i64 (bitK ks i : Nat)) ∧ Below w.heap.size w w' := by
  have hc := BlkB.cell (BlkIs.new w 25 (bvs ks).toArray : BlkB _ _ _ ks) (i := i / 8) (by omega)
  have hx8 := byte_at hB (i / 8)
  have HBK : Hid (bitK ks i = ks.getD (i / 8) 0 / 2 ^ (7 - i % 8) % 2) := rfl
  have HW := Lib.hid ((Below.refl w.heap.size w).alloc (Nat.le_refl _) (.cells (bvs ks).toArray 25))
  clear hB hl
  generalize ks.getD (i / 8) 0 = x at *
  generalize bitK ks i = z at *
  generalize hww : w.alloc (.cells (bvs ks).toArray 25) = w1 at *
  have hq : ((i : Int).tdiv 8) = ((i / 8 : Nat) : Int) := by rw [Int.tdiv_eq_ediv_of_nonneg (by omega)]; rfl
  have hr : ((i : Int).tmod 8) = ((i % 8 : Nat) : Int) := by rw [Int.tmod_eq_emod_of_nonneg (by omega)]; rfl
  have h00 : ¬ (i : Int) < 0 := by omega
  have h255 : ¬ (255 : Int) < (i : Int) := by omega
  go_enter Try.func78, Try.ntmps78
  go_wp2_with fail
  clear hq hr h00 h255 hc hww
  go_loopw [5, 6] (fun v j wr => ∃ k : Nat, i % 8 ≤ k ∧ k ≤ 7 ∧ j = .int .i64 k ∧ v = .int .i64 ((x / 2 ^ (k - i % 8) : Nat) : Int) ∧ wr = w1) (fun _ j _ => 8 - (intOf j).toNat)
  case atStart => exact ⟨i % 8, by omega, by omega, rfl, by rw [Nat.sub_self]; simp, rfl⟩
  case round =>
    obtain ⟨k, hk1, hk2, rfl, rfl, rfl⟩ := hrel
    have hd8 : x / 2 ^ (k - i % 8) < 256 := Nat.lt_of_le_of_lt (Nat.div_le_self _ _) hx8
    by_cases hlt : k < 7
    · have HN := Lib.hid (half_next (x := x) hk1)
      have hlt' : (k : Int) < 7 := by omega
      generalize x / 2 ^ (k - i % 8) = y at *
      have hq2 : ((y : Int).tdiv 2) = ((y / 2 : Nat) : Int) := by rw [Int.tdiv_eq_ediv_of_nonneg (by omega)]; rfl
      go_wp2_with fail
      go_roundw
      case rel => exact ⟨k + 1, by omega, by omega, by go_num, by rw [← HN.out]; simp, trivial⟩
      case measure => simp [intOf]; omega
    · obtain rfl : k = 7 := by omega
      generalize x / 2 ^ (7 - i % 8) = y at *
      have hr2 : ((y : Int).tmod 2) = ((y % 2 : Nat) : Int) := by rw [Int.tmod_eq_emod_of_nonneg (by omega)]; rfl
      go_wp2_with fail
      go_ret
      exact ⟨by rw [HBK.out]; simp, HW.out⟩
theorem refbit_out (ks : List Nat) (i : Int) (w : World) (hi : i < 0 ∨ 256 ≤ i) :
    Calls Try.prog 78 #[.agg (bvs ks).toArray, .int .i64 i] w fun e w' => e = .returned (.int .i64 0) ∧ Below w.heap.size w w' := by
  go_enter Try.func78, Try.ntmps78
  go_wp2_with fail
  all_goals
    go_ret
    exact ⟨rfl, (Below.refl _ _).alloc (Nat.le_refl _) _⟩
set_option maxRecDepth 100000 in
set_option maxHeartbeats 1600000 in
theorem refcommon_any (ds es : List Nat) (n : Nat) (w : World) (hB : IsB ds) (hl : ds.length = 32) (hB2 : IsB es) (hl2 : es.length = 32) (hn : n ≤ 256) (hs : ∀ j, j < n → bitK ds j = bitK es j) (hd : n < 256 → ¬ bitK ds n = bitK es n) :
    Calls Try.prog 79 #[.agg (bvs ds).toArray, .agg (bvs es).toArray] w fun e w' => e = .returned (.int .i64 n) ∧ Below w.heap.size w w' := by
  have HB := Lib.hid hB
  have HL := Lib.hid hl
  have HB2 := Lib.hid hB2
  have HL2 := Lib.hid hl2
  have HS := Lib.hid hs
  have HD := Lib.hid hd
  clear hB hl hB2 hl2 hs hd
  go_enter Try.func79, Try.ntmps79
  go_wp2_with (first
    | ((with_reducible refine stopAt (o := ⟨some 2, _, _, _, _, _⟩) ?_); refine boxNew (o := ⟨some 2, _, _, _, _, _⟩) (by rfl) 25 (.tmp 0) rfl _ rfl ?_; intro w1 HA1 HW1 HS1)
    | ((with_reducible refine stopAt (o := ⟨some 3, _, _, _, _, _⟩) ?_); refine boxNew (o := ⟨some 3, _, _, _, _, _⟩) (by rfl) 25 (.tmp 1) rfl _ rfl ?_; intro w2 HA2 HW2 HS2))
  have HX : Hid (BlkB w2 w.heap.size 25 ds) := BlkIs.below HA1.out HW2.out
  have HY : Hid (BlkB w2 w1.heap.size 25 es) := HA2.out
  have HW := Lib.hid (HW1.out.trans (HW2.out.mono HW1.out.size))
  clear HA1 HA2 HW1 HW2 HS1 HS2
  go_loopw [5] (fun i wr => ∃ k : Nat, k ≤ n ∧ i = .int .i64 k ∧ Hid (BlkB wr w.heap.size 25 ds) ∧ Hid (BlkB wr w1.heap.size 25 es) ∧ Hid (Below w.heap.size w wr)) (fun i _ => 257 - (intOf i).toNat)
  case atStart => exact ⟨0, by omega, rfl, HX.out, HY.out, HW.out⟩
  case round =>
    clear HX HY HW
    obtain ⟨k, hk, rfl, HX, HY, HW⟩ := hrel
    by_cases h256 : k < 256
    · have hk2 : (k : Int) < 256 := by omega
      go_wp2_with (refine wpList_load_arr (o := ⟨some 12, _, _, _, _, _⟩) (by rfl) 25 (.tmp 2) rfl ⟨w.heap.size, 0, none⟩ 32 ds rfl (HX.out.whole HB.out HL.out) (by omega) row_key size_key ?_)
      refine (refbit_in ds k wr HB.out HL.out h256).mono ?_
      rintro e w3 ⟨rfl, hb⟩
      have HX3 : Hid (BlkB w3 w.heap.size 25 ds) := BlkIs.below HX.out hb
      have HY3 : Hid (BlkB w3 w1.heap.size 25 es) := BlkIs.below HY.out hb
      have HW3 := Lib.hid (HW.out.trans (hb.mono HW.out.size))
      clear hb HX HY HW
      go_wp2_with (refine wpList_load_arr (o := ⟨some 15, _, _, _, _, _⟩) (by rfl) 25 (.tmp 3) rfl ⟨w1.heap.size, 0, none⟩ 32 es rfl (HY3.out.whole HB2.out HL2.out) (by omega) row_key size_key ?_)
      refine (refbit_in es k w3 HB2.out HL2.out h256).mono ?_
      rintro e w4 ⟨rfl, hb⟩
      have HX4 : Hid (BlkB w4 w.heap.size 25 ds) := BlkIs.below HX3.out hb
      have HY4 : Hid (BlkB w4 w1.heap.size 25 es) := BlkIs.below HY3.out hb
      have HW4 := Lib.hid (HW3.out.trans (hb.mono HW3.out.size))
      clear hb HX3 HY3 HW3
      by_cases hlt : k < n
      · have hs := HS.out k hlt
        rw [hs]
        clear hs
        generalize bitK es k = z
        go_wp2_with fail
        go_roundw
        case rel => exact ⟨k + 1, by omega, by go_num, HX4.out, HY4.out, HW4.out⟩
        case measure => simp [intOf]; omega
      · obtain rfl : k = n := by omega
        have hd := HD.out h256
        generalize bitK es k = z at *
        generalize bitK ds k = y at *
        have hne : ¬ (y : Int) = (z : Int) := by omega
        have hne2 : ((y : Int) != (z : Int)) = true := by rw [bne_iff_ne]; exact hne
        go_wp2_with fail
        go_ret
        exact ⟨rfl, HW4.out⟩
    · obtain rfl : k = 256 := by omega
      obtain rfl : n = 256 := by omega
      go_wp2_with fail
      go_ret
      exact ⟨rfl, HW.out⟩
set_option maxRecDepth 100000 in
set_option maxHeartbeats 1600000 in
theorem refcompare_any (ds es : List Nat) (n : Nat) (z : Int) (w : World) (hB : IsB ds) (hl : ds.length = 32) (hB2 : IsB es) (hl2 : es.length = 32) (hn : n ≤ 32) (hs : ∀ j, j < n → ds.getD j 0 = es.getD j 0) (hd : n < 32 → ¬ ds.getD n 0 = es.getD n 0)
    (h32 : n = 32 → z = 0) (hz : n < 32 → z = if ds.getD n 0 < es.getD n 0 then -1 else 1) :
    Calls Try.prog 80 #[.agg (bvs ds).toArray, .agg (bvs es).toArray] w fun e w' => e = .returned (.int .i64 z) ∧ Below w.heap.size w w' := by
  have HB := Lib.hid hB
  have HL := Lib.hid hl
  have HB2 := Lib.hid hB2
  have HL2 := Lib.hid hl2
  have HS := Lib.hid hs
  have HD := Lib.hid hd
  have HZ := Lib.hid hz
  have H32 := Lib.hid h32
  clear hB hl hB2 hl2 hs hd hz h32
  go_enter Try.func80, Try.ntmps80
  go_wp2_with (first
    | ((with_reducible refine stopAt (o := ⟨some 2, _, _, _, _, _⟩) ?_); refine boxNew (o := ⟨some 2, _, _, _, _, _⟩) (by rfl) 25 (.tmp 0) rfl _ rfl ?_; intro w1 HA1 HW1 HS1)
    | ((with_reducible refine stopAt (o := ⟨some 3, _, _, _, _, _⟩) ?_); refine boxNew (o := ⟨some 3, _, _, _, _, _⟩) (by rfl) 25 (.tmp 1) rfl _ rfl ?_; intro w2 HA2 HW2 HS2))
  have HX : Hid (BlkB w2 w.heap.size 25 ds) := BlkIs.below HA1.out HW2.out
  have HY : Hid (BlkB w2 w1.heap.size 25 es) := HA2.out
  have HW := Lib.hid (HW1.out.trans (HW2.out.mono HW1.out.size))
  clear HA1 HA2 HW1 HW2 HS1 HS2
  go_loopw [5] (fun i wr => ∃ k : Nat, k ≤ n ∧ i = .int .i64 k ∧ Hid (BlkB wr w.heap.size 25 ds) ∧ Hid (BlkB wr w1.heap.size 25 es) ∧ Hid (Below w.heap.size w wr)) (fun i _ => 33 - (intOf i).toNat)
  case atStart => exact ⟨0, by omega, rfl, HX.out, HY.out, HW.out⟩
  case round =>
    clear HX HY HW
    obtain ⟨k, hk, rfl, HX, HY, HW⟩ := hrel
    by_cases h32 : k < 32
    · have hk2 : (k : Int) < 32 := by omega
      have hc1 := HX.out.cell (i := k) (by rw [HL.out]; omega)
      have hc2 := HY.out.cell (i := k) (by rw [HL2.out]; omega)
      by_cases hlt : k < n
      · have hs := HS.out k hlt
        rw [hs] at hc1
        clear hs
        generalize es.getD k 0 = y at *
        go_wp2_with fail
        go_quiet (fail)
        go_wp2_with fail
        go_roundw
        case rel => exact ⟨k + 1, by omega, by go_num, HX.out, HY.out, drewN_below HW.out _⟩
        case measure => simp [intOf]; omega
      · obtain rfl : k = n := by omega
        have hd := HD.out h32
        have hz := HZ.out h32
        generalize es.getD k 0 = y at *
        generalize ds.getD k 0 = x at *
        have hne : ¬ (x : Int) = (y : Int) := by omega
        have hne2 : ((x : Int) != (y : Int)) = true := by rw [bne_iff_ne]; exact hne
        by_cases hxy : x < y
        · rw [if_pos hxy] at hz
          have hxy2 : decide ((x : Int) < (y : Int)) = true := decide_eq_true (by omega)
          subst hz
          go_wp2_with fail
          go_quiet (fail)
          go_wp2_with fail
          go_quiet (fail)
          go_wp2_with fail
          go_ret
          exact ⟨rfl, drewN_below (drewN_below HW.out _) _⟩
        · rw [if_neg hxy] at hz
          have hxy2 : decide ((x : Int) < (y : Int)) = false := decide_eq_false (by omega)
          subst hz
          go_wp2_with fail
          go_quiet (fail)
          go_wp2_with fail
          go_quiet (fail)
          go_wp2_with fail
          go_ret
          exact ⟨rfl, drewN_below (drewN_below HW.out _) _⟩
    · have hk32 : k = 32 := by omega
      have hz := H32.out (by omega)
      subst hz
      have hk2 : ¬ (k : Int) < 32 := by omega
      go_wp2_with fail
      go_ret
      exact ⟨rfl, HW.out⟩
end Go.Proofs.Ytkpbeibcfaenhaa
