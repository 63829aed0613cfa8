/- batch.Common. -/
import Derived.Test.YtkpbeibcfaenhaaKeys
import Derived.Lib.BitFns
namespace Go.Proofs.Ytkpbeibcfaenhaa
open Go.RowKit
theorem bitLen_len8 : ∀ x : Fin 256, Lib.bitLen x.val = len8 x.val := by decide +kernel
theorem len8_all (x : Int) (w : World) (h0 : 0 ≤ x) (h1 : x ≤ 255) :
    Calls Try.prog 59 #[.int .u8 x] w fun e w' => e = .returned (.int .i64 (Lib.bitLen x.toNat)) ∧ w' = w := by
  rw [← Lib.len8_int x h0 h1]
  go_enter Try.func59, Try.ntmps59
  go_wp2
  go_ret
  refine ⟨?_, rfl⟩
  generalize Lib.len8 x = l
  show Ending.returned (.int .i64 (wrap64 l)) = _
  congr 2
  unfold wrap64
  omega
theorem len8_any (x : Nat) (w : World) (hx : x < 256) :
    Calls Try.prog 59 #[.int .u8 x] w fun e w' => e = .returned (.int .i64 (len8 x : Nat)) ∧ w' = w := by
  have h := len8_all (x : Int) w (by omega) (by omega)
  rw [Int.toNat_natCast, show Lib.bitLen x = len8 x from bitLen_len8 ⟨x, hx⟩] at h
  exact h
theorem lz8_any (x : Nat) (w : World) (hx : x < 256) :
    Calls Try.prog 43 #[.int .u8 x] w fun e w' => e = .returned (.int .i64 (lz8 x : Nat)) ∧ w' = w := by
  have h8 : len8 x ≤ 8 := by
    have h : ∀ x : Fin 256, len8 x.val ≤ 8 := by decide +kernel
    exact h ⟨x, hx⟩
  have HZ : Hid ((lz8 x : Int) = 8 - (len8 x : Int)) := by
    show (lz8 x : Int) = 8 - (len8 x : Int)
    unfold lz8
    omega
  have HL := Lib.hid (len8_any x w hx)
  generalize len8 x = l at *
  go_enter Try.func43, Try.ntmps43
  go_wp2_with fail
  refine HL.out.mono ?_
  rintro e w1 ⟨rfl, hw1⟩
  rw [hw1]
  clear hw1
  go_wp2_with fail
  go_ret
  exact ⟨by rw [HZ.out]; rfl, rfl⟩
theorem key_eq (w : World) (xs ys : List Nat) (hx : IsB xs) (hy : IsB ys) (hxl : xs.length = 32) (hyl : ys.length = 32) : (Op.equalIn 10000 25 (.agg (bvs xs).toArray) (.agg (bvs ys).toArray)).run Try.prog w = .ok (decide (xs = ys)) w := by
  rw [show (10000 : Nat) = 9998 + 2 from rfl, eq_arr w 9998 25 5 32 und_key (by kernel_rfl) byte_sizeOf hx hy hxl hyl]
set_option maxRecDepth 100000 in
set_option maxHeartbeats 800000 in
theorem common_same (ks : List Nat) (w : World) (hB : IsB ks) (hl : ks.length = 32) :
    Calls Try.prog 18 #[.agg (bvs ks).toArray, .agg (bvs ks).toArray] w fun e w' => e = .returned (.int .i64 256) ∧ Below w.heap.size w w' := by
  have HB := Lib.hid hB
  have HL := Lib.hid hl
  have HE : Hid (∀ w, (Op.equalIn 10000 25 (.agg (bvs ks).toArray) (.agg (bvs ks).toArray)).run Try.prog w = .ok true w) := fun w => by rw [key_eq w ks ks hB hB hl hl]; simp
  clear hB hl
  have HW := Lib.hid (((Below.refl w.heap.size w).alloc (Nat.le_refl _) (.cells (bvs ks).toArray 25)).alloc (by simp) (.cells (bvs ks).toArray 25))
  have HX : Hid (RB ((w.alloc (.cells (bvs ks).toArray 25)).alloc (.cells (bvs ks).toArray 25)) (some ⟨w.heap.size, 0, none⟩) 32 ks) := BlkB.whole (BlkIs.alloc (BlkIs.new w 25 _) _) HB.out HL.out
  have HY : Hid (RB ((w.alloc (.cells (bvs ks).toArray 25)).alloc (.cells (bvs ks).toArray 25)) (some ⟨w.heap.size + 1, 0, none⟩) 32 ks) := BlkB.whole (blk_at w _ 1 _ _ (by simp)) HB.out HL.out
  have he := HE.out
  go_enter Try.func18, Try.ntmps18
  go_wp2_with (first
    | (refine wpList_load_arr (o := ⟨some 7, _, _, _, _, _⟩) (by rfl) 25 (.tmp 2) rfl ⟨w.heap.size, 0, none⟩ 32 ks rfl HX.out (by omega) row_key size_key ?_)
    | (refine wpList_load_arr (o := ⟨some 8, _, _, _, _, _⟩) (by rfl) 25 (.tmp 3) rfl ⟨w.heap.size + 1, 0, none⟩ 32 ks rfl HY.out (by omega) row_key size_key ?_))
  go_ret
  exact ⟨rfl, HW.out⟩
set_option maxRecDepth 100000 in
set_option maxHeartbeats 1600000 in
theorem common_diff (ds es : List Nat) (d : Nat) (w : World) (hB : IsB ds) (hl : ds.length = 32) (hB2 : IsB es) (hl2 : es.length = 32) (hd : Diff ds es d) :
    Calls Try.prog 18 #[.agg (bvs ds).toArray, .agg (bvs es).toArray] w fun e w' => e = .returned (.int .i64 (comN ds es d : Nat)) ∧ Below w.heap.size w w' := by
  have HB := Lib.hid hB
  have HL := Lib.hid hl
  have HB2 := Lib.hid hB2
  have HL2 := Lib.hid hl2
  have HD := Lib.hid hd
  have HE : Hid (∀ w, (Op.equalIn 10000 25 (.agg (bvs ds).toArray) (.agg (bvs es).toArray)).run Try.prog w = .ok false w) := fun w => by
    rw [key_eq w ds es hB hB2 hl hl2, decide_eq_false (fun h => hd.2.2 (by rw [h]))]
  clear hB hl hB2 hl2 hd
  have HX : Hid (BlkB ((w.alloc (.cells (bvs ds).toArray 25)).alloc (.cells (bvs es).toArray 25)) w.heap.size 25 ds) := BlkIs.alloc (BlkIs.new w 25 _) _
  have HY : Hid (BlkB ((w.alloc (.cells (bvs ds).toArray 25)).alloc (.cells (bvs es).toArray 25)) (w.heap.size + 1) 25 es) := blk_at w _ 1 _ _ (by simp)
  have he := HE.out
  go_enter Try.func18, Try.ntmps18
  go_wp2_with (first
    | (refine wpList_load_arr (o := ⟨some 7, _, _, _, _, _⟩) (by rfl) 25 (.tmp 2) rfl ⟨w.heap.size, 0, none⟩ 32 ds rfl (HX.out.whole HB.out HL.out) (by omega) row_key size_key ?_)
    | (refine wpList_load_arr (o := ⟨some 8, _, _, _, _, _⟩) (by rfl) 25 (.tmp 3) rfl ⟨w.heap.size + 1, 0, none⟩ 32 es rfl (HY.out.whole HB2.out HL2.out) (by omega) row_key size_key ?_))
  have HW : Hid (Below w.heap.size w ((w.alloc (.cells (bvs ds).toArray 25)).alloc (.cells (bvs es).toArray 25))) := ((Below.refl w.heap.size w).alloc (Nat.le_refl _) _).alloc (by simp) _
  generalize (w.alloc (.cells (bvs ds).toArray 25)).alloc (.cells (bvs es).toArray 25) = w2 at *
  clear he HE
  go_loopw [10] (fun i wr => ∃ k : Nat, k ≤ d ∧ i = .int .i64 k ∧ Hid (BlkB wr w.heap.size 25 ds) ∧ Hid (BlkB wr (w.heap.size + 1) 25 es) ∧ Hid (Below w.heap.size w wr)) (fun i _ => 32 - (intOf i).toNat)
  case atStart => exact ⟨0, by omega, rfl, HX.out, HY.out, HW.out⟩
  case round =>
    clear HX HY HW
    obtain ⟨k, hk, rfl, HX, HY, HW⟩ := hrel
    have hd32 : d < 32 := HD.out.1
    have hc1 := HX.out.cell (i := k) (by rw [HL.out]; omega)
    have hc2 := HY.out.cell (i := k) (by rw [HL2.out]; omega)
    have h1 := byte_at HB.out k
    have h2 := byte_at HB2.out k
    have hx := xor8 (ds.getD k 0) (es.getD k 0) h1 h2
    by_cases hlt : k < d
    · have he := HD.out.2.1 k hlt
      rw [he, Nat.xor_self] at hx
      rw [he] at hc1
      clear h1 he
      generalize es.getD k 0 = y at *
      go_wp2_with fail
      go_region
      go_wp2_with fail
      go_roundw
      case rel => exact ⟨k + 1, by omega, by go_num, HX.out, HY.out, drewN_below HW.out 1⟩
      case measure => simp [intOf]; omega
    · obtain rfl : k = d := by omega
      have hne := HD.out.2.2
      have hz8 : ds.getD k 0 ^^^ es.getD k 0 < 256 := Nat.xor_lt_two_pow (n := 8) h1 h2
      have hz0 : ¬ ds.getD k 0 ^^^ es.getD k 0 = 0 := fun h => hne (xor_zero_eq h)
      obtain ⟨z, HZ⟩ : ∃ z, Hid (ds.getD k 0 ^^^ es.getD k 0 = z) := ⟨_, rfl⟩
      rw [HZ.out] at hx hz8 hz0
      have hn0 : ((z : Int) != 0) = true := by rw [bne_iff_ne]; omega
      have HLZ := Lib.hid (fun w => lz8_any z w hz8)
      have hlz : lz8 z ≤ 8 := by unfold lz8; omega
      have HCN : Hid (comN ds es k = 8 * k + lz8 z) := by
        show _ = _
        rw [← HZ.out]
        rfl
      generalize lz8 z = l at *
      clear hne hz0
      generalize ds.getD k 0 = x at *
      generalize es.getD k 0 = y at *
      go_wp2_with fail
      go_region
      go_wp2_with fail
      refine (HLZ.out _).mono ?_
      rintro e w3 ⟨rfl, hw3⟩
      rw [hw3]
      clear hw3
      go_wp2_with fail
      go_ret
      exact ⟨by rw [HCN.out]; rfl, drewN_below HW.out 1⟩
end Go.Proofs.Ytkpbeibcfaenhaa
