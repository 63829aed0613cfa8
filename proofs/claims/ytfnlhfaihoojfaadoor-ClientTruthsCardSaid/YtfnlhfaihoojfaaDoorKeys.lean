/- batch.Bit. -/
import Derived.Test.YtfnlhfaihoojfaaDoorArr
import Derived.Test.YtfnlhfaihoojfaaDoorPathN
import Derived.Test.YtfnlhfaihoojfaaDoorMa
namespace Go.Proofs.YtfnlhfaihoojfaaDoor
open Go.RowKit
theorem info_key : (Tryd.prog.info? 31).map (fun i => (i.zero, i.size)) = some (some (.agg (zarr 32)), 32) := by kernel_rfl
theorem row_key : (Tryd.prog.underlying 31).map (·.isRow) = some true := by kernel_rfl
theorem size_key : (Tryd.prog.info? 31).map (·.size) = some 32 := (zero_of_info info_key).2
theorem und_key : Tryd.prog.underlying 31 = some (.array 32 5) := by kernel_rfl
theorem and64_7 (a : Nat) (ha : a < 9223372036854775808) : bits .and .i64 (a : Int) 7 = ((a % 8 : Nat) : Int) := by
  show IntKind.i64.wrap ((BitVec.ofInt 64 (a : Int) &&& BitVec.ofInt 64 ((7 : Nat) : Int)).toNat : Int) = _
  rw [BitVec.toNat_and, ofInt64 a ha, ofInt64 7 (by omega), IntKind.wrap_i64, Nat.and_two_pow_sub_one_eq_mod a 3]
  omega
set_option maxHeartbeats 400000 in
theorem bit_in (ks : List Nat) (i : Nat) (w : World) (hB : IsB ks) (hl : ks.length = 32) (hi : i < 256) :
    Calls Tryd.prog 80 #[.agg (bvs ks).toArray, .int .i64 i] w fun e w' => e = .returned (.int .i64 (bitK ks i : Nat)) ∧ Below w.heap.size w w' := by
  have hc := BlkB.cell (BlkIs.new w 31 (bvs ks).toArray : BlkB _ _ _ ks) (i := i / 8) (by omega)
  have hx8 := byte_at hB (i / 8)
  have h7 := and64_7 i (by omega)
  have h1 := and64_1 (ks.getD (i / 8) 0 / 2 ^ (7 - i % 8)) (Nat.lt_of_le_of_lt (Nat.div_le_self _ _) (by omega))
  have HBK : Hid (bitK ks i = ks.getD (i / 8) 0 / 2 ^ (7 - i % 8) % 2) := rfl
  clear hB hl
  generalize ks.getD (i / 8) 0 = x at *
  go_enter Tryd.func80, Tryd.ntmps80
  have HF : Hid (bits .and .i64 (wrap64 ((x : Int) / 2 ^ (7 - i % 8))) 1 = ((x / 2 ^ (7 - i % 8) % 2 : Nat) : Int)) := by
    show _ = _
    have e : ((x : Int) / 2 ^ (7 - i % 8)) = ((x / 2 ^ (7 - i % 8) : Nat) : Int) := by simp
    have hb : x / 2 ^ (7 - i % 8) < 256 := Nat.lt_of_le_of_lt (Nat.div_le_self _ _) hx8
    rw [e, ← h1]
    congr 1
    generalize x / 2 ^ (7 - i % 8) = y at hb
    unfold wrap64
    omega
  clear h1
  go_wp2_with fail
  go_ret
  exact ⟨by rw [HBK.out, ← HF.out]; rfl, (Below.refl _ _).alloc (Nat.le_refl _) _⟩
theorem bit_out (ks : List Nat) (i : Int) (w : World) (hi : i < 0 ∨ 256 ≤ i) :
    Calls Tryd.prog 80 #[.agg (bvs ks).toArray, .int .i64 i] w fun e w' => e = .returned (.int .i64 0) ∧ Below w.heap.size w w' := by
  go_enter Tryd.func80, Tryd.ntmps80
  go_wp2_with fail
  all_goals
    go_ret
    exact ⟨rfl, (Below.refl _ _).alloc (Nat.le_refl _) _⟩
theorem key_eq (w : World) (xs ys : List Nat) (hx : IsB xs) (hy : IsB ys) (hxl : xs.length = 32) (hyl : ys.length = 32) : (Op.equalIn 10000 31 (.agg (bvs xs).toArray) (.agg (bvs ys).toArray)).run Tryd.prog w = .ok (decide (xs = ys)) w := by
  rw [show (10000 : Nat) = 9998 + 2 from rfl, eq_arr w 9998 31 5 32 und_key (by kernel_rfl) byte_sizeOf hx hy hxl hyl]
theorem und_dig : Tryd.prog.underlying 29 = some (.array 32 5) := by kernel_rfl
theorem dig_eq (w : World) (xs ys : List Nat) (hx : IsB xs) (hy : IsB ys) (hxl : xs.length = 32) (hyl : ys.length = 32) : (Op.equalIn 10000 29 (.agg (bvs xs).toArray) (.agg (bvs ys).toArray)).run Tryd.prog w = .ok (decide (xs = ys)) w := by
  rw [show (10000 : Nat) = 9998 + 2 from rfl, eq_arr w 9998 29 5 32 und_dig (by kernel_rfl) byte_sizeOf hx hy hxl hyl]
end Go.Proofs.YtfnlhfaihoojfaaDoor
