/- math/bits.RotateLeft32 and ledgerref1.turn. -/
import Derived.Test.YtadhjgopekekgaaDoorChecked
import Derived.Test.YtadhjgopekekgaaDoorSha
import Derived.Test.YtadhjgopekekgaaDoorBits
namespace Go.Proofs.YtadhjgopekekgaaDoor
open Go.RowKit
theorem or32 (a b : Nat) (ha : a < 4294967296) (hb : b < 4294967296) : bits .or .u32 (a : Int) (b : Int) = ((a ||| b : Nat) : Int) := u32_or_nat a b ha hb
theorem and32 (a b : Nat) (ha : a < 4294967296) (hb : b < 4294967296) : bits .and .u32 (a : Int) (b : Int) = ((a &&& b : Nat) : Int) := u32_and_nat a b ha hb
theorem down31 : ∀ n : Fin 32, n.val ≠ 0 → bits .and .u64 (IntKind.u64.wrap (-(n.val : Int))) 31 = ((32 - n.val : Nat) : Int) := by decide +kernel
theorem rot_bits (x n m : Nat) (hx : x < 4294967296) (hm : 32 - n = m) : bits .or .u32 ((x : Int) * 2 ^ m % 4294967296) ((x : Int) / 2 ^ n) = ((rot x n : Nat) : Int) := by
  have e1 : ((x : Int) * 2 ^ m % 4294967296) = ((x * 2 ^ m % 4294967296 : Nat) : Int) := by simp
  have e2 : ((x : Int) / 2 ^ n) = ((x / 2 ^ n : Nat) : Int) := by simp
  rw [e1, e2, or32 _ _ (Nat.mod_lt _ (by decide)) (div_lt32 hx n), ← hm]
  rfl
theorem rot_bits' (x n m : Nat) (hx : x < 4294967296) (hm : 32 - n = m) : bits .or .u32 ((x : Int) / 2 ^ n) ((x : Int) * 2 ^ m % 4294967296) = ((rot x n : Nat) : Int) := by
  have e1 : ((x : Int) * 2 ^ m % 4294967296) = ((x * 2 ^ m % 4294967296 : Nat) : Int) := by simp
  have e2 : ((x : Int) / 2 ^ n) = ((x / 2 ^ n : Nat) : Int) := by simp
  rw [e1, e2, or32 _ _ (div_lt32 hx n) (Nat.mod_lt _ (by decide)), ← hm, rot_comm]
set_option maxHeartbeats 400000 in
theorem rotl_any (x n : Nat) (w : World) (hx : x < 4294967296) (h0 : 1 ≤ n) (h1 : n ≤ 31) :
    Calls Tryd.prog 29 #[.int .u32 x, .int .i64 (-(n : Int))] w fun e w' => e = .returned (.int .u32 (rot x n : Nat)) ∧ w' = w := by
  have hd := down31 ⟨n, by omega⟩ (by show n ≠ 0; omega)
  simp only at hd
  obtain ⟨m, hm⟩ : ∃ m : Nat, 32 - n = m := ⟨_, rfl⟩
  rw [hm] at hd
  have hm31 : m ≤ 31 := by omega
  have hm1 : 1 ≤ m := by omega
  have HR : Hid (bits .or .u32 ((x : Int) * 2 ^ m % 4294967296) ((x : Int) / 2 ^ (32 - m)) = ((rot x n : Nat) : Int)) := by
    show _ = _
    rw [show 32 - m = n by omega]
    exact rot_bits x n m hx hm
  clear hm h0 h1
  go_enter Tryd.func29, Tryd.ntmps29
  go_wp2_with fail
  go_ret
  exact ⟨by rw [← HR.out]; rfl, rfl⟩
theorem turn_any (x n : Nat) (w : World) (hx : x < 4294967296) (h0 : 1 ≤ n) (h1 : n ≤ 31) :
    Calls Tryd.prog 28 #[.int .u32 x, .int .u64 n] w fun e w' => e = .returned (.int .u32 (rot x n : Nat)) ∧ w' = w := by
  have HR : Hid (bits .or .u32 ((x : Int) / 2 ^ n) ((x : Int) * 2 ^ (32 - n) % 4294967296) = ((rot x n : Nat) : Int)) := rot_bits' x n _ hx rfl
  go_enter Tryd.func28, Tryd.ntmps28
  go_wp2_with fail
  go_ret
  exact ⟨by rw [← HR.out]; rfl, rfl⟩
end Go.Proofs.YtadhjgopekekgaaDoor
