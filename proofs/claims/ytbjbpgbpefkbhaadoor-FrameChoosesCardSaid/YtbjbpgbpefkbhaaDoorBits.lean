/- Bits of numbers below 2^32 and 2^8, in the walk's own spelling. No program is named here. -/
import Derived.WalkKit
import Derived.Test.YtbjbpgbpefkbhaaDoorCrc
namespace Go.Proofs.YtbjbpgbpefkbhaaDoor
theorem xor32 (a b : Nat) (ha : a < 4294967296) (hb : b < 4294967296) : bits .xor .u32 (a : Int) (b : Int) = ((a ^^^ b : Nat) : Int) := u32_xor_nat a b ha hb
theorem and32_15 (a : Nat) (ha : a < 4294967296) : bits .and .u32 (a : Int) 15 = ((a % 16 : Nat) : Int) := by
  have := u32_and_nat a 15 ha (by omega)
  rw [show ((15 : Nat) : Int) = 15 from rfl, Nat.and_two_pow_sub_one_eq_mod a 4] at this
  exact this
theorem and32_1 (a : Nat) (ha : a < 4294967296) : bits .and .u32 (a : Int) 1 = ((a % 2 : Nat) : Int) := by
  have := u32_and_nat a 1 ha (by omega)
  rw [show ((1 : Nat) : Int) = 1 from rfl, Nat.and_two_pow_sub_one_eq_mod a 1] at this
  exact this
theorem xor_lt32 {a b : Nat} (ha : a < 4294967296) (hb : b < 4294967296) : a ^^^ b < 4294967296 := Nat.xor_lt_two_pow (n := 32) ha hb
theorem xor_lt8 {a b : Nat} (ha : a < 256) (hb : b < 256) : a ^^^ b < 256 := Nat.xor_lt_two_pow (n := 8) ha hb
theorem xor8 (a b : Nat) (ha : a < 256) (hb : b < 256) : bits .xor .u8 (a : Int) (b : Int) = ((a ^^^ b : Nat) : Int) := u8_xor_nat a b ha hb
/-- The complement. -/
theorem not32 (a : Nat) (ha : a < 4294967296) : bits .xor .u32 4294967295 (a : Int) = ((4294967295 - a : Nat) : Int) := by
  have h := u32_xor_nat 4294967295 a (by omega) ha
  rw [show ((4294967295 : Nat) : Int) = 4294967295 from rfl] at h
  rw [h]
  congr 1
  apply Nat.eq_of_testBit_eq
  intro i
  rw [Nat.testBit_xor, show 4294967295 = 2 ^ 32 - 1 from rfl, Nat.testBit_two_pow_sub_one, show 2 ^ 32 - 1 - a = 2 ^ 32 - (a + 1) by omega, Nat.testBit_two_pow_sub_succ (by omega : a < 2 ^ 32)]
  by_cases h : i < 32
  · simp [h]
  · have h2 : 2 ^ 32 ≤ 2 ^ i := Nat.pow_le_pow_right (by decide) (by omega)
    have : a.testBit i = false := Nat.testBit_lt_two_pow (Nat.lt_of_lt_of_le ha h2)
    simp [h, this]
theorem not32c (a : Nat) (ha : a < 4294967296) : bits .xor .u32 4294967295 (a : Int) = ((comp a : Nat) : Int) := not32 a ha
/-- One bit of a byte turned, in the walk's own spelling. -/
theorem xorbit8 (x m : Nat) (hx : x < 256) : bits .xor .u8 (x : Int) (2 ^ (m % 8) % 256) = ((x ^^^ 2 ^ (m % 8) : Nat) : Int) := by
  have hp : 2 ^ (m % 8) < 256 := Nat.pow_lt_pow_right (a := 2) (n := 8) (by omega) (by omega)
  have h : ((2 : Int) ^ (m % 8) % 256) = ((2 ^ (m % 8) : Nat) : Int) := by
    have h1 : ((2 ^ (m % 8) : Nat) : Int) = (2 : Int) ^ (m % 8) := by simp
    rw [← h1]
    generalize 2 ^ (m % 8) = p at hp
    omega
  rw [h]
  exact xor8 _ _ hx hp
/-- A bit of a number below 2^32, in the walk's own spelling. -/
theorem bit32 (pat i : Nat) (hp : pat < 4294967296) : bits .and .u32 ((pat : Int) / 2 ^ i) 1 = ((pat / 2 ^ i % 2 : Nat) : Int) := by
  have h1 : ((pat : Int) / 2 ^ i) = ((pat / 2 ^ i : Nat) : Int) := by simp
  rw [h1]
  exact and32_1 _ (Nat.lt_of_le_of_lt (Nat.div_le_self _ _) hp)
theorem ofInt64 (a : Nat) (ha : a < 9223372036854775808) : (BitVec.ofInt 64 (a : Int)).toNat = a := by
  rw [BitVec.ofInt_natCast, BitVec.toNat_ofNat]
  exact Nat.mod_eq_of_lt (by omega)
/-- The lowest bit of an int. -/
theorem and64_1 (a : Nat) (ha : a < 9223372036854775808) : bits .and .i64 (a : Int) 1 = ((a % 2 : Nat) : Int) := by
  show IntKind.i64.wrap ((BitVec.ofInt 64 (a : Int) &&& BitVec.ofInt 64 ((1 : Nat) : Int)).toNat : Int) = _
  rw [BitVec.toNat_and, ofInt64 a ha, ofInt64 1 (by omega), IntKind.wrap_i64, Nat.and_two_pow_sub_one_eq_mod a 1]
  omega
/-- A bit of a byte, in the walk's own spelling. -/
theorem bit8 (x j : Nat) (hx : x < 256) : bits .and .u8 ((x : Int) / 2 ^ j) 1 = ((x / 2 ^ j % 2 : Nat) : Int) := by
  have h1 : ((x : Int) / 2 ^ j) = ((x / 2 ^ j : Nat) : Int) := by simp
  rw [h1]
  have := u8_and_nat (x / 2 ^ j) 1 (Nat.lt_of_le_of_lt (Nat.div_le_self _ _) hx) (by omega)
  rw [show ((1 : Nat) : Int) = 1 from rfl, Nat.and_two_pow_sub_one_eq_mod (x / 2 ^ j) 1] at this
  exact this
/-- A bit laid at place i over the lower ones, in the walk's own spelling. -/
theorem or32bit (r b i : Nat) (hr : r < 2 ^ i) (hb : b < 2) (hi : i < 32) : bits .or .u32 (r : Int) ((b : Int) * 2 ^ i % 4294967296) = ((r + b * 2 ^ i : Nat) : Int) := by
  have hp : 2 ^ (i + 1) ≤ 2 ^ 32 := Nat.pow_le_pow_right (by omega) (by omega)
  have hpi : 2 ^ (i + 1) = 2 ^ i * 2 := Nat.pow_succ 2 i
  have hbl : b * 2 ^ i < 4294967296 := by
    rcases (show b = 0 ∨ b = 1 by omega) with rfl | rfl <;> omega
  have h1 : ((b : Int) * 2 ^ i % 4294967296) = ((b * 2 ^ i : Nat) : Int) := by
    have h2 : ((b * 2 ^ i : Nat) : Int) = (b : Int) * 2 ^ i := by simp
    rw [← h2]
    generalize b * 2 ^ i = q at hbl
    omega
  have hor : r ||| b * 2 ^ i = r + b * 2 ^ i := by
    have := Nat.two_pow_add_eq_or_of_lt hr b
    rw [Nat.mul_comm b, Nat.or_comm, ← this, Nat.add_comm]
  rw [h1, u32_or_nat r (b * 2 ^ i) (by omega) hbl, hor]
end Go.Proofs.YtbjbpgbpefkbhaaDoor
