/- ledgerref2.times and ledgerref2.Join. -/
import Derived.Test.YtadnckkipppbcaaChecked
import Derived.Test.YtadnckkipppbcaaLib
import Derived.Test.YtadnckkipppbcaaBits
import Derived.Test.YtadnckkipppbcaaOrder
namespace Go.Proofs.Ytadnckkipppbcaa
open Go.RowKit
set_option maxHeartbeats 800000 in
theorem times_any (a b : Nat) (w : World) (ha : a < 4294967296) (hb : b < 4294967296) :
    Calls Try.prog 27 #[.int .u32 a, .int .u32 b] w fun e w' => e = .returned (.int .u32 (times a b : Nat)) ∧ w = w' := by
  have HR : Hid (times a b = timesTo a b 32) := rfl
  go_enter Try.func27, Try.ntmps27
  go_wp2
  go_loop [5, 6] (fun p i => ∃ k : Nat, k ≤ 32 ∧ i = .int .i64 k ∧ p = .int .u32 (timesTo a b k : Nat)) (fun _ i => 32 - (intOf i).toNat)
  case atStart => exact ⟨0, by omega, rfl, rfl⟩
  case round =>
    obtain ⟨k, hk, rfl, rfl⟩ := hrel
    by_cases hlt : k < 32
    · have hp := timesTo_lt ha b k
      have hbit := bit32 b k hb
      have HT : Hid (timesTo a b (k + 1) = if b / 2 ^ k % 2 = 1 then bstep (timesTo a b k) ^^^ a else bstep (timesTo a b k)) := rfl
      generalize timesTo a b k = p at *
      have hand := and32_1 p hp
      have hs := bstep_lt hp
      have hxa := xor32 (bstep p) a hs ha
      have HB : Hid (bstep p = p / 2 ^^^ (if p % 2 = 1 then poly else 0)) := rfl
      rcases Nat.mod_two_eq_zero_or_one p with h2 | h2
      · have hE : ((p : Int) / 2) = ((bstep p : Nat) : Int) := by
          rw [HB.out, if_neg (by omega), Nat.xor_zero]
          omega
        have hand' : bits .and .u32 (p : Int) 1 = 0 := by rw [hand, h2]; rfl
        generalize bstep p = s at *
        by_cases h1 : b / 2 ^ k % 2 = 1
        · have hb1 : bits .and .u32 ((b : Int) / 2 ^ k) 1 = 1 := by rw [hbit, h1]; rfl
          have HT2 : Hid (timesTo a b (k + 1) = s ^^^ a) := by rw [HT.out, if_pos h1]; rfl
          clear hand hbit h1 h2
          go_wp2
          go_round
          case rel => exact ⟨k + 1, by omega, by go_num, by rw [HT2.out]⟩
          case measure => simp [intOf]; omega
        · have hb1 : bits .and .u32 ((b : Int) / 2 ^ k) 1 = 0 := by rw [hbit, show b / 2 ^ k % 2 = 0 by omega]; rfl
          have HT2 : Hid (timesTo a b (k + 1) = s) := by rw [HT.out, if_neg h1]; rfl
          clear hand hbit h1 h2
          go_wp2
          go_round
          case rel => exact ⟨k + 1, by omega, by go_num, by rw [HT2.out]⟩
          case measure => simp [intOf]; omega
      · have hE : bits .xor .u32 ((p : Int) / 2) 3988292384 = ((bstep p : Nat) : Int) := by
          have := xor32 (p / 2) poly (by omega) (by unfold poly; omega)
          rw [HB.out, if_pos h2, ← this]
          rfl
        have hand' : bits .and .u32 (p : Int) 1 = 1 := by rw [hand, h2]; rfl
        generalize bstep p = s at *
        by_cases h1 : b / 2 ^ k % 2 = 1
        · have hb1 : bits .and .u32 ((b : Int) / 2 ^ k) 1 = 1 := by rw [hbit, h1]; rfl
          have HT2 : Hid (timesTo a b (k + 1) = s ^^^ a) := by rw [HT.out, if_pos h1]; rfl
          clear hand hbit h1 h2
          go_wp2
          go_round
          case rel => exact ⟨k + 1, by omega, by go_num, by rw [HT2.out]⟩
          case measure => simp [intOf]; omega
        · have hb1 : bits .and .u32 ((b : Int) / 2 ^ k) 1 = 0 := by rw [hbit, show b / 2 ^ k % 2 = 0 by omega]; rfl
          have HT2 : Hid (timesTo a b (k + 1) = s) := by rw [HT.out, if_neg h1]; rfl
          clear hand hbit h1 h2
          go_wp2
          go_round
          case rel => exact ⟨k + 1, by omega, by go_num, by rw [HT2.out]⟩
          case measure => simp [intOf]; omega
    · obtain rfl : k = 32 := by omega
      go_wp2
      go_ret
      exact ⟨by rw [HR.out]; rfl, rfl⟩

set_option maxHeartbeats 800000 in
theorem refjoin_any (a b : Nat) (n : Int) (w : World) (ha : a < 4294967296) (hb : b < 4294967296) (hn : n ≤ 9223372036854775807) :
    Calls Try.prog 22 #[.int .u32 a, .int .u32 b, .int .i64 n] w fun e w' => e = .returned (.int .u32 (joinN a b n : Nat)) ∧ w = w' := by
  by_cases hneg : n < 0
  · have HJ : Hid (joinN a b n = 0) := if_pos hneg
    go_enter Try.func22, Try.ntmps22
    go_wp2
    go_ret
    exact ⟨by rw [HJ.out]; rfl, rfl⟩
  · obtain ⟨t, rfl⟩ := Int.eq_ofNat_of_zero_le (show 0 ≤ n by omega)
    have HJ : Hid (joinN a b t = bs (8 * t) a ^^^ b) := by
      show (if (t : Int) < 0 then 0 else bs (8 * (t : Int).toNat) a ^^^ b) = _
      rw [if_neg hneg, Int.toNat_natCast]
    have h8 : ((8388608 : Int)) = ((E (8 * 1) : Nat) : Int) := by
      show (8388608 : Int) = ((bs 8 one : Nat) : Int)
      decide +kernel
    have H8 := Lib.hid h8
    clear h8
    go_enter Try.func22, Try.ntmps22
    go_wp2
    go_loop [0, 2, 7] (fun x i p => ∃ m r s : Nat, m ≤ t ∧ Hid (r + m * s = t) ∧ i = .int .i64 m ∧ x = .int .u32 (bs (8 * r) a : Nat) ∧ p = .int .u32 (E (8 * s) : Nat)) (fun _ i _ => (intOf i).toNat)
    case atStart => exact ⟨t, 0, 1, Nat.le_refl _, by show 0 + t * 1 = t; omega, rfl, rfl, by rw [← H8.out]⟩
    case round =>
      obtain ⟨m, r, s, hm, HS, rfl, rfl, rfl⟩ := hrel
      have hxl : bs (8 * r) a < 4294967296 := bs_lt ha
      have hel := E_lt (8 * s)
      by_cases h0 : 0 < m
      · have HT1 := Lib.hid (times_any (bs (8 * r) a) (E (8 * s)) w hxl hel)
        have HT2 := Lib.hid (times_any (E (8 * s)) (E (8 * s)) w hel hel)
        have e1 : times (bs (8 * r) a) (E (8 * s)) = bs (8 * (r + s)) a := by
          rw [times_E hxl, ← bs_add]
          congr 1
          omega
        have e2 : times (E (8 * s)) (E (8 * s)) = E (8 * (2 * s)) := by
          rw [E_add]
          congr 1
          omega
        rw [e1] at HT1
        rw [e2] at HT2
        clear e1 e2
        rcases Nat.mod_two_eq_zero_or_one m with h2 | h2
        · have hodd : ((m : Int) % 2 == 1) = false := by rw [beq_eq_false_iff_ne]; omega
          have HS2 : Hid (r + m / 2 * (2 * s) = t) := by
            show _ = t
            rw [← HS.out, ← Nat.mul_assoc, show m / 2 * 2 = m by omega]
          clear h2
          generalize E (8 * s) = p at *
          go_wp2_with fail
          refine HT2.out.mono ?_
          rintro e w' ⟨rfl, rfl⟩
          go_wp2_with fail
          go_round
          case rel => exact ⟨m / 2, r, 2 * s, by omega, HS2, by go_num, rfl, rfl⟩
          case measure => simp [intOf]; omega
        · have hodd : ((m : Int) % 2 == 1) = true := by rw [beq_iff_eq]; omega
          have HS2 : Hid (r + s + m / 2 * (2 * s) = t) := by
            have e : m * s = s + m / 2 * (2 * s) := by
              conv => lhs; rw [show m = 1 + m / 2 * 2 by omega]
              rw [Nat.add_mul, Nat.one_mul, Nat.mul_assoc]
            show _ = t
            rw [← HS.out, e, Nat.add_assoc]
          clear h2
          generalize E (8 * s) = p at *
          generalize bs (8 * r) a = q at *
          go_wp2_with fail
          refine HT1.out.mono ?_
          rintro e w' ⟨rfl, rfl⟩
          go_wp2_with fail
          refine HT2.out.mono ?_
          rintro e w' ⟨rfl, rfl⟩
          go_wp2_with fail
          go_round
          case rel => exact ⟨m / 2, r + s, 2 * s, by omega, HS2, by go_num, rfl, rfl⟩
          case measure => simp [intOf]; omega
      · obtain rfl : m = 0 := by omega
        have hr : r = t := by have := HS.out; omega
        subst hr
        have hx := xor32 (bs (8 * r) a) b hxl hb
        generalize bs (8 * r) a = q at *
        go_wp2
        go_ret
        exact ⟨by rw [HJ.out]; rfl, rfl⟩
end Go.Proofs.Ytadnckkipppbcaa
