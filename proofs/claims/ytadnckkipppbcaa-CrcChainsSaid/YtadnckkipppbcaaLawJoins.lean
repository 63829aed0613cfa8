/- ledgerlaw2.CrcJoins, CrcRound, CrcChains: the walks. -/
import Derived.Test.YtadnckkipppbcaaJoin
import Derived.Test.YtadnckkipppbcaaRefJoin
namespace Go.Proofs.Ytadnckkipppbcaa
open Go.RowKit
theorem join_eq {a b v : Nat} {n : Int} (h : joinN a b n = v) (w : World) (ha : a < 4294967296) (hb : b < 4294967296) (hn : n ≤ 9223372036854775807) :
    Calls Try.prog 21 #[.int .u32 a, .int .u32 b, .int .i64 n] w fun e w' => e = .returned (.int .u32 (v : Nat)) ∧ Below w.heap.size w w' := by
  have := join_any a b n w ha hb hn
  rwa [h] at this
theorem join_known (w : World) : Calls Try.prog 21 #[.int .u32 1, .int .u32 0, .int .i64 1] w fun e w' => e = .returned (.int .u32 1996959894) ∧ Below w.heap.size w w' :=
  join_eq (a := 1) (b := 0) (n := 1) (v := 1996959894) (by decide +kernel) w (by omega) (by omega) (by omega)
theorem join_neg {a b : Nat} {n : Int} (h : n < 0) (w : World) (ha : a < 4294967296) (hb : b < 4294967296) :
    Calls Try.prog 21 #[.int .u32 a, .int .u32 b, .int .i64 n] w fun e w' => e = .returned (.int .u32 0) ∧ Below w.heap.size w w' :=
  join_eq (v := 0) (if_pos h) w ha hb (by omega)
theorem joins_walk (a b : Nat) (n : Int) (w : World) (ha : a < 4294967296) (hb : b < 4294967296) (hn : n ≤ 9223372036854775807) :
    Calls Try.prog 7 #[.int .u32 a, .int .u32 b, .int .i64 n] w fun e w' => e = .returned (.bool true) ∧ Below w.heap.size w w' := by
  have H1 := Lib.hid (fun W => join_any a b n W ha hb hn)
  have H2 := Lib.hid (fun W => refjoin_any a b n W ha hb hn)
  generalize joinN a b n = v at *
  go_enter Try.func7, Try.ntmps7
  go_wp2_with fail
  refine (H1.out _).mono ?_
  rintro e w1 ⟨rfl, hb1⟩
  have HB := Lib.hid hb1
  clear hb1
  go_wp2_with fail
  refine (H2.out _).mono ?_
  rintro e w2 ⟨rfl, rfl⟩
  go_wp2_with fail
  go_ret
  exact ⟨by simp, HB.out⟩
theorem round_law (a b : Nat) (ha : a < 4294967296) (k : Nat) : joinN a b ((k : Int) + 4294967295) = joinN a b k := by
  unfold joinN
  rw [if_neg (by omega), if_neg (by omega), show ((k : Int) + 4294967295).toNat = k + ord by unfold ord; omega, Int.toNat_natCast, ← times_E ha, ← times_E ha]
  have e : E (8 * (k + ord)) = E (8 * k) := by
    rw [Nat.mul_add, ← bs_E, Nat.mul_comm 8 ord, E_mul E_ord, bs_E, Nat.add_zero]
  rw [e]
theorem round_walk (a b : Nat) (n : Int) (w : World) (ha : a < 4294967296) (hb : b < 4294967296) :
    Calls Try.prog 9 #[.int .u32 a, .int .u32 b, .int .i64 n] w fun e w' => e = .returned (.bool true) ∧ Below w.heap.size w w' := by
  have HK := Lib.hid join_known
  have HL : Hid (∀ (k : Nat) (W : World), k ≤ 4611686018427387904 → Calls Try.prog 21 #[.int .u32 a, .int .u32 b, .int .i64 ((k : Int) + 4294967295)] W fun e w' => e = .returned (.int .u32 (joinN a b k : Nat)) ∧ Below W.heap.size W w') :=
    fun k W hk => join_eq (round_law a b ha k) W ha hb (by omega)
  have HR : Hid (∀ (k : Nat) (W : World), k ≤ 4611686018427387904 → Calls Try.prog 21 #[.int .u32 a, .int .u32 b, .int .i64 (k : Int)] W fun e w' => e = .returned (.int .u32 (joinN a b k : Nat)) ∧ Below W.heap.size W w') :=
    fun k W hk => join_any a b k W ha hb (by omega)
  by_cases h0 : n < 0
  · go_enter Try.func9, Try.ntmps9
    go_wp2_with fail
    refine (HK.out _).mono ?_
    rintro e w1 ⟨rfl, hb1⟩
    have HB1 := Lib.hid hb1
    clear hb1
    go_wp2_with fail
    refine (HL.out 5 _ (by omega)).mono ?_
    rintro e w2 ⟨rfl, hb2⟩
    have HB2 := Lib.hid (HB1.out.trans (hb2.mono HB1.out.size))
    clear hb2
    go_wp2_with fail
    refine (HR.out 5 _ (by omega)).mono ?_
    rintro e w3 ⟨rfl, hb3⟩
    generalize joinN a b _ = v
    go_wp2_with fail
    go_ret
    exact ⟨by simp, HB2.out.trans (hb3.mono HB2.out.size)⟩
  · by_cases h1 : 4611686018427387904 < n
    · go_enter Try.func9, Try.ntmps9
      go_wp2_with fail
      refine (HK.out _).mono ?_
      rintro e w1 ⟨rfl, hb1⟩
      have HB1 := Lib.hid hb1
      clear hb1
      go_wp2_with fail
      refine (HL.out 5 _ (by omega)).mono ?_
      rintro e w2 ⟨rfl, hb2⟩
      have HB2 := Lib.hid (HB1.out.trans (hb2.mono HB1.out.size))
      clear hb2
      go_wp2_with fail
      refine (HR.out 5 _ (by omega)).mono ?_
      rintro e w3 ⟨rfl, hb3⟩
      generalize joinN a b _ = v
      go_wp2_with fail
      go_ret
      exact ⟨by simp, HB2.out.trans (hb3.mono HB2.out.size)⟩
    · obtain ⟨k, rfl⟩ := Int.eq_ofNat_of_zero_le (show 0 ≤ n by omega)
      go_enter Try.func9, Try.ntmps9
      go_wp2_with fail
      refine (HK.out _).mono ?_
      rintro e w1 ⟨rfl, hb1⟩
      have HB1 := Lib.hid hb1
      clear hb1
      go_wp2_with fail
      refine (HL.out k _ (by omega)).mono ?_
      rintro e w2 ⟨rfl, hb2⟩
      have HB2 := Lib.hid (HB1.out.trans (hb2.mono HB1.out.size))
      clear hb2
      go_wp2_with fail
      refine (HR.out k _ (by omega)).mono ?_
      rintro e w3 ⟨rfl, hb3⟩
      generalize joinN a b _ = v
      go_wp2_with fail
      go_ret
      exact ⟨by simp, HB2.out.trans (hb3.mono HB2.out.size)⟩
theorem chains_law (a b c : Nat) {n m : Int} (hn : 0 ≤ n) (hm : 0 ≤ m) : joinN (joinN a b n) c m = joinN a (joinN b c m) (n + m) := by
  unfold joinN
  rw [if_neg (by omega), if_neg (by omega), if_neg (by omega), if_neg (by omega), bs_xor, ← bs_add, Nat.xor_assoc]
  congr 2
  omega
set_option maxHeartbeats 1000000 in
theorem chains_walk (a b c : Nat) (n m : Int) (w : World) (ha : a < 4294967296) (hb : b < 4294967296) (hc : c < 4294967296) (hn : n ≤ 9223372036854775807) (hm : m ≤ 9223372036854775807) :
    Calls Try.prog 8 #[.int .u32 a, .int .u32 b, .int .u32 c, .int .i64 n, .int .i64 m] w fun e w' => e = .returned (.bool true) ∧ Below w.heap.size w w' := by
  have HK := Lib.hid join_known
  by_cases hn0 : n < 0
  · by_cases hm0 : m < 0
    · go_enter Try.func8, Try.ntmps8
      go_wp2_with fail
      refine (HK.out _).mono ?_
      rintro e w1 ⟨rfl, hb1⟩
      have HB1 := Lib.hid hb1
      clear hb1
      go_wp2_with fail
      refine (join_neg hn0 _ ha hb).mono ?_
      rintro e w2 ⟨rfl, hb2⟩
      have HB2 := Lib.hid (HB1.out.trans (hb2.mono HB1.out.size))
      clear hb2
      go_wp2_with fail
      refine (join_neg hm0 _ hb hc).mono ?_
      rintro e w3 ⟨rfl, hb3⟩
      have HB3 := Lib.hid (HB2.out.trans (hb3.mono HB2.out.size))
      clear hb3
      go_wp2_with fail
      go_ret
      exact ⟨rfl, HB3.out⟩
    · go_enter Try.func8, Try.ntmps8
      go_wp2_with fail
      refine (HK.out _).mono ?_
      rintro e w1 ⟨rfl, hb1⟩
      have HB1 := Lib.hid hb1
      clear hb1
      go_wp2_with fail
      refine (join_neg hn0 _ ha hb).mono ?_
      rintro e w2 ⟨rfl, hb2⟩
      have HB2 := Lib.hid (HB1.out.trans (hb2.mono HB1.out.size))
      clear hb2
      go_wp2_with fail
      go_ret
      exact ⟨rfl, HB2.out⟩
  · by_cases hm0 : m < 0
    · go_enter Try.func8, Try.ntmps8
      go_wp2_with fail
      refine (HK.out _).mono ?_
      rintro e w1 ⟨rfl, hb1⟩
      have HB1 := Lib.hid hb1
      clear hb1
      go_wp2_with fail
      refine (join_neg hm0 _ hb hc).mono ?_
      rintro e w2 ⟨rfl, hb2⟩
      have HB2 := Lib.hid (HB1.out.trans (hb2.mono HB1.out.size))
      clear hb2
      go_wp2_with fail
      go_ret
      exact ⟨rfl, HB2.out⟩
    · by_cases hn1 : 2305843009213693952 < n
      · go_enter Try.func8, Try.ntmps8
        go_wp2_with fail
        refine (HK.out _).mono ?_
        rintro e w1 ⟨rfl, hb1⟩
        have HB1 := Lib.hid hb1
        clear hb1
        go_wp2_with fail
        go_ret
        exact ⟨rfl, HB1.out⟩
      · by_cases hm1 : 2305843009213693952 < m
        · go_enter Try.func8, Try.ntmps8
          go_wp2_with fail
          refine (HK.out _).mono ?_
          rintro e w1 ⟨rfl, hb1⟩
          have HB1 := Lib.hid hb1
          clear hb1
          go_wp2_with fail
          go_ret
          exact ⟨rfl, HB1.out⟩
        · have HL := Lib.hid (fun W => join_any a b n W ha hb hn)
          have HR := Lib.hid (fun W => join_any b c m W hb hc hm)
          have hl := joinN_lt ha hb n
          have hr := joinN_lt hb hc m
          have HV := Lib.hid (fun W => join_any (joinN a b n) c m W hl hc hm)
          have HW := Lib.hid (fun W => join_any a (joinN b c m) (n + m) W ha hr (by omega))
          rw [chains_law a b c (by omega) (by omega)] at HV
          generalize joinN a (joinN b c m) (n + m) = v at *
          generalize joinN a b n = l at *
          generalize joinN b c m = r at *
          go_enter Try.func8, Try.ntmps8
          go_wp2_with fail
          refine (HL.out _).mono ?_
          rintro e w1 ⟨rfl, hb1⟩
          have HB1 := Lib.hid hb1
          clear hb1
          go_wp2_with fail
          refine (HR.out _).mono ?_
          rintro e w2 ⟨rfl, hb2⟩
          have HB2 := Lib.hid (HB1.out.trans (hb2.mono HB1.out.size))
          clear hb2
          go_wp2_with fail
          refine (HK.out _).mono ?_
          rintro e w3 ⟨rfl, hb3⟩
          have HB3 := Lib.hid (HB2.out.trans (hb3.mono HB2.out.size))
          clear hb3
          go_wp2_with fail
          refine (HV.out _).mono ?_
          rintro e w4 ⟨rfl, hb4⟩
          have HB4 := Lib.hid (HB3.out.trans (hb4.mono HB3.out.size))
          clear hb4
          go_wp2_with fail
          refine (HW.out _).mono ?_
          rintro e w5 ⟨rfl, hb5⟩
          go_wp2_with fail
          go_ret
          exact ⟨by simp, HB4.out.trans (hb5.mono HB4.out.size)⟩
end Go.Proofs.Ytadnckkipppbcaa
