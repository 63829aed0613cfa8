/- ledgerlaw5.turned and whole: a text with the bits of a pattern turned; a number of a range. -/
import Derived.Test.YtbjbpgbpefkbhaaShort
import Derived.Test.YtbjbpgbpefkbhaaBits
namespace Go.Proofs.Ytbjbpgbpefkbhaa
open Go.RowKit
theorem whole_range (n : Int) (lo hi : Int) (w : World) (h : lo ≤ hi) (h0 : 0 ≤ lo) (h1 : hi ≤ 4294967296) :
    Calls Try.prog 22 #[.int .i64 n, .int .i64 lo, .int .i64 hi] w fun e w' => (∃ r : Int, e = .returned (.int .i64 r) ∧ lo ≤ r ∧ r ≤ hi) ∧ w' = w := by
  have hd : 0 < hi - lo + 1 := by omega
  have h2 : -(hi - lo + 1) < n.tmod (hi - lo + 1) := Int.lt_tmod_of_pos n hd
  have h3 : n.tmod (hi - lo + 1) < hi - lo + 1 := Int.tmod_lt_of_pos n hd
  go_enter Try.func22, Try.ntmps22
  go_wp2_with fail
  all_goals
    go_ret
    exact ⟨⟨_, rfl, by omega, by omega⟩, rfl⟩
/-- A text with the first i bits of pattern turned, its bit 0 at the text's bit k, as far as they lie below lim; how many were turned. -/
def turnL (xs : List Nat) (k : Int) (pat lim : Nat) : Nat → List Nat × Nat
  | 0 => (xs, 0)
  | i + 1 => if pat / 2 ^ i % 2 = 1 ∧ 0 ≤ k + i ∧ k + i < lim ∧ k + i < 8 * xs.length then (flipN (turnL xs k pat lim i).1 (k + i), (turnL xs k pat lim i).2 + 1) else turnL xs k pat lim i
theorem turnL_length (xs : List Nat) (k : Int) (pat lim : Nat) : ∀ i, (turnL xs k pat lim i).1.length = xs.length
  | 0 => rfl
  | i + 1 => by
    rw [turnL]
    split
    · rw [flipN_length, turnL_length xs k pat lim i]
    · exact turnL_length xs k pat lim i
theorem turnL_le (xs : List Nat) (k : Int) (pat lim : Nat) : ∀ i, (turnL xs k pat lim i).2 ≤ i
  | 0 => Nat.le_refl _
  | i + 1 => by
    have := turnL_le xs k pat lim i
    rw [turnL]
    split
    · show (turnL xs k pat lim i).2 + 1 ≤ i + 1
      omega
    · omega
theorem turnL_hit {xs : List Nat} {k : Int} {pat lim i : Nat} (h : pat / 2 ^ i % 2 = 1) (h0 : 0 ≤ k + i) (h2 : k + i < lim) (h1 : k + i < 8 * xs.length) :
    turnL xs k pat lim (i + 1) = (flipN (turnL xs k pat lim i).1 (k + i), (turnL xs k pat lim i).2 + 1) := by
  rw [turnL, if_pos ⟨h, h0, h2, h1⟩]
theorem turnL_miss {xs : List Nat} {k : Int} {pat lim i : Nat} (h : ¬ (pat / 2 ^ i % 2 = 1 ∧ 0 ≤ k + i ∧ k + i < lim ∧ k + i < 8 * xs.length)) : turnL xs k pat lim (i + 1) = turnL xs k pat lim i := by
  rw [turnL, if_neg h]
theorem turnL_all (xs : List Nat) (k : Int) (pat : Nat) : ∀ i, turnL xs k pat (8 * xs.length) i = turnedTo xs k pat i
  | 0 => rfl
  | i + 1 => by
    by_cases h : pat / 2 ^ i % 2 = 1 ∧ 0 ≤ k + i ∧ k + i < 8 * xs.length
    · rw [turnL_hit h.1 h.2.1 (by omega) h.2.2, turnedTo_hit h.1 h.2.1 h.2.2, turnL_all xs k pat i]
    · rw [turnL_miss (fun g => h ⟨g.1, g.2.1, g.2.2.2⟩), turnedTo_miss h, turnL_all xs k pat i]
theorem flip_front {s t : List Nat} {m : Int} (h0 : 0 ≤ m) (h : m < 8 * s.length) : flipN (s ++ t) m = flipN s m ++ t := by
  obtain ⟨q, rfl⟩ := Int.eq_ofNat_of_zero_le h0
  rw [flipN_in (by rw [List.length_append]; omega), flipN_in (by omega), List.set_append_left _ _ (by omega)]
  congr 3
  simp [List.getD, List.getElem?_append_left (show q / 8 < s.length by omega)]
theorem turnL_front (s t : List Nat) (k : Int) (pat : Nat) : ∀ i, turnL (s ++ t) k pat (8 * s.length) i = ((turnedTo s k pat i).1 ++ t, (turnedTo s k pat i).2)
  | 0 => rfl
  | i + 1 => by
    by_cases h : pat / 2 ^ i % 2 = 1 ∧ 0 ≤ k + i ∧ k + i < 8 * s.length
    · rw [turnL_hit h.1 h.2.1 (by omega) (by rw [List.length_append]; omega), turnedTo_hit h.1 h.2.1 h.2.2, turnL_front s t k pat i, flip_front h.2.1 (by rw [turnedTo_length]; exact h.2.2)]
    · rw [turnL_miss (fun g => h ⟨g.1, g.2.1, by omega⟩), turnedTo_miss h, turnL_front s t k pat i]
theorem turned_one (xs : List Nat) (k : Int) : ∀ i, (turnedTo xs k 1 (i + 1)).1 = flipN xs k
  | 0 => by
    by_cases h : 0 ≤ k ∧ k < 8 * xs.length
    · rw [turnedTo_hit (i := 0) (by omega) (by omega) (by omega)]
      simp [turnedTo]
    · rw [turnedTo_miss (i := 0) (fun g => h ⟨by omega, by omega⟩), flipN_out h]
      rfl
  | i + 1 => by
    have h1 : 1 / 2 ^ (i + 1) = 0 := Nat.div_eq_of_lt (Nat.one_lt_two_pow (by omega))
    rw [turnedTo_miss (fun g => by rw [h1] at g; omega)]
    exact turned_one xs k i
def IsTurned (base : Nat) (xs : List Nat) (k : Int) (pat lim : Nat) (e : Ending) (w' : World) : Prop :=
  ∃ v, e = .returned (.tuple #[v, .int .i64 ((turnL xs k pat lim 32).2 : Nat)]) ∧ OwnU w' base v (turnL xs k pat lim 32).1
set_option maxHeartbeats 800000 in
theorem turned_any (A : Option Addr) (n c : Nat) (k : Int) (pat lim : Nat) (xs : List Nat) (w : World) (hx : RB w A n xs) (hn : n ≤ 140737488355328) (hk0 : -9223372036854775808 ≤ k) (hk1 : k ≤ 4611686018427387904) (hp : pat < 4294967296) :
    Calls Try.prog 17 #[.slice A n c, .int .i64 k, .int .u32 pat, .int .i64 lim] w fun e w' => IsTurned w.heap.size xs k pat lim e w' ∧ Below w.heap.size w w' := by
  have HS := Lib.hid (copied_any A n c xs w hx hn)
  obtain rfl : xs.length = n := hx.1
  clear hx
  go_enter Try.func17, Try.ntmps17
  go_wp2_with fail
  refine HS.out.mono ?_
  rintro e w1 ⟨v, rfl, hown, hbel⟩
  have HO := Lib.hid hown
  have HB := Lib.hid hbel
  obtain ⟨A', c', rfl, _⟩ := hown.form
  clear HS
  clear hown hbel
  go_wp2
  go_loopw [11, 12] (fun m j wr => ∃ i : Nat, i ≤ 32 ∧ j = .int .i64 i ∧ m = .int .i64 ((turnL xs k pat lim i).2 : Nat) ∧ Hid (OwnU wr w.heap.size (.slice A' xs.length c') (turnL xs k pat lim i).1) ∧ Hid (Below w.heap.size w wr)) (fun _ j _ => 32 - (intOf j).toNat)
  case atStart => exact ⟨0, by omega, rfl, rfl, HO.out, HB.out⟩
  case round =>
    obtain ⟨i, hi, rfl, rfl, HO, HB⟩ := hrel
    have hle := turnL_le xs k pat lim i
    have hll := turnL_length xs k pat lim i
    by_cases hlt : i < 32
    · have hbit := bit32 pat i hp
      by_cases h1 : pat / 2 ^ i % 2 = 1
      · have hb1 : bits .and .u32 ((pat : Int) / 2 ^ i) 1 = 1 := by rw [hbit, h1]; rfl
        clear hbit
        by_cases h2 : 0 ≤ k + i
        · obtain ⟨q, hq⟩ := Int.eq_ofNat_of_zero_le h2
          by_cases h4 : q < lim
          · by_cases h3 : q < 8 * xs.length
            · have HT := Lib.hid (turnL_hit (xs := xs) (lim := lim) h1 h2 (by rw [hq]; omega) (by rw [hq]; omega))
              have HQ := Lib.hid (flipN_in (xs := (turnL xs k pat lim i).1) (k := q) (by omega))
              have HQ2 := Lib.hid hq
              have hj : q / 8 < xs.length := by omega
              obtain ⟨g, c2, e2, hbg, hgs, hfr, hcell⟩ := HO.out.shape (by omega)
              injection e2 with e2 _ e3
              subst e2 e3
              have hc := hcell (q / 8) (by omega)
              have hf := hfr (q / 8)
              have hx := HO.out.isB _ (getD_mem (show q / 8 < (turnL xs k pat lim i).1.length by omega))
              have hxor := xorbit8 ((turnL xs k pat lim i).1.getD (q / 8) 0) q hx
              have hown := HO.out
              unfold OwnU at hown
              rw [← hll] at hown
              have hset := hown.set (q / 8) ((turnL xs k pat lim i).1.getD (q / 8) 0 ^^^ 2 ^ (q % 8)) (xor_lt8 hx (Nat.pow_lt_pow_right (a := 2) (n := 8) (by omega) (by omega)))
              rw [hll] at hset
              have HS := Lib.hid hset
              have HG := Lib.hid (HB.out.setCell (p := ⟨g, q / 8, none⟩) hbg (.int .u8 (((turnL xs k pat lim i).1.getD (q / 8) 0 ^^^ 2 ^ (q % 8) : Nat) : Int)))
              clear hcell hfr hown hset h1 h2 hll hx
              generalize (turnL xs k pat lim i).1.getD (q / 8) 0 = x at *
              go_wp2
              go_roundw
              case rel => exact ⟨i + 1, by omega, by go_num, by rw [HT.out]; go_num, by rw [HT.out, HQ2.out, HQ.out]; exact HS.out, HG.out⟩
              case measure => simp [intOf]; omega
            · have HT := Lib.hid (turnL_miss (xs := xs) (k := k) (pat := pat) (i := i) (lim := lim) fun h => h3 (by omega))
              clear h1 h2 hll
              go_wp2
              go_roundw
              case rel => exact ⟨i + 1, by omega, by go_num, by rw [HT.out], by rw [HT.out]; exact HO.out, HB.out⟩
              case measure => simp [intOf]; omega
          · have HT := Lib.hid (turnL_miss (xs := xs) (k := k) (pat := pat) (i := i) (lim := lim) fun h => h4 (by omega))
            clear h1 h2 hll
            go_wp2
            go_roundw
            case rel => exact ⟨i + 1, by omega, by go_num, by rw [HT.out], by rw [HT.out]; exact HO.out, HB.out⟩
            case measure => simp [intOf]; omega
        · have HT := Lib.hid (turnL_miss (xs := xs) (k := k) (pat := pat) (i := i) (lim := lim) fun h => h2 h.2.1)
          have h2' : k + i < 0 := by omega
          clear h1 h2 hll
          go_wp2
          go_roundw
          case rel => exact ⟨i + 1, by omega, by go_num, by rw [HT.out], by rw [HT.out]; exact HO.out, HB.out⟩
          case measure => simp [intOf]; omega
      · have hb1 : bits .and .u32 ((pat : Int) / 2 ^ i) 1 = 0 := by rw [hbit, show pat / 2 ^ i % 2 = 0 by omega]; rfl
        have HT := Lib.hid (turnL_miss (xs := xs) (k := k) (pat := pat) (i := i) (lim := lim) fun h => h1 h.1)
        clear hbit h1 hll
        go_wp2
        go_roundw
        case rel => exact ⟨i + 1, by omega, by go_num, by rw [HT.out], by rw [HT.out]; exact HO.out, HB.out⟩
        case measure => simp [intOf]; omega
    · obtain rfl : i = 32 := by omega
      go_wp2
      go_ret2
      exact ⟨⟨_, rfl, HO.out⟩, HB.out⟩
theorem turnL_far (xs : List Nat) {k : Int} (pat : Nat) {lim : Nat} (h : (lim : Int) ≤ k) : ∀ i, turnL xs k pat lim i = (xs, 0)
  | 0 => rfl
  | i + 1 => by rw [turnL_miss (fun g => by omega), turnL_far xs pat h i]
set_option maxHeartbeats 800000 in
theorem turned_far (A : Option Addr) (n c : Nat) (k : Int) (pat lim : Nat) (xs : List Nat) (w : World) (hx : RB w A n xs) (hn : n ≤ 140737488355328) (hk0 : 4611686018427387904 < k) (hk1 : k ≤ 9223372036854775807) (hp : pat < 4294967296) (hl : lim ≤ 4611686018427387904) :
    Calls Try.prog 17 #[.slice A n c, .int .i64 k, .int .u32 pat, .int .i64 lim] w fun e w' => IsTurned w.heap.size xs k pat lim e w' ∧ Below w.heap.size w w' := by
  have HS := Lib.hid (copied_any A n c xs w hx hn)
  obtain rfl : xs.length = n := hx.1
  clear hx
  have HT := Lib.hid (turnL_far xs (k := k) pat (lim := lim) (by omega) 32)
  go_enter Try.func17, Try.ntmps17
  go_wp2_with fail
  refine HS.out.mono ?_
  rintro e w1 ⟨v, rfl, hown, hbel⟩
  have HO := Lib.hid hown
  have HB := Lib.hid hbel
  obtain ⟨A', c', rfl, _⟩ := hown.form
  clear HS
  clear hown hbel
  go_wp2
  go_loop [11, 12] (fun m j => ∃ i : Nat, i ≤ 32 ∧ j = .int .i64 i ∧ m = .int .i64 0) (fun _ j => 32 - (intOf j).toNat)
  case atStart => exact ⟨0, by omega, rfl, rfl⟩
  case round =>
    obtain ⟨i, hi, rfl, rfl⟩ := hrel
    by_cases hlt : i < 32
    · have hbit := bit32 pat i hp
      by_cases h1 : pat / 2 ^ i % 2 = 1
      · have hb1 : bits .and .u32 ((pat : Int) / 2 ^ i) 1 = 1 := by rw [hbit, h1]; rfl
        clear hbit h1
        by_cases hs : k + i ≤ 9223372036854775807
        · go_wp2
          go_round
          case rel => exact ⟨i + 1, by omega, by go_num, rfl⟩
          case measure => simp [intOf]; omega
        · have hwr : IntKind.i64.wrap (k + i) = k + i - 18446744073709551616 := by rw [IntKind.wrap_i64]; omega
          go_wp2
          go_round
          case rel => exact ⟨i + 1, by omega, by go_num, rfl⟩
          case measure => simp [intOf]; omega
      · have hb1 : bits .and .u32 ((pat : Int) / 2 ^ i) 1 = 0 := by rw [hbit, show pat / 2 ^ i % 2 = 0 by omega]; rfl
        clear hbit h1
        by_cases hs : k + i ≤ 9223372036854775807
        · go_wp2
          go_round
          case rel => exact ⟨i + 1, by omega, by go_num, rfl⟩
          case measure => simp [intOf]; omega
        · have hwr : IntKind.i64.wrap (k + i) = k + i - 18446744073709551616 := by rw [IntKind.wrap_i64]; omega
          go_wp2
          go_round
          case rel => exact ⟨i + 1, by omega, by go_num, rfl⟩
          case measure => simp [intOf]; omega
    · go_wp2
      go_ret2
      exact ⟨⟨_, by rw [HT.out]; rfl, by rw [HT.out]; exact HO.out⟩, HB.out⟩
theorem turned_all (A : Option Addr) (n c : Nat) (k : Int) (pat lim : Nat) (xs : List Nat) (w : World) (hx : RB w A n xs) (hn : n ≤ 140737488355328) (hk0 : -9223372036854775808 ≤ k) (hk1 : k ≤ 9223372036854775807) (hp : pat < 4294967296) (hl : lim ≤ 4611686018427387904) :
    Calls Try.prog 17 #[.slice A n c, .int .i64 k, .int .u32 pat, .int .i64 lim] w fun e w' => IsTurned w.heap.size xs k pat lim e w' ∧ Below w.heap.size w w' := by
  by_cases h : k ≤ 4611686018427387904
  · exact turned_any A n c k pat lim xs w hx hn hk0 h hp
  · exact turned_far A n c k pat lim xs w hx hn (by omega) hk1 hp hl
end Go.Proofs.Ytbjbpgbpefkbhaa
