/- ledgerlaw2.turned: a text with the bits of a pattern turned. -/
import Derived.Test.YtadnckkipppbcaaFlip
namespace Go.Proofs.Ytadnckkipppbcaa
open Go.RowKit
def IsTurned (base : Nat) (xs : List Nat) (k : Int) (pat : Nat) (e : Ending) (w' : World) : Prop :=
  ∃ v, e = .returned (.tuple #[v, .int .i64 ((turnedTo xs k pat 32).2 : Nat)]) ∧ OwnU w' base v (turnedTo xs k pat 32).1
set_option maxHeartbeats 800000 in
theorem turned_any (A : Option Addr) (n c : Nat) (k : Int) (pat : Nat) (xs : List Nat) (w : World) (hx : RB w A n xs) (hn : n ≤ 140737488355328) (hk0 : -31 ≤ k) (hk1 : k ≤ 4611686018427387904) (hp : pat < 4294967296) :
    Calls Try.prog 18 #[.slice A n c, .int .i64 k, .int .u32 pat] w fun e w' => IsTurned w.heap.size xs k pat e w' ∧ Below w.heap.size w w' := by
  have HS := Lib.hid (short_any A n c n xs w hx hn)
  obtain rfl : xs.length = n := hx.1
  clear hx
  go_enter Try.func18, Try.ntmps18
  go_wp2_with fail
  refine HS.out.mono ?_
  rintro e w1 ⟨v, rfl, hown, hbel⟩
  rw [Int.toNat_natCast, List.take_of_length_le (Nat.le_refl _)] at hown
  have HO := Lib.hid hown
  have HB := Lib.hid hbel
  obtain ⟨A', c', rfl, _⟩ := hown.form
  clear HS
  clear hown hbel
  go_wp2
  go_loopw [9, 10] (fun m j wr => ∃ i : Nat, i ≤ 32 ∧ j = .int .i64 i ∧ m = .int .i64 ((turnedTo xs k pat i).2 : Nat) ∧ Hid (OwnU wr w.heap.size (.slice A' xs.length c') (turnedTo xs k pat i).1) ∧ Hid (Below w.heap.size w wr)) (fun _ j _ => 32 - (intOf j).toNat)
  case atStart => exact ⟨0, by omega, rfl, rfl, HO.out, HB.out⟩
  case round =>
    obtain ⟨i, hi, rfl, rfl, HO, HB⟩ := hrel
    have hle := turnedTo_le xs k pat i
    have hll := turnedTo_length xs k pat i
    by_cases hlt : i < 32
    · have hbit := bit32 pat i hp
      by_cases h1 : pat / 2 ^ i % 2 = 1
      · have hb1 : bits .and .u32 ((pat : Int) / 2 ^ i) 1 = 1 := by rw [hbit, h1]; rfl
        clear hbit
        by_cases h2 : 0 ≤ k + i
        · obtain ⟨q, hq⟩ := Int.eq_ofNat_of_zero_le h2
          by_cases h3 : q < 8 * xs.length
          · have HT := Lib.hid (turnedTo_hit (xs := xs) h1 h2 (by rw [hq]; omega))
            have HQ := Lib.hid (flipN_in (xs := (turnedTo xs k pat i).1) (k := q) (by omega))
            have HQ2 := Lib.hid hq
            have hj : q / 8 < xs.length := by omega
            obtain ⟨g, c2, e2, hbg, hgs, hfr, hcell⟩ := HO.out.shape (by omega)
            injection e2 with e2 _ e3
            subst e2 e3
            have hc := hcell (q / 8) (by omega)
            have hf := hfr (q / 8)
            have hx := HO.out.isB _ (getD_mem (show q / 8 < (turnedTo xs k pat i).1.length by omega))
            have hxor := xorbit8 ((turnedTo xs k pat i).1.getD (q / 8) 0) q hx
            have hown := HO.out
            unfold OwnU at hown
            rw [← hll] at hown
            have hset := hown.set (q / 8) ((turnedTo xs k pat i).1.getD (q / 8) 0 ^^^ 2 ^ (q % 8)) (xor_lt8 hx (Nat.pow_lt_pow_right (a := 2) (n := 8) (by omega) (by omega)))
            rw [hll] at hset
            have HS := Lib.hid hset
            have HG := Lib.hid (HB.out.setCell (p := ⟨g, q / 8, none⟩) hbg (.int .u8 (((turnedTo xs k pat i).1.getD (q / 8) 0 ^^^ 2 ^ (q % 8) : Nat) : Int)))
            clear hcell hfr hown hset h1 h2 hll hx
            generalize (turnedTo xs k pat i).1.getD (q / 8) 0 = x at *
            go_wp2
            go_roundw
            case rel => exact ⟨i + 1, by omega, by go_num, by rw [HT.out]; go_num, by rw [HT.out, HQ2.out, HQ.out]; exact HS.out, HG.out⟩
            case measure => simp [intOf]; omega
          · have HT := Lib.hid (turnedTo_miss (xs := xs) (k := k) (pat := pat) (i := i) fun h => h3 (by omega))
            clear h1 h2 hll
            go_wp2
            go_roundw
            case rel => exact ⟨i + 1, by omega, by go_num, by rw [HT.out], by rw [HT.out]; exact HO.out, HB.out⟩
            case measure => simp [intOf]; omega
        · have HT := Lib.hid (turnedTo_miss (xs := xs) (k := k) (pat := pat) (i := i) fun h => h2 h.2.1)
          have h2' : k + i < 0 := by omega
          clear h1 h2 hll
          go_wp2
          go_roundw
          case rel => exact ⟨i + 1, by omega, by go_num, by rw [HT.out], by rw [HT.out]; exact HO.out, HB.out⟩
          case measure => simp [intOf]; omega
      · have hb1 : bits .and .u32 ((pat : Int) / 2 ^ i) 1 = 0 := by rw [hbit, show pat / 2 ^ i % 2 = 0 by omega]; rfl
        have HT := Lib.hid (turnedTo_miss (xs := xs) (k := k) (pat := pat) (i := i) fun h => h1 h.1)
        clear hbit h1 hll
        go_wp2
        go_roundw
        case rel => exact ⟨i + 1, by omega, by go_num, by rw [HT.out], by rw [HT.out]; exact HO.out, HB.out⟩
        case measure => simp [intOf]; omega
    · obtain rfl : i = 32 := by omega
      go_wp2
      go_ret2
      exact ⟨⟨_, rfl, HO.out⟩, HB.out⟩
end Go.Proofs.Ytadnckkipppbcaa
