/- (crc.turn).of: what becomes of a whole register. -/
import Derived.Test.YtadnckkipppbcaaChecked
import Derived.Test.YtadnckkipppbcaaLib
import Derived.Test.YtadnckkipppbcaaBits
import Derived.Test.YtadnckkipppbcaaOfN
import Derived.Deep.WholeRow
namespace Go.Proofs.Ytadnckkipppbcaa
open Go.RowKit
/-- An array of 32 registers. -/
def arrF (f : Nat → Nat) : Array Value := ((List.range 32).map fun i => Value.int .u32 (f i : Nat)).toArray
theorem arrF_size (f : Nat → Nat) : (arrF f).size = 32 := by simp [arrF]
theorem arrF_get (f : Nat → Nat) {i : Nat} (h : i < 32) : (arrF f)[i]? = some (.int .u32 (f i : Nat)) := by simp [arrF, h]
set_option maxHeartbeats 800000 in
theorem of_any (f : Nat → Nat) (r : Nat) (w : World) (hf : ∀ i, i < 32 → f i < 4294967296) (hr : r < 4294967296) :
    Calls Try.prog 25 #[.agg (arrF f), .int .u32 r] w fun e w' => e = .returned (.int .u32 (ofN f r : Nat)) ∧ Below w.heap.size w w' := by
  have HF := Lib.hid hf
  have hsz := arrF_size f
  clear hf
  go_enter Try.func25, Try.ntmps25
  go_wp2
  go_loop [1, 5, 6] (fun x s i => ∃ k : Nat, k ≤ 32 ∧ i = .int .i64 k ∧ x = .int .u32 (r / 2 ^ k : Nat) ∧ s = .int .u32 (ofTo f r k : Nat)) (fun _ _ i => 32 - (intOf i).toNat)
  case atStart => exact ⟨0, by omega, rfl, by simp, rfl⟩
  case round =>
    obtain ⟨k, hk, rfl, rfl, rfl⟩ := hrel
    have hq : r / 2 ^ k < 4294967296 := Nat.lt_of_le_of_lt (Nat.div_le_self _ _) hr
    have hst := ofTo_lt (f := f) (r := r) HF.out k hk
    by_cases h0 : r / 2 ^ k = 0
    · have hE : Hid (ofN f r = ofTo f r k) := by
        obtain ⟨j, hj⟩ : ∃ j, 32 = k + j := ⟨32 - k, by omega⟩
        show ofTo f r 32 = _
        rw [hj]
        exact ofTo_done h0 j
      generalize ofTo f r k = s at *
      generalize r / 2 ^ k = q at *
      subst h0
      go_wp2
      go_ret
      exact ⟨by rw [hE.out]; rfl, (Below.refl _ _).alloc (Nat.le_refl _) _⟩
    · have hlt : k < 32 := by
        rcases Nat.lt_or_ge k 32 with h | h
        · exact h
        · obtain rfl : k = 32 := by omega
          exact absurd (Nat.div_eq_of_lt hr) h0
      have hne : (((r / 2 ^ k : Nat) : Int) != 0) = true := by rw [bne_iff_ne]; omega
      have hand := and32_1 _ hq
      have HT : Hid (ofTo f r (k + 1) = if r / 2 ^ k % 2 = 1 then ofTo f r k ^^^ f k else ofTo f r k) := rfl
      have HQ : Hid (r / 2 ^ (k + 1) = r / 2 ^ k / 2) := by
        show _ = _
        rw [Nat.pow_succ, Nat.div_div_eq_div_mul]
      have hcell : (w.alloc (Obj.cells (arrF f) 42)).cell? ⟨w.heap.size, k, none⟩ = some (.int .u32 (f k : Nat)) := by
        rw [cell_of_row _ _ k _ _ _ (heap_alloc_new w _)]
        exact arrF_get f hlt
      have hx := xor32 (ofTo f r k) (f k) hst (HF.out k hlt)
      generalize ofTo f r k = s at *
      generalize r / 2 ^ k = q at *
      rcases Nat.mod_two_eq_zero_or_one q with h2 | h2
      · have hand' : bits .and .u32 (q : Int) 1 = 0 := by rw [hand, h2]; rfl
        have HT2 : Hid (ofTo f r (k + 1) = s) := by rw [HT.out, if_neg (by omega)]; rfl
        clear hand h2 h0
        go_wp2
        go_round
        case rel => exact ⟨k + 1, by omega, by go_num, by rw [HQ.out]; go_num, by rw [HT2.out]⟩
        case measure => simp [intOf]; omega
      · have hand' : bits .and .u32 (q : Int) 1 = 1 := by rw [hand, h2]; rfl
        have HT2 : Hid (ofTo f r (k + 1) = s ^^^ f k) := by rw [HT.out, if_pos h2]; rfl
        clear hand h2 h0
        go_wp2
        go_round
        case rel => exact ⟨k + 1, by omega, by go_num, by rw [HQ.out]; go_num, by rw [HT2.out]⟩
        case measure => simp [intOf]; omega
end Go.Proofs.Ytadnckkipppbcaa
