/- A linear turn of a register by what becomes of each bit. Plain arithmetic; no program is named here. -/
import Derived.Test.YtadnckkipppbcaaOrder
namespace Go.Proofs.Ytadnckkipppbcaa
/-- What becomes of the first i bits of r. -/
def ofTo (f : Nat → Nat) (r : Nat) : Nat → Nat
  | 0 => 0
  | i + 1 => if r / 2 ^ i % 2 = 1 then ofTo f r i ^^^ f i else ofTo f r i
def ofN (f : Nat → Nat) (r : Nat) : Nat := ofTo f r 32
theorem ofTo_lt {f : Nat → Nat} {r : Nat} (hf : ∀ i, i < 32 → f i < 4294967296) : ∀ i, i ≤ 32 → ofTo f r i < 4294967296
  | 0, _ => by unfold ofTo; omega
  | i + 1, h => by
    have ih := ofTo_lt (r := r) hf i (by omega)
    unfold ofTo
    split
    · exact xlt ih (hf i (by omega))
    · exact ih
theorem ofTo_done {f : Nat → Nat} {r i : Nat} (h : r / 2 ^ i = 0) : ∀ k, ofTo f r (i + k) = ofTo f r i
  | 0 => rfl
  | k + 1 => by
    rw [← Nat.add_assoc, ofTo, if_neg, ofTo_done h k]
    rw [Nat.pow_add, ← Nat.div_div_eq_div_mul, h, Nat.zero_div]
    decide
theorem ofTo_xor (f : Nat → Nat) (a b : Nat) : ∀ i, ofTo f (a ^^^ b) i = ofTo f a i ^^^ ofTo f b i
  | 0 => by simp [ofTo]
  | i + 1 => by
    have ih := ofTo_xor f a b i
    simp only [ofTo]
    rw [bit_xor, ih]
    rcases Nat.mod_two_eq_zero_or_one (a / 2 ^ i) with ha | ha <;> rcases Nat.mod_two_eq_zero_or_one (b / 2 ^ i) with hb | hb <;> simp only [ha, hb]
    · simp
    · simp only [Nat.zero_xor, ite_true]
      rw [if_neg (by omega), Nat.xor_assoc]
    · simp only [Nat.xor_zero, ite_true]
      rw [if_neg (by omega), Nat.xor_assoc, Nat.xor_comm (ofTo f b i), ← Nat.xor_assoc]
    · rw [if_neg (by decide)]
      simp only [ite_true]
      rw [xac, Nat.xor_self, Nat.xor_zero]
/-- The turn by the images of the bits under a linear map is that map. -/
theorem ofN_linear {F : Nat → Nat} (hF : ∀ a b, F (a ^^^ b) = F a ^^^ F b) {r : Nat} (hr : r < 4294967296) : ofN (fun i => F (2 ^ i)) r = F r := by
  refine agree (f := ofN (fun i => F (2 ^ i))) (g := F) (fun a b => ofTo_xor _ a b 32) hF 32 ?_ r hr
  have bit : ∀ i j, 2 ^ i / 2 ^ j % 2 = if i = j then 1 else 0 := by
    intro i j
    have h := Nat.testBit_two_pow (n := i) (m := j)
    rw [Nat.testBit_eq_decide_div_mod_eq] at h
    have h2 := Nat.mod_two_eq_zero_or_one (2 ^ i / 2 ^ j)
    by_cases e : i = j
    · rw [if_pos e]
      simpa [e] using h
    · rw [if_neg e]
      rcases h2 with h2 | h2
      · exact h2
      · rw [h2] at h
        simp [e] at h
  have low : ∀ i j, j ≤ i → ofTo (fun i => F (2 ^ i)) (2 ^ i) j = 0 := by
    intro i j
    induction j with
    | zero => intro _; rfl
    | succ j ih =>
      intro h
      rw [ofTo, bit, if_neg (show ¬ i = j by omega), if_neg (by decide), ih (by omega)]
  intro i hi
  show ofTo (fun i => F (2 ^ i)) (2 ^ i) 32 = F (2 ^ i)
  obtain ⟨k, hk⟩ : ∃ k, 32 = (i + 1) + k := ⟨31 - i, by omega⟩
  rw [hk, ofTo_done (by rw [Nat.div_eq_of_lt (Nat.pow_lt_pow_right (by omega) (by omega))])]
  rw [ofTo, bit, if_pos rfl, if_pos rfl, low i i (Nat.le_refl _), Nat.zero_xor]
end Go.Proofs.Ytadnckkipppbcaa
