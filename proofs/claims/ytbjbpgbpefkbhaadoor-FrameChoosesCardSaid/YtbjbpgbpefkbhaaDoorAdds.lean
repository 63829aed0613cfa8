/- The sum is affine. Plain arithmetic; no program is named here. -/
import Derived.Test.YtbjbpgbpefkbhaaDoorField
namespace Go.Proofs.YtbjbpgbpefkbhaaDoor
/-- The first k values of f. -/
def upTo (f : Nat → Nat) (k : Nat) : List Nat := (List.range k).map f
theorem upTo_succ (f : Nat → Nat) (k : Nat) : upTo f (k + 1) = upTo f k ++ [f k] := by simp [upTo, List.range_succ]
theorem upTo_length (f : Nat → Nat) (k : Nat) : (upTo f k).length = k := by simp [upTo]
theorem upTo_self (xs : List Nat) : upTo (fun i => xs.getD i 0) xs.length = xs := by
  apply List.ext_getElem
  · simp [upTo]
  · intro i h1 h2
    simp [upTo, List.getD, h2]
theorem feed_zip (f g : Nat → Nat) : ∀ k r s, feedN (r ^^^ s) (upTo (fun i => f i ^^^ g i) k) = feedN r (upTo f k) ^^^ feedN s (upTo g k)
  | 0, _, _ => rfl
  | k + 1, r, s => by
    rw [upTo_succ, upTo_succ, upTo_succ, feedN_append, feedN_append, feedN_append, feed_zip f g k r s]
    show stepN _ _ = stepN _ _ ^^^ stepN _ _
    rw [stepN_bs, stepN_bs, stepN_bs, ← bs_xor, xac]
theorem feed_zeros : ∀ k, feedN 0 (upTo (fun _ => 0) k) = 0
  | 0 => rfl
  | k + 1 => by
    rw [upTo_succ, feedN_append, feed_zeros k]
    decide
theorem adds_law (f g : Nat → Nat) (k : Nat) (hf : ∀ x ∈ upTo f k, x < 256) (hg : ∀ x ∈ upTo g k, x < 256) (hz : ∀ x ∈ upTo (fun i => f i ^^^ g i) k, x < 256) (ho : ∀ x ∈ upTo (fun _ => 0) k, x < 256) :
    (updN 0 (upTo f k) ^^^ updN 0 (upTo g k)) ^^^ updN 0 (upTo (fun _ => 0) k) = updN 0 (upTo (fun i => f i ^^^ g i) k) := by
  have ht : top < 4294967296 := by unfold top; omega
  rw [updN_zero, updN_zero, updN_zero, updN_zero, comp_xor (feedN_lt hf ht), comp_xor (feedN_lt hg ht), comp_xor (feedN_lt ho ht), comp_xor (feedN_lt hz ht)]
  have e1 := feed_zip f g k top 0
  have e2 := feedN_over (upTo g k) 0 top
  have e3 := feedN_over (upTo (fun _ => 0) k) 0 top
  rw [Nat.zero_xor, upTo_length] at e2 e3
  rw [feed_zeros, Nat.zero_xor] at e3
  rw [Nat.xor_zero] at e1
  rw [e1, e2, e3]
  generalize feedN top (upTo f k) = a
  generalize feedN 0 (upTo g k) = b
  generalize bs (8 * k) top = c
  generalize top = t
  rw [xac t a t, Nat.xor_self, Nat.zero_xor, ← Nat.xor_assoc a b c, xac (a ^^^ b) c t c, Nat.xor_self, Nat.xor_zero, Nat.xor_comm (a ^^^ b) t]
end Go.Proofs.YtbjbpgbpefkbhaaDoor
