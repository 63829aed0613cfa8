/- The checksum as a plain function: the register behind a text, by half bytes. No program is named here. -/
import Init
namespace Go.Proofs.YtbjbpgbpefkbhaaDoor
def tabL : List Nat := [0, 498536548, 997073096, 651767980, 1994146192, 1802195444, 1303535960, 1342533948, 3988292384, 4027552580, 3604390888, 3412177804, 2607071920, 2262029012, 2685067896, 3183342108]
/-- What becomes of a half byte. -/
def tab (i : Nat) : Nat := tabL.getD i 0
theorem tab_lt (i : Nat) : tab i < 4294967296 := by
  unfold tab
  rcases Nat.lt_or_ge i 16 with h | h
  · have : ∀ j : Fin 16, tabL.getD j.val 0 < 4294967296 := by decide
    exact this ⟨i, h⟩
  · simp [List.getD, tabL, h]
def nib (r : Nat) : Nat := tab (r % 16) ^^^ (r / 16)
theorem nib_lt {r : Nat} (h : r < 4294967296) : nib r < 4294967296 :=
  Nat.xor_lt_two_pow (n := 32) (tab_lt _) (by omega)
def stepN (r x : Nat) : Nat := nib (nib (r ^^^ x))
def feedN (r : Nat) (xs : List Nat) : Nat := xs.foldl stepN r
theorem stepN_lt {r x : Nat} (h : r < 4294967296) (hx : x < 256) : stepN r x < 4294967296 :=
  nib_lt (nib_lt (Nat.xor_lt_two_pow (n := 32) h (by omega)))
theorem feedN_lt {xs : List Nat} (hx : ∀ x ∈ xs, x < 256) : ∀ {r : Nat}, r < 4294967296 → feedN r xs < 4294967296 := by
  induction xs with
  | nil => intro r h; exact h
  | cons x xs ih => intro r h; exact ih (fun y hy => hx y (by simp [hy])) (stepN_lt h (hx x (by simp)))
theorem feedN_take {xs : List Nat} {k : Nat} (r : Nat) (h : k < xs.length) : feedN r (xs.take (k + 1)) = stepN (feedN r (xs.take k)) (xs.getD k 0) := by
  unfold feedN
  rw [List.take_succ_eq_append_getElem h, List.foldl_append]
  simp [List.getD, h]
/-- The complement of a register. -/
def comp (a : Nat) : Nat := 4294967295 - a
theorem comp_lt (a : Nat) : comp a < 4294967296 := by unfold comp; omega
/-- The sum of a text with xs behind it, from the text's own. -/
def updN (c : Nat) (xs : List Nat) : Nat := comp (feedN (comp c) xs)
theorem updN_lt (c : Nat) (xs : List Nat) : updN c xs < 4294967296 := comp_lt _
/-- The four bytes of a sum, the lowest first. -/
def le4 (s : Nat) : List Nat := [s % 256, s / 256 % 256, s / 65536 % 256, s / 16777216 % 256]
theorem le4_isB (s : Nat) : ∀ x ∈ le4 s, x < 256 := by
  intro x hx
  simp only [le4, List.mem_cons, List.not_mem_nil, or_false] at hx
  omega
/-- A text with its sum behind it. -/
def sealN (xs : List Nat) : List Nat := xs ++ le4 (updN 0 xs)
theorem sealN_length (xs : List Nat) : (sealN xs).length = xs.length + 4 := by simp [sealN, le4]
/-- Does a text end with the sum of what stands ahead? -/
def wholeN (xs : List Nat) : Bool := decide (4 ≤ xs.length ∧ xs.drop (xs.length - 4) = le4 (updN 0 (xs.take (xs.length - 4))))
theorem wholeN_short {xs : List Nat} (h : xs.length < 4) : wholeN xs = false := by
  unfold wholeN
  exact decide_eq_false fun e => by omega
theorem drop_four {xs : List Nat} {k : Nat} (h : xs.length = k + 4) : xs.drop k = [xs.getD k 0, xs.getD (k + 1) 0, xs.getD (k + 2) 0, xs.getD (k + 3) 0] := by
  apply List.ext_getElem
  · simp [h]
  · intro i h1 h2
    simp at h2
    rcases i with _ | _ | _ | _ | i
    · simp [List.getD, h]
    · simp [List.getD, h]
    · simp [List.getD, h]
    · simp [List.getD, h]
    · omega
theorem wholeN_four {xs : List Nat} {k : Nat} (h : xs.length = k + 4) : wholeN xs =
    decide (xs.getD k 0 = updN 0 (xs.take k) % 256 ∧ xs.getD (k + 1) 0 = updN 0 (xs.take k) / 256 % 256 ∧ xs.getD (k + 2) 0 = updN 0 (xs.take k) / 65536 % 256 ∧ xs.getD (k + 3) 0 = updN 0 (xs.take k) / 16777216 % 256) := by
  unfold wholeN
  rw [show xs.length - 4 = k by omega, drop_four h]
  apply decide_eq_decide.2
  simp [le4, h]
/-- A text with one bit turned, if it has it. -/
def flipN (xs : List Nat) (k : Int) : List Nat := if 0 ≤ k ∧ k < 8 * xs.length then xs.set (k.toNat / 8) (xs.getD (k.toNat / 8) 0 ^^^ 2 ^ (k.toNat % 8)) else xs
theorem flipN_in {xs : List Nat} {k : Nat} (h : k < 8 * xs.length) : flipN xs k = xs.set (k / 8) (xs.getD (k / 8) 0 ^^^ 2 ^ (k % 8)) := by
  unfold flipN
  rw [if_pos (by omega), Int.toNat_natCast]
theorem flipN_out {xs : List Nat} {k : Int} (h : ¬ (0 ≤ k ∧ k < 8 * xs.length)) : flipN xs k = xs := if_neg h
theorem flipN_length (xs : List Nat) (k : Int) : (flipN xs k).length = xs.length := by
  unfold flipN
  split <;> simp
/-- A text with the first i bits of pattern turned, its bit 0 at the text's bit k; how many were turned. -/
def turnedTo (xs : List Nat) (k : Int) (pat : Nat) : Nat → List Nat × Nat
  | 0 => (xs, 0)
  | i + 1 => if pat / 2 ^ i % 2 = 1 ∧ 0 ≤ k + i ∧ k + i < 8 * xs.length then (flipN (turnedTo xs k pat i).1 (k + i), (turnedTo xs k pat i).2 + 1) else turnedTo xs k pat i
theorem turnedTo_length (xs : List Nat) (k : Int) (pat : Nat) : ∀ i, (turnedTo xs k pat i).1.length = xs.length
  | 0 => rfl
  | i + 1 => by
    rw [turnedTo]
    split
    · rw [flipN_length, turnedTo_length xs k pat i]
    · exact turnedTo_length xs k pat i
theorem turnedTo_le (xs : List Nat) (k : Int) (pat : Nat) : ∀ i, (turnedTo xs k pat i).2 ≤ i
  | 0 => Nat.le_refl _
  | i + 1 => by
    have := turnedTo_le xs k pat i
    rw [turnedTo]
    split
    · show (turnedTo xs k pat i).2 + 1 ≤ i + 1
      omega
    · omega
theorem turnedTo_hit {xs : List Nat} {k : Int} {pat i : Nat} (h : pat / 2 ^ i % 2 = 1) (h0 : 0 ≤ k + i) (h1 : k + i < 8 * xs.length) :
    turnedTo xs k pat (i + 1) = (flipN (turnedTo xs k pat i).1 (k + i), (turnedTo xs k pat i).2 + 1) := by
  rw [turnedTo, if_pos ⟨h, h0, h1⟩]
theorem turnedTo_miss {xs : List Nat} {k : Int} {pat i : Nat} (h : ¬ (pat / 2 ^ i % 2 = 1 ∧ 0 ≤ k + i ∧ k + i < 8 * xs.length)) : turnedTo xs k pat (i + 1) = turnedTo xs k pat i := by
  rw [turnedTo, if_neg h]
end Go.Proofs.YtbjbpgbpefkbhaaDoor
