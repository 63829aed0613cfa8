/- What Build answers, in plain Lean. -/
import Derived.Test.YtkpbeibcfaenhaaGb
namespace Go.Proofs.Ytkpbeibcfaenhaa
def long (x : Chg) : Bool := !x.del && decide (128 < x.val.length)
def anyLong (X : Nat → Chg) : Nat → Bool
  | 0 => false
  | n + 1 => anyLong X n || long (X n)
theorem anyLong_at {X : Nat → Chg} {n k : Nat} (h : k < n) (hl : long (X k) = true) : anyLong X n = true := by
  induction n with
  | zero => omega
  | succ n ih =>
    rw [anyLong]
    by_cases e : k = n
    · subst e; rw [hl, Bool.or_true]
    · rw [ih (by omega), Bool.true_or]
theorem anyLong_not {X : Nat → Chg} {n : Nat} (h : anyLong X n = false) {k : Nat} (hk : k < n) : long (X k) = false := by
  cases hl : long (X k) with
  | false => rfl
  | true => rw [anyLong_at hk hl] at h; cases h
def heldN (X : Nat → Chg) (n most : Nat) : Nat := if most < n then 31 else if anyLong X n then 32 else 0
/-- Has one of the first j changes the key k? -/
def hasKey (X : Nat → Chg) (k : List Nat) : Nat → Bool
  | 0 => false
  | j + 1 => hasKey X k j || decide (k = (X j).key)
theorem hasKey_at {X : Nat → Chg} {k : List Nat} {n j : Nat} (h : j < n) (hl : k = (X j).key) : hasKey X k n = true := by
  induction n with
  | zero => omega
  | succ n ih =>
    rw [hasKey]
    by_cases e : j = n
    · subst e; rw [decide_eq_true hl, Bool.or_true]
    · rw [ih (by omega), Bool.true_or]
/-- The number of the first change whose key an earlier one has; -1: there is none. -/
def repN (X : Nat → Chg) : Nat → Int
  | 0 => -1
  | n + 1 => if 0 ≤ repN X n then repN X n else if hasKey X (X n).key n then n else -1
theorem repN_keep {X : Nat → Chg} {k n : Nat} (h : k ≤ n) (h0 : 0 ≤ repN X k) : repN X n = repN X k := by
  induction n with
  | zero => rw [show k = 0 by omega]
  | succ n ih =>
    by_cases e : k = n + 1
    · rw [e]
    · rw [repN, ih (by omega), if_pos h0]
theorem repN_first {X : Nat → Chg} {k : Nat} (h0 : repN X k < 0) (hd : hasKey X (X k).key k = true) : repN X (k + 1) = k := by
  rw [repN, if_neg (by omega), if_pos hd]
theorem repN_none {X : Nat → Chg} {k : Nat} (h0 : repN X k < 0) (hd : hasKey X (X k).key k = false) : repN X (k + 1) < 0 := by
  rw [repN, if_neg (by omega), hd]
  simp
theorem repN_neg {X : Nat → Chg} {k : Nat} (h : repN X k < 0) : repN X k = -1 := by
  induction k with
  | zero => rfl
  | succ k ih =>
    rw [repN] at h ⊢
    split
    · rename_i h1
      rw [if_pos h1] at h
      omega
    · rename_i h1
      rw [if_neg h1] at h
      split
      · rename_i h2
        rw [if_pos h2] at h
        omega
      · rfl
/-- The bytes of a change. -/
def chB (x : Chg) : List Nat := if x.del then 2 :: x.key else 1 :: (x.key ++ (x.val.length % 256 :: x.val.length / 256 % 256 :: x.val))
def layF (X : Nat → Chg) : Nat → List Nat
  | 0 => []
  | n + 1 => layF X n ++ chB (X n)
def layN (X : Nat → Chg) (n : Nat) : List Nat := n % 256 :: n / 256 % 256 :: layF X n
def buildE (X : Nat → Chg) (n : Nat) : Nat := if heldN X n 64 = 0 then (if 0 ≤ repN X n then 33 else 0) else heldN X n 64
theorem heldN_le {X : Nat → Chg} {n m : Nat} (h : heldN X n m = 0) : n ≤ m ∧ anyLong X n = false := by
  unfold heldN at h
  split at h
  · omega
  · split at h
    · omega
    · rename_i h1 h2
      exact ⟨by omega, by simpa using h2⟩
theorem chB_length {x : Chg} (hk : x.key.length = 32) (hl : long x = false) : (chB x).length ≤ 163 := by
  unfold chB
  cases hd : x.del with
  | true => simp [hk]
  | false =>
    have : x.val.length ≤ 128 := by
      unfold long at hl
      rw [hd] at hl
      simpa using hl
    simp [hk]
    omega
theorem layF_length {X : Nat → Chg} {n : Nat} (hk : ∀ i, i < n → (X i).key.length = 32) (hl : anyLong X n = false) : (layF X n).length ≤ n * 163 := by
  induction n with
  | zero => simp [layF]
  | succ n ih =>
    have h1 := chB_length (hk n (by omega)) (anyLong_not hl (Nat.lt_succ_self n))
    have h2 := ih (fun i hi => hk i (by omega)) (by
      cases h : anyLong X n with
      | false => rfl
      | true => rw [anyLong, h] at hl; cases hl)
    rw [layF, List.length_append]
    omega
end Go.Proofs.Ytkpbeibcfaenhaa
