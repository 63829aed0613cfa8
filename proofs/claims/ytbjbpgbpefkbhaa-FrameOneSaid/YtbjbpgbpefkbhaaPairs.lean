/- What turned bits do to a whole text: pairs, bursts. Plain arithmetic; no program is named here. -/
import Derived.Test.YtbjbpgbpefkbhaaOrder
namespace Go.Proofs.Ytbjbpgbpefkbhaa
theorem flip_flip {xs : List Nat} {k : Nat} (hk : k < 8 * xs.length) : flipN (flipN xs k) k = xs := by
  rw [flipN_in (xs := flipN xs k) (by rw [flipN_length]; exact hk), flipN_in hk]
  have hj : k / 8 < xs.length := by omega
  have e : (xs.set (k / 8) (xs.getD (k / 8) 0 ^^^ 2 ^ (k % 8))).getD (k / 8) 0 = xs.getD (k / 8) 0 ^^^ 2 ^ (k % 8) := by
    simp [List.getD, hj]
  rw [e, xcan', List.set_set]
  apply List.ext_getElem
  · simp
  · intro i h1 h2
    rw [List.getElem_set]
    split
    · rename_i h
      subst h
      simp [List.getD, hj]
    · rfl
/-- A text of which another one's register differs is not whole where that is. -/
theorem not_whole {xs ys : List Nat} (hx : ∀ x ∈ xs, x < 256) (hy : ∀ x ∈ ys, x < 256) (h4 : 4 ≤ xs.length) (hl : ys.length = xs.length) (hw : wholeN xs = true)
    {d : Nat} (hf : feedN top ys = feedN top xs ^^^ d) (hd : d ≠ 0) : wholeN ys = false := by
  rcases Bool.eq_false_or_eq_true (wholeN ys) with h | h
  · exfalso
    have h1 := (wholeN_iff hy (by omega)).1 h
    rw [hf, (wholeN_iff hx h4).1 hw] at h1
    apply hd
    have := xcan (bs 32 top) d
    rw [h1, Nat.xor_self] at this
    exact this.symm
  · exact h
theorem in_range {xs : List Nat} {k : Int} (h : 0 ≤ k ∧ k < 8 * xs.length) : ∃ m : Nat, k = m ∧ m < 8 * xs.length := ⟨k.toNat, by omega, by omega⟩
theorem pairs_law {xs : List Nat} (hx : ∀ x ∈ xs, x < 256) (h4 : 4 ≤ xs.length) (hn : xs.length ≤ 536870000) (hw : wholeN xs = true) (i j : Int) :
    xs = flipN (flipN xs i) j ∨ wholeN (flipN (flipN xs i) j) = false := by
  by_cases hi : 0 ≤ i ∧ i < 8 * xs.length
  · obtain ⟨a, rfl, ha⟩ := in_range hi
    by_cases hj : 0 ≤ j ∧ j < 8 * xs.length
    · obtain ⟨b, rfl, hb⟩ := in_range hj
      by_cases hab : a = b
      · subst hab
        exact .inl (flip_flip ha).symm
      · refine .inr (not_whole hx (flipN_isB (flipN_isB hx _) _) h4 (by rw [flipN_length, flipN_length]) hw (d := bs (8 * xs.length - a) 1 ^^^ bs (8 * xs.length - b) 1) ?_ ?_)
        · rw [flip_feed (by rw [flipN_length]; exact hb), flip_feed ha, flipN_length, Nat.xor_assoc]
        · intro h
          have h1 := xeq h
          rcases Nat.lt_or_ge a b with h2 | h2
          · exact P_ne (a := 8 * xs.length - b) (b := 8 * xs.length - a) (by omega) (by unfold ord; omega) h1.symm
          · exact P_ne (a := 8 * xs.length - a) (b := 8 * xs.length - b) (by omega) (by unfold ord; omega) h1
    · rw [flipN_out (xs := flipN xs a) (by rw [flipN_length]; exact hj)]
      exact .inr (not_whole hx (flipN_isB hx _) h4 (flipN_length _ _) hw (flip_feed ha top) (P_ne_zero _))
  · rw [flipN_out hi]
    by_cases hj : 0 ≤ j ∧ j < 8 * xs.length
    · obtain ⟨b, rfl, hb⟩ := in_range hj
      exact .inr (not_whole hx (flipN_isB hx _) h4 (flipN_length _ _) hw (flip_feed hb top) (P_ne_zero _))
    · exact .inl (flipN_out hj).symm
/-! ### bursts -/
/-- The bits of the pattern that fall into the text, below i. -/
def caught (n : Nat) (k : Int) (pat : Nat) : Nat → Nat
  | 0 => 0
  | i + 1 => if pat / 2 ^ i % 2 = 1 ∧ 0 ≤ k + i ∧ k + i < 8 * n then caught n k pat i + 2 ^ i else caught n k pat i
theorem caught_lt (n : Nat) (k : Int) (pat : Nat) : ∀ i, caught n k pat i < 2 ^ i
  | 0 => by unfold caught; omega
  | i + 1 => by
    have := caught_lt n k pat i
    rw [Nat.pow_succ]
    unfold caught
    split <;> omega
theorem add_xor {c i : Nat} (h : c < 2 ^ i) : c + 2 ^ i = c ^^^ 2 ^ i := by
  have h1 := split2 i (c + 2 ^ i)
  rw [Nat.add_div_right _ (Nat.two_pow_pos i), Nat.div_eq_of_lt h, Nat.add_mod_right, Nat.mod_eq_of_lt h, Nat.mul_one, Nat.xor_comm] at h1
  exact h1
theorem turned_feed (xs : List Nat) (k : Int) (hk : k < 8 * xs.length) (pat : Nat) (m : Nat) (hm : k + m = 8 * xs.length) : ∀ i, i ≤ 32 →
    feedN top (turnedTo xs k pat i).1 = feedN top xs ^^^ bs m (caught xs.length k pat i) ∧ ((turnedTo xs k pat i).2 = 0 ↔ caught xs.length k pat i = 0) ∧ (∀ (_ : ∀ x ∈ xs, x < 256), ∀ x ∈ (turnedTo xs k pat i).1, x < 256)
  | 0, _ => ⟨by show _ = _ ^^^ bs m 0; rw [bs_zero, Nat.xor_zero]; rfl, by simp [turnedTo, caught], fun h => h⟩
  | i + 1, hi => by
    obtain ⟨h1, h2, h3⟩ := turned_feed xs k hk pat m hm i (by omega)
    by_cases hh : pat / 2 ^ i % 2 = 1 ∧ 0 ≤ k + i ∧ k + i < 8 * xs.length
    · obtain ⟨g1, g2, g3⟩ := hh
      rw [turnedTo_hit g1 g2 g3]
      unfold caught
      rw [if_pos ⟨g1, g2, g3⟩]
      obtain ⟨q, hq⟩ := Int.eq_ofNat_of_zero_le g2
      refine ⟨?_, ?_, fun hB => ?_⟩
      · show feedN top (flipN (turnedTo xs k pat i).1 (k + i)) = _
        rw [hq, flip_feed (by rw [turnedTo_length]; omega), turnedTo_length, h1, Nat.xor_assoc, add_xor (caught_lt _ _ _ _), bs_xor, bs_bit m i (by omega)]
        congr 3
        omega
      · have := Nat.two_pow_pos i
        show (turnedTo xs k pat i).2 + 1 = 0 ↔ _
        omega
      · exact flipN_isB (h3 hB) _
    · rw [turnedTo_miss hh]
      unfold caught
      rw [if_neg hh]
      exact ⟨h1, h2, h3⟩
theorem bursts_law {xs : List Nat} (hx : ∀ x ∈ xs, x < 256) (h4 : 4 ≤ xs.length) (hw : wholeN xs = true) (k : Int) (hk : k < 8 * xs.length) (pat : Nat) :
    (turnedTo xs k pat 32).2 = 0 ∨ wholeN (turnedTo xs k pat 32).1 = false := by
  obtain ⟨m, hm⟩ : ∃ m : Nat, k + m = 8 * xs.length := ⟨(8 * xs.length - k).toNat, by omega⟩
  obtain ⟨h1, h2, h3⟩ := turned_feed xs k hk pat m hm 32 (Nat.le_refl _)
  by_cases h0 : (turnedTo xs k pat 32).2 = 0
  · exact .inl h0
  · refine .inr (not_whole hx (h3 hx) h4 (turnedTo_length _ _ _ _) hw h1 fun e => h0 (h2.2 ?_))
    have h5 : bs m (caught xs.length k pat 32) = bs m 0 := by rw [e, bs_zero]
    exact bs_inj (caught_lt xs.length k pat 32) (by omega) h5
end Go.Proofs.Ytbjbpgbpefkbhaa
