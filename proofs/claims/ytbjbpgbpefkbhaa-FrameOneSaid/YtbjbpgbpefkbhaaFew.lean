/- One to four turned bits in a whole text of at most 371 bytes. Plain arithmetic; no program is named here. -/
import Derived.Test.YtbjbpgbpefkbhaaZech
import Derived.Test.YtbjbpgbpefkbhaaPairs
namespace Go.Proofs.Ytbjbpgbpefkbhaa
theorem bltI {a b : Nat} : Nat.blt a b = true ↔ a < b := Iff.of_eq Nat.blt_eq
theorem bleI {a b : Nat} : Nat.ble a b = true ↔ a ≤ b := Iff.of_eq Nat.ble_eq
theorem win_of {x y : Nat × Nat} {r : List (Nat × Nat)} (hw : wins (x :: r) = true) (hy : y ∈ r) : x.1 < y.1 ∧ (y.1 - x.1 ≤ 2967 → ¬ (y.2 < y.1 - x.1 ∧ y.1 - x.1 + x.2 ≤ 2967)) := by
  have gen : ∀ (r : List (Nat × Nat)) (x : Nat × Nat), wins (x :: r) = true → ∀ y ∈ r, x.1 < y.1 ∧ (y.1 - x.1 ≤ 2967 → ¬ (y.2 < y.1 - x.1 ∧ y.1 - x.1 + x.2 ≤ 2967)) := by
    intro r
    induction r with
    | nil => intro x _ y hy; cases hy
    | cons z r ih =>
      intro x hw y hy
      rw [wins, win, Bool.and_eq_true, Bool.and_eq_true, Bool.or_eq_true, Bool.and_eq_true] at hw
      obtain ⟨⟨h1, h2⟩, h3⟩ := hw
      have hxz : x.1 < z.1 := bltI.1 h1
      rcases List.mem_cons.1 hy with rfl | hy'
      · refine ⟨hxz, fun hd => ?_⟩
        rcases h2 with h2 | ⟨h2, _⟩
        · have := bltI.1 h2
          omega
        · rintro ⟨g1, g2⟩
          rw [Bool.not_eq_true', Bool.and_eq_false_iff] at h2
          rcases h2 with h2 | h2
          · exact absurd (bltI.2 g1) (by rw [h2]; decide)
          · exact absurd (bleI.2 g2) (by rw [h2]; decide)
      · rcases h2 with h2 | ⟨_, h2⟩
        · have h4 := bltI.1 h2
          have h5 := (ih z h3 y hy').1
          exact ⟨by omega, fun hd => by omega⟩
        · refine ih x ?_ y hy'
          rw [wins, Bool.and_eq_true] at h3
          rw [wins, Bool.and_eq_true]
          exact ⟨h2, h3.2⟩
  exact gen r x hw y hy
theorem zech_pair {l : List (Nat × Nat)} (hw : wins l = true) {p q : Nat × Nat} (hp : p ∈ l) (hq : q ∈ l) (h1 : p.1 < q.1) (h2 : q.1 - p.1 ≤ 2967) : ¬ (q.2 < q.1 - p.1 ∧ q.1 - p.1 + p.2 ≤ 2967) := by
  induction l with
  | nil => cases hp
  | cons x r ih =>
    rcases List.mem_cons.1 hp with rfl | hp' <;> rcases List.mem_cons.1 hq with rfl | hq'
    · omega
    · exact (win_of hw hq').2 h2
    · have := (win_of hw hp').1
      omega
    · rw [wins, Bool.and_eq_true] at hw
      exact ih hw.2 hp' hq'
theorem mask_bit {l : List (Nat × Nat)} {i : Nat} (h : (mask l).testBit i = true) : ∃ z, (z, i) ∈ l := by
  induction l with
  | nil => simp [mask] at h
  | cons x r ih =>
    rw [mask, Nat.testBit_or, Bool.or_eq_true] at h
    rcases h with h | h
    · rw [Nat.testBit_two_pow] at h
      have e : x.2 = i := by simpa using h
      exact ⟨x.1, by rw [← e]; exact List.mem_cons_self⟩
    · obtain ⟨z, hz⟩ := ih h
      exact ⟨z, List.mem_cons_of_mem _ hz⟩
/-- The logarithm of 1 + x^i. -/
theorem zech {i : Nat} (h1 : 1 ≤ i) (h2 : i ≤ 2967) : ∃ z, (z, i) ∈ zl ∧ E z = E 0 ^^^ E i ∧ 2967 < z ∧ z < ord := by
  have hb : (mask zl).testBit i = true := by
    rw [zl_mask]
    have := List.all_eq_true.1 full_all (i - 1) (List.mem_range.2 (by omega))
    rwa [show i - 1 + 1 = i by omega] at this
  obtain ⟨z, hz⟩ := mask_bit hb
  have hg := List.all_eq_true.1 zl_good _ hz
  simp only [good, Bool.and_eq_true] at hg
  obtain ⟨⟨⟨g1, g2⟩, g3⟩, g4⟩ := hg
  have g2 := bltI.1 g2
  have g3 := bltI.1 g3
  have g1 := Nat.eq_of_beq_eq_true g1
  refine ⟨z, hz, ?_, g2, g3⟩
  rw [pow4_E (by unfold ord at g3; omega), pow2_E (by omega)] at g1
  exact g1
theorem no_three {i j : Nat} (h1 : 1 ≤ i) (h2 : i < j) (h3 : j ≤ 2967) : E 0 ^^^ E i ≠ E j := by
  intro h
  obtain ⟨z, _, he, hz1, hz2⟩ := zech h1 (by omega)
  rw [← he] at h
  have := E_inj h
  unfold ord at *
  omega
theorem no_four {i j m : Nat} (h1 : 1 ≤ i) (h2 : i < j) (h3 : 1 ≤ m) (h4 : j + m ≤ 2967) : E 0 ^^^ E i ≠ E j ^^^ E (j + m) := by
  intro h
  obtain ⟨z, hz, he, hz1, hz2⟩ := zech h1 (by omega)
  obtain ⟨y, hy, hf, hy1, hy2⟩ := zech h3 (by omega)
  have e : E j ^^^ E (j + m) = E (j + y) := by
    rw [← bs_E j y, hf, bs_xor, bs_E, bs_E, Nat.add_zero]
  rw [← he, e] at h
  have hm := E_inj h
  have hzy : z = j + y := by
    unfold ord at *
    omega
  have := zech_pair zl_wins hy hz (by show y < z; omega) (by show z - y ≤ 2967; omega)
  apply this
  show i < z - y ∧ z - y + m ≤ 2967
  omega
/-! ### the positions of the turned bits -/
theorem no3 {a b c : Nat} (h1 : a < b) (h2 : b < c) (h3 : c - a ≤ 2967) : E a ^^^ (E b ^^^ E c) ≠ 0 := by
  intro h
  have e : E a ^^^ (E b ^^^ E c) = bs a (E 0 ^^^ (E (b - a) ^^^ E (c - a))) := by
    rw [bs_xor, bs_xor, bs_E, bs_E, bs_E]
    congr 2 <;> (congr 1; omega)
  have h4 : bs a (E 0 ^^^ (E (b - a) ^^^ E (c - a))) = bs a 0 := by rw [← e, h, bs_zero]
  have h5 := bs_inj (xlt (E_lt _) (xlt (E_lt _) (E_lt _))) (by omega) h4
  rw [← Nat.xor_assoc] at h5
  exact no_three (i := b - a) (j := c - a) (by omega) (by omega) h3 (xeq h5)
theorem no4 {a b c d : Nat} (h1 : a < b) (h2 : b < c) (h3 : c < d) (h4 : d - a ≤ 2967) : E a ^^^ (E b ^^^ (E c ^^^ E d)) ≠ 0 := by
  intro h
  have e : E a ^^^ (E b ^^^ (E c ^^^ E d)) = bs a (E 0 ^^^ (E (b - a) ^^^ (E (c - a) ^^^ E (d - a)))) := by
    rw [bs_xor, bs_xor, bs_xor, bs_E, bs_E, bs_E, bs_E]
    congr 2
    · congr 1; omega
    · congr 2 <;> (congr 1; omega)
  have h5 : bs a (E 0 ^^^ (E (b - a) ^^^ (E (c - a) ^^^ E (d - a)))) = bs a 0 := by rw [← e, h, bs_zero]
  have h6 := bs_inj (xlt (E_lt _) (xlt (E_lt _) (xlt (E_lt _) (E_lt _)))) (by omega) h5
  rw [← Nat.xor_assoc] at h6
  have h7 := xeq h6
  rw [show d - a = (c - a) + (d - c) by omega] at h7
  exact no_four (i := b - a) (j := c - a) (m := d - c) (by omega) (by omega) (by omega) (by omega) h7
/-- What the bits at these places do to the register of a text of n bytes. -/
def dsum (n : Nat) : List Nat → Nat
  | [] => 0
  | p :: r => bs (8 * n - p) 1 ^^^ dsum n r
theorem dsum_perm {n : Nat} {l l' : List Nat} (h : List.Perm l l') : dsum n l = dsum n l' := by
  induction h with
  | nil => rfl
  | cons x _ ih => rw [dsum, dsum, ih]
  | swap x y l => rw [dsum, dsum, dsum, dsum, ← Nat.xor_assoc, ← Nat.xor_assoc, Nat.xor_comm (bs (8 * n - y) 1)]
  | trans _ _ ih1 ih2 => rw [ih1, ih2]
def flips (xs : List Nat) : List Nat → List Nat
  | [] => xs
  | p :: r => flipN (flips xs r) p
theorem flips_length (xs : List Nat) : ∀ l, (flips xs l).length = xs.length
  | [] => rfl
  | p :: r => by rw [flips, flipN_length, flips_length xs r]
theorem flip_comm (xs : List Nat) (a b : Nat) : flipN (flipN xs a) b = flipN (flipN xs b) a := by
  by_cases ha : a < 8 * xs.length
  · by_cases hb : b < 8 * xs.length
    · rw [flipN_in (xs := flipN xs a) (by rw [flipN_length]; exact hb), flipN_in (xs := flipN xs b) (by rw [flipN_length]; exact ha), flipN_in ha, flipN_in hb]
      by_cases e : a / 8 = b / 8
      · have hj : b / 8 < xs.length := by omega
        rw [e, List.set_set, List.set_set]
        congr 1
        have g1 : (xs.set (b / 8) (xs.getD (b / 8) 0 ^^^ 2 ^ (a % 8))).getD (b / 8) 0 = xs.getD (b / 8) 0 ^^^ 2 ^ (a % 8) := by simp [List.getD, hj]
        have g2 : (xs.set (b / 8) (xs.getD (b / 8) 0 ^^^ 2 ^ (b % 8))).getD (b / 8) 0 = xs.getD (b / 8) 0 ^^^ 2 ^ (b % 8) := by simp [List.getD, hj]
        rw [g1, g2, Nat.xor_assoc, Nat.xor_assoc, Nat.xor_comm (2 ^ (a % 8))]
      · have g1 : ∀ v, (xs.set (a / 8) v).getD (b / 8) 0 = xs.getD (b / 8) 0 := fun v => by simp [List.getD, e]
        have g2 : ∀ v, (xs.set (b / 8) v).getD (a / 8) 0 = xs.getD (a / 8) 0 := fun v => by simp [List.getD, Ne.symm e]
        rw [g1, g2, List.set_comm _ _ e]
    · rw [flipN_out (xs := flipN xs a) (k := b) (by rw [flipN_length]; omega), flipN_out (xs := xs) (k := b) (by omega)]
  · rw [flipN_out (xs := xs) (k := a) (by omega), flipN_out (xs := flipN xs b) (k := a) (by rw [flipN_length]; omega)]
theorem flips_perm {xs : List Nat} {l l' : List Nat} (h : List.Perm l l') : flips xs l = flips xs l' := by
  induction h with
  | nil => rfl
  | cons x _ ih => rw [flips, flips, ih]
  | swap x y l => rw [flips, flips, flips, flips, flip_comm]
  | trans _ _ ih1 ih2 => rw [ih1, ih2]
theorem flips_feed {xs : List Nat} : ∀ {l : List Nat}, (∀ p ∈ l, p < 8 * xs.length) → feedN top (flips xs l) = feedN top xs ^^^ dsum xs.length l
  | [], _ => by rw [flips, dsum, Nat.xor_zero]
  | p :: r, h => by
    rw [flips, flip_feed (by rw [flips_length]; exact h p List.mem_cons_self), flips_length, flips_feed (fun q hq => h q (List.mem_cons_of_mem _ hq)), dsum, Nat.xor_assoc, Nat.xor_comm (dsum _ _)]
theorem flips_isB {xs : List Nat} (hB : ∀ x ∈ xs, x < 256) : ∀ l, ∀ x ∈ flips xs l, x < 256
  | [] => hB
  | p :: r => flipN_isB (flips_isB hB r) p
/-- Sorted places, four at most: nothing is turned, or the register is another. -/
theorem sorted_law {xs : List Nat} (hn : xs.length ≤ 371) {l : List Nat} (hs : List.Pairwise (fun a b => decide (a ≤ b) = true) l) (hl : l.length ≤ 4) (hr : ∀ p ∈ l, p < 8 * xs.length) :
    flips xs l = xs ∨ dsum xs.length l ≠ 0 := by
  have pe : ∀ p, bs (8 * xs.length - p) 1 = E (8 * xs.length - p + 31) := fun p => P_E _
  have two : ∀ a b, a < b → b < 8 * xs.length → bs (8 * xs.length - a) 1 ^^^ bs (8 * xs.length - b) 1 ≠ 0 := fun a b hab hb h =>
    P_ne (a := 8 * xs.length - b) (b := 8 * xs.length - a) (by omega) (by unfold ord; omega) (xeq h).symm
  match l, hl with
  | [], _ => exact .inl rfl
  | [a], _ => exact .inr (by simp only [dsum, Nat.xor_zero]; exact P_ne_zero _)
  | [a, b], _ =>
    have ha := hr a (by simp)
    have hb := hr b (by simp)
    simp at hs
    by_cases e : a = b
    · subst e
      exact .inl (flip_flip ha)
    · exact .inr (by simp only [dsum, Nat.xor_zero]; exact two a b (by omega) hb)
  | [a, b, c], _ =>
    have ha := hr a (by simp)
    have hb := hr b (by simp)
    have hc := hr c (by simp)
    simp at hs
    obtain ⟨⟨s1, s2⟩, s3⟩ := hs
    refine .inr ?_
    simp only [dsum, Nat.xor_zero]
    by_cases e : a = b
    · subst e
      rw [xcan]
      exact P_ne_zero _
    · by_cases e2 : b = c
      · subst e2
        rw [Nat.xor_self, Nat.xor_zero]
        exact P_ne_zero _
      · rw [pe, pe, pe]
        have := no3 (a := 8 * xs.length - c + 31) (b := 8 * xs.length - b + 31) (c := 8 * xs.length - a + 31) (by omega) (by omega) (by omega)
        rwa [Nat.xor_comm, Nat.xor_comm (E (8 * xs.length - b + 31)), Nat.xor_assoc] at this
  | [a, b, c, d], _ =>
    have ha := hr a (by simp)
    have hb := hr b (by simp)
    have hc := hr c (by simp)
    have hd := hr d (by simp)
    simp at hs
    obtain ⟨⟨s1, s2, s3⟩, ⟨s4, s5⟩, s6⟩ := hs
    simp only [dsum, Nat.xor_zero]
    by_cases e : a = b
    · subst e
      by_cases e3 : c = d
      · subst e3
        refine .inl ?_
        show flipN (flipN (flipN (flipN xs c) c) a) a = xs
        rw [flip_flip hc, flip_flip ha]
      · refine .inr ?_
        rw [xcan]
        exact two c d (by omega) hd
    · refine .inr ?_
      by_cases e2 : b = c
      · subst e2
        rw [xcan]
        exact two a d (by omega) hd
      · by_cases e3 : c = d
        · subst e3
          rw [Nat.xor_self, Nat.xor_zero]
          exact two a b (by omega) hb
        · rw [pe, pe, pe, pe]
          have := no4 (a := 8 * xs.length - d + 31) (b := 8 * xs.length - c + 31) (c := 8 * xs.length - b + 31) (d := 8 * xs.length - a + 31) (by omega) (by omega) (by omega) (by omega)
          intro h
          apply this
          rw [← h]
          generalize E (8 * xs.length - a + 31) = A
          generalize E (8 * xs.length - b + 31) = B
          generalize E (8 * xs.length - c + 31) = C
          generalize E (8 * xs.length - d + 31) = D
          rw [← Nat.xor_assoc D C, ← Nat.xor_assoc A B, Nat.xor_comm (D ^^^ C), Nat.xor_comm B A, Nat.xor_comm D C]
/-- The places that the text has. -/
def places (n : Nat) : List Int → List Nat
  | [] => []
  | k :: r => if 0 ≤ k ∧ k < 8 * n then k.toNat :: places n r else places n r
theorem places_length (n : Nat) : ∀ l, (places n l).length ≤ l.length
  | [] => Nat.le_refl _
  | k :: r => by
    have := places_length n r
    unfold places
    split <;> simp <;> omega
theorem places_lt {n : Nat} : ∀ {l : List Int}, ∀ p ∈ places n l, p < 8 * n
  | [], p, h => by cases h
  | k :: r, p, h => by
    unfold places at h
    split at h
    · rcases List.mem_cons.1 h with rfl | h
      · omega
      · exact places_lt p h
    · exact places_lt p h
def flipsI (xs : List Nat) : List Int → List Nat
  | [] => xs
  | k :: r => flipN (flipsI xs r) k
theorem flipsI_places (xs : List Nat) : ∀ l, flipsI xs l = flips xs (places xs.length l)
  | [] => rfl
  | k :: r => by
    have ih := flipsI_places xs r
    have hl := flips_length xs (places xs.length r)
    rw [flipsI, ih]
    by_cases h : 0 ≤ k ∧ k < 8 * xs.length
    · rw [show places xs.length (k :: r) = k.toNat :: places xs.length r from if_pos h, flips, show ((k.toNat : Nat) : Int) = k by omega]
    · rw [show places xs.length (k :: r) = places xs.length r from if_neg h]
      exact flipN_out (by rw [hl]; exact h)
theorem few_law {xs : List Nat} (hx : ∀ x ∈ xs, x < 256) (h4 : 4 ≤ xs.length) (hn : xs.length ≤ 371) (hw : wholeN xs = true) (i j k l : Int) :
    xs = flipN (flipN (flipN (flipN xs i) j) k) l ∨ wholeN (flipN (flipN (flipN (flipN xs i) j) k) l) = false := by
  have e : flipN (flipN (flipN (flipN xs i) j) k) l = flips xs ((places xs.length [l, k, j, i]).mergeSort (fun a b => decide (a ≤ b))) := by
    rw [flips_perm (List.mergeSort_perm _ _), ← flipsI_places]
    rfl
  rw [e]
  have hlen : ((places xs.length [l, k, j, i]).mergeSort (fun a b => decide (a ≤ b))).length ≤ 4 := by
    rw [List.length_mergeSort]
    exact places_length _ _
  have hr : ∀ p ∈ (places xs.length [l, k, j, i]).mergeSort (fun a b => decide (a ≤ b)), p < 8 * xs.length := fun p hp => places_lt p ((List.mergeSort_perm _ _).mem_iff.1 hp)
  have hs := List.pairwise_mergeSort (le := fun a b : Nat => decide (a ≤ b)) (by intro a b c h1 h2; simp at *; omega) (by intro a b; simp; omega) (places xs.length [l, k, j, i])
  rcases sorted_law hn hs hlen hr with h | h
  · exact .inl h.symm
  · exact .inr (not_whole hx (flips_isB hx _) h4 (flips_length _ _) hw (flips_feed hr) h)
end Go.Proofs.Ytbjbpgbpefkbhaa
