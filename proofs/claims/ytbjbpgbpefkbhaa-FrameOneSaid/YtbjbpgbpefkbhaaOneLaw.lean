/- Two superblocks that follow one another, and a burst in either. Plain facts; no program is named here. -/
import Derived.Test.YtbjbpgbpefkbhaaLawFrameSuperBursts
import Derived.Test.YtbjbpgbpefkbhaaChoice
namespace Go.Proofs.Ytbjbpgbpefkbhaa
theorem flip_far {xs : List Nat} {m : Int} {j : Nat} (h : m < 8 * j ∨ 8 * j + 7 < m) : (flipN xs m).getD j 0 = xs.getD j 0 := by
  by_cases hm : 0 ≤ m ∧ m < 8 * xs.length
  · obtain ⟨q, rfl⟩ := Int.eq_ofNat_of_zero_le hm.1
    rw [flipN_in (by omega)]
    have hne : q / 8 ≠ j := by omega
    simp [List.getD, hne]
  · rw [flipN_out hm]
theorem turned_far_byte {xs : List Nat} {k : Int} {pat j : Nat} (h : k + 32 ≤ 8 * j ∨ 8 * j + 7 < k) : ∀ i, i ≤ 32 → (turnedTo xs k pat i).1.getD j 0 = xs.getD j 0
  | 0, _ => rfl
  | i + 1, hi => by
    have ih := turned_far_byte (xs := xs) (pat := pat) h i (by omega)
    by_cases hh : pat / 2 ^ i % 2 = 1 ∧ 0 ≤ k + i ∧ k + i < 8 * xs.length
    · rw [turnedTo_hit hh.1 hh.2.1 hh.2.2]
      show (flipN (turnedTo xs k pat i).1 (k + i)).getD j 0 = _
      rw [flip_far (by omega), ih]
    · rw [turnedTo_miss hh, ih]
theorem turnL_none {xs : List Nat} {k : Int} {pat lim : Nat} : ∀ i, (turnL xs k pat lim i).2 = 0 → (turnL xs k pat lim i).1 = xs
  | 0, _ => rfl
  | i + 1, h => by
    by_cases hh : pat / 2 ^ i % 2 = 1 ∧ 0 ≤ k + i ∧ k + i < lim ∧ k + i < 8 * xs.length
    · rw [turnL_hit hh.1 hh.2.1 hh.2.2.1 hh.2.2.2] at h
      simp at h
    · rw [turnL_miss hh] at h ⊢
      exact turnL_none i h
theorem empty_at {T : List Nat} {j : Nat} (hT : T.length = 64) (hj : j < 64) (h : emptyN (T ++ zs 192) = true) : T.getD j 0 = 0 := by
  have h1 := of_decide_eq_true h
  have h2 : ∀ x ∈ ((T ++ zs 192).drop 0).take 64, x = 0 := h1.2
  rw [List.drop_zero, List.take_left' hT] at h2
  exact h2 _ (getD_mem (by omega))
theorem sect_head (s : Sup) : (sectN s).getD 0 0 = 76 := rfl
theorem not_empty_super (s : Sup) : emptyN (superN s) = false := by
  cases h : emptyN (superN s)
  · rfl
  · have := empty_at (sectN_length s) (j := 0) (by omega) h
    rw [sect_head] at this
    cases this
theorem sect_mark {s : Sup} (h : s.Ok) : s.mark = (cutV (sectN s ++ zs 192) 16 4 : Nat) := by
  have h1 := us_super h (tl := zs 192) (zs_length 192)
  rcases us_cases (xs := sectN s ++ zs 192) with ⟨_, h2⟩ | ⟨hl, hw, hf, ho⟩
  · rw [h1] at h2
    exact absurd rfl h2
  · rw [us_ok hl hw hf ho] at h1
    have h3 := congrArg Prod.fst h1
    have h4 := congrArg Sup.mark h3
    exact h4.symm
theorem not_empty_turned {s : Sup} (h : s.Ok) (k : Int) (pat : Nat) : emptyN ((turnedTo (sectN s) k pat 32).1 ++ zs 192) = false := by
  cases he : emptyN ((turnedTo (sectN s) k pat 32).1 ++ zs 192)
  · rfl
  · have hl : (turnedTo (sectN s) k pat 32).1.length = 64 := by rw [turnedTo_length, sectN_length]
    by_cases hk : 8 ≤ k
    · have h0 := empty_at hl (j := 0) (by omega) he
      rw [turned_far_byte (by omega) 32 (Nat.le_refl _), sect_head] at h0
      cases h0
    · have hz : ∀ x ∈ ((sectN s ++ zs 192).drop 16).take 4, x = 0 := by
        intro x hx
        obtain ⟨i, hi⟩ := List.mem_iff_getElem?.1 hx
        rw [List.getElem?_take] at hi
        split at hi
        · rename_i hi4
          rw [List.getElem?_drop, List.getElem?_append_left (by rw [sectN_length]; omega)] at hi
          have hj := empty_at hl (j := 16 + i) (by omega) he
          rw [turned_far_byte (by omega) 32 (Nat.le_refl _)] at hj
          simpa [List.getD, hi] using hj
        · cases hi
      have hm := sect_mark h
      have hz2 := zs_of hz
      unfold cutV at hm
      rw [hz2] at hm
      have h4 : (((sectN s ++ zs 192).drop 16).take 4).length = 4 := by simp [sectN_length, zs_length]
      rw [h4] at hm
      have hmk := h.2.2.2.1.1
      have h0 : leVal (zs 4) = 0 := rfl
      rw [h0] at hm
      omega
theorem us_superN {s : Sup} (h : s.Ok) : unsupN (superN s) = (s, 0) := us_super h (zs_length 192)
theorem choose_hurt_a {a b : Sup} (ha : a.Ok) (k : Int) (hk : k < 512) (pat : Nat) : (turnL (superN a) k pat 512 32).2 = 0 ∨ chooseN (turnL (superN a) k pat 512 32).1 (superN b) = (Sup.zero, 4) := by
  rcases burst_sect ha k hk pat with h | h
  · exact .inl h
  · refine .inr (choose_bad (by rw [h]; simp) ?_)
    rw [not_empty_super]
    simp
theorem choose_hurt_b {a b : Sup} (hb : b.Ok) (k : Int) (hk : k < 512) (pat : Nat) : (turnL (superN b) k pat 512 32).2 = 0 ∨ chooseN (superN a) (turnL (superN b) k pat 512 32).1 = (Sup.zero, 4) := by
  rcases burst_sect hb k hk pat with h | h
  · exact .inl h
  · refine .inr (choose_bad (by rw [h]; simp) ?_)
    have e : turnL (superN b) k pat 512 32 = ((turnedTo (sectN b) k pat 32).1 ++ zs 192, (turnedTo (sectN b) k pat 32).2) := by
      have := turnL_front (sectN b) (zs 192) k pat 32
      rwa [sectN_length] at this
    rw [e, not_empty_turned hb]
    simp
/-- The next superblock. -/
def Sup.next (s : Sup) (r : Int) : Sup := ⟨s.width, s.gen + 1, r, s.head, s.pages⟩
theorem next_ok {s : Sup} {r : Int} (h : s.Ok) (hg : s.gen < 1099511627776) (h1 : s.mark ≤ r) (h2 : r ≤ s.pages) : (s.next r).Ok := by
  unfold Sup.Ok at h ⊢
  unfold Sup.next
  dsimp only
  omega
theorem choose_even {s : Sup} {r : Int} (h : s.Ok) (hn : (s.next r).Ok) (h1 : s.mark ≤ r) (hp : s.gen % 2 = 0) : chooseN (superN s) (superN (s.next r)) = (s.next r, 0) := by
  rw [choose_both (by rw [us_superN h]) (by rw [us_superN hn]), us_superN h, us_superN hn]
  unfold newerN Sup.next
  dsimp only
  rw [if_neg (by omega), if_pos (by omega)]
theorem choose_odd {s : Sup} {r : Int} (h : s.Ok) (hn : (s.next r).Ok) (h1 : s.mark ≤ r) (hp : s.gen % 2 = 1) : chooseN (superN (s.next r)) (superN s) = (s.next r, 0) := by
  rw [choose_both (by rw [us_superN hn]) (by rw [us_superN h]), us_superN h, us_superN hn]
  unfold newerN Sup.next
  dsimp only
  rw [if_pos (by omega)]
end Go.Proofs.Ytbjbpgbpefkbhaa
