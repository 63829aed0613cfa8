/- Keys as paths of bits: plain law. No program is named here. -/
import Derived.Test.YtkpbeibcfaenhaaLib
namespace Go.Proofs.Ytkpbeibcfaenhaa
/-- Bit j of a byte, the top one is 0. -/
def bitB (x j : Nat) : Nat := x / 2 ^ (7 - j) % 2
def bitK (ks : List Nat) (i : Nat) : Nat := bitB (ks.getD (i / 8) 0) (i % 8)
def len8 (x : Nat) : Nat := if x = 0 then 0 else if x < 2 then 1 else if x < 4 then 2 else if x < 8 then 3 else if x < 16 then 4 else if x < 32 then 5 else if x < 64 then 6 else if x < 128 then 7 else 8
def lz8 (x : Nat) : Nat := 8 - len8 x
theorem bitB_lt (x j : Nat) : bitB x j < 2 := Nat.mod_lt _ (by decide)
theorem lz8_spec {z : Nat} (h0 : ¬ z = 0) (h : z < 256) : ∃ e, e ≤ 7 ∧ lz8 z = 7 - e ∧ 2 ^ e ≤ z ∧ z < 2 ^ (e + 1) := by
  unfold lz8 len8
  rw [if_neg h0]
  by_cases h1 : z < 2
  · rw [if_pos h1]; exact ⟨0, by omega, rfl, by omega, by omega⟩
  rw [if_neg h1]
  by_cases h2 : z < 4
  · rw [if_pos h2]; exact ⟨1, by omega, rfl, by omega, by omega⟩
  rw [if_neg h2]
  by_cases h3 : z < 8
  · rw [if_pos h3]; exact ⟨2, by omega, rfl, by omega, by omega⟩
  rw [if_neg h3]
  by_cases h4 : z < 16
  · rw [if_pos h4]; exact ⟨3, by omega, rfl, by omega, by omega⟩
  rw [if_neg h4]
  by_cases h5 : z < 32
  · rw [if_pos h5]; exact ⟨4, by omega, rfl, by omega, by omega⟩
  rw [if_neg h5]
  by_cases h6 : z < 64
  · rw [if_pos h6]; exact ⟨5, by omega, rfl, by omega, by omega⟩
  rw [if_neg h6]
  by_cases h7 : z < 128
  · rw [if_pos h7]; exact ⟨6, by omega, rfl, by omega, by omega⟩
  rw [if_neg h7]
  exact ⟨7, by omega, rfl, by omega, by omega⟩
theorem xor_zero_eq {a b : Nat} (h : a ^^^ b = 0) : a = b := by
  have h2 := congrArg (· ^^^ b) h
  simpa [Nat.xor_assoc] using h2
theorem xor_div (x y e : Nat) : (x ^^^ y) / 2 ^ e = x / 2 ^ e ^^^ y / 2 ^ e := by
  rw [← Nat.shiftRight_eq_div_pow, ← Nat.shiftRight_eq_div_pow, ← Nat.shiftRight_eq_div_pow, Nat.shiftRight_xor_distrib]
theorem lt_of_div {x y e : Nat} (h : x / 2 ^ e < y / 2 ^ e) : x < y := by
  rcases Nat.lt_or_ge x y with h1 | h1
  · exact h1
  · have := Nat.div_le_div_right (c := 2 ^ e) h1
    omega
theorem byte_parts {x y : Nat} (hx : x < 256) (hy : y < 256) (h : ¬ x = y) : lz8 (x ^^^ y) < 8 ∧ (∀ j, j < lz8 (x ^^^ y) → bitB x j = bitB y j) ∧
    ((x < y ∧ bitB x (lz8 (x ^^^ y)) = 0 ∧ bitB y (lz8 (x ^^^ y)) = 1) ∨ (y < x ∧ bitB x (lz8 (x ^^^ y)) = 1 ∧ bitB y (lz8 (x ^^^ y)) = 0)) := by
  have hz0 : ¬ x ^^^ y = 0 := fun e => h (xor_zero_eq e)
  obtain ⟨e, he, hl, h1, h2⟩ := lz8_spec hz0 (Nat.xor_lt_two_pow (n := 8) hx hy)
  rw [hl]
  have hh : x / 2 ^ (e + 1) = y / 2 ^ (e + 1) := by
    apply xor_zero_eq
    rw [← xor_div]
    exact Nat.div_eq_of_lt h2
  have hn : ¬ x / 2 ^ e = y / 2 ^ e := fun k => by
    have h3 := xor_div x y e
    rw [k, Nat.xor_self] at h3
    have h4 := Nat.div_pos h1 (Nat.two_pow_pos e)
    omega
  refine ⟨by omega, fun j hj => ?_, ?_⟩
  · unfold bitB
    rw [show 7 - j = (e + 1) + (6 - j - e) by omega, Nat.pow_add, ← Nat.div_div_eq_div_mul, ← Nat.div_div_eq_div_mul, hh]
  · unfold bitB
    rw [show 7 - (7 - e) = e by omega]
    rw [Nat.pow_succ, ← Nat.div_div_eq_div_mul, ← Nat.div_div_eq_div_mul] at hh
    by_cases hp : x / 2 ^ e < y / 2 ^ e
    · exact .inl ⟨lt_of_div hp, by omega, by omega⟩
    · exact .inr ⟨lt_of_div (show y / 2 ^ e < x / 2 ^ e by omega), by omega, by omega⟩
/-- The key that is made of its first k bits. -/
def rebN (ks : List Nat) (k : Nat) : List Nat := (List.range 32).map fun b => ks.getD b 0 / 2 ^ (8 * b + 8 - k)
theorem rebN_length (ks : List Nat) (k : Nat) : (rebN ks k).length = 32 := by simp [rebN]
theorem rebN_getD (ks : List Nat) (k b : Nat) (h : b < 32) : (rebN ks k).getD b 0 = ks.getD b 0 / 2 ^ (8 * b + 8 - k) := by
  simp [rebN, List.getD, h]
theorem rebN_end {ks : List Nat} (hl : ks.length = 32) : rebN ks 256 = ks := by
  apply List.ext_getElem?
  intro b
  rcases Nat.lt_or_ge b 32 with h | h
  · rw [getD_of_lt (by rw [rebN_length]; exact h), getD_of_lt (by omega), rebN_getD _ _ _ h, show 8 * b + 8 - 256 = 0 by omega, Nat.pow_zero, Nat.div_one]
  · rw [List.getElem?_eq_none (by rw [rebN_length]; exact h), List.getElem?_eq_none (by omega)]
theorem byte_at {ks : List Nat} (hB : IsB ks) (b : Nat) : ks.getD b 0 < 256 := by
  rcases Nat.lt_or_ge b ks.length with h2 | h2
  · exact hB _ (getD_mem h2)
  · simp [List.getD, List.getElem?_eq_none h2]
theorem byte_gone {x e : Nat} (h : x < 256) (he : 8 ≤ e) : x / 2 ^ e = 0 := by
  refine Nat.div_eq_of_lt (Nat.lt_of_lt_of_le h ?_)
  rw [show (256 : Nat) = 2 ^ 8 from rfl]
  exact Nat.pow_le_pow_right (by decide) he
theorem rebN_zero {ks : List Nat} (hB : IsB ks) : rebN ks 0 = List.replicate 32 0 := by
  apply List.ext_getElem?
  intro b
  rcases Nat.lt_or_ge b 32 with h | h
  · rw [getD_of_lt (by rw [rebN_length]; exact h), rebN_getD _ _ _ h, List.getElem?_replicate, if_pos h]
    congr 1
    exact byte_gone (byte_at hB b) (by omega)
  · rw [List.getElem?_eq_none (by rw [rebN_length]; exact h), List.getElem?_eq_none (by simpa using h)]
theorem half_step (x e : Nat) : 2 * (x / 2 ^ (e + 1)) + x / 2 ^ e % 2 = x / 2 ^ e := by
  rw [Nat.pow_succ, ← Nat.div_div_eq_div_mul]
  omega
theorem rebN_step {ks : List Nat} (hB : IsB ks) {k : Nat} (h : k < 256) : (rebN ks k).set (k / 8) (2 * (rebN ks k).getD (k / 8) 0 + bitK ks k) = rebN ks (k + 1) := by
  have hb : k / 8 < 32 := by omega
  apply List.ext_getElem?
  intro b
  rcases Nat.lt_or_ge b 32 with hl | hl
  · rw [getD_of_lt (show b < (rebN ks (k + 1)).length by rw [rebN_length]; exact hl), rebN_getD _ _ _ hl, List.getElem?_set]
    by_cases e : k / 8 = b
    · rw [if_pos e, if_pos (by rw [rebN_length]; exact hb), rebN_getD _ _ _ hb]
      congr 1
      subst e
      unfold bitK bitB
      have h1 := half_step (ks.getD (k / 8) 0) (7 - k % 8)
      rw [show 8 * (k / 8) + 8 - k = 7 - k % 8 + 1 by omega, show 8 * (k / 8) + 8 - (k + 1) = 7 - k % 8 by omega]
      exact h1
    · rw [if_neg e, getD_of_lt (by rw [rebN_length]; exact hl), rebN_getD _ _ _ hl]
      congr 1
      rcases Nat.lt_or_ge b (k / 8) with h2 | h2
      · rw [show 8 * b + 8 - k = 0 by omega, show 8 * b + 8 - (k + 1) = 0 by omega]
      · rw [byte_gone (byte_at hB b) (by omega), byte_gone (byte_at hB b) (by omega)]
  · rw [List.getElem?_eq_none (by rw [List.length_set, rebN_length]; exact hl), List.getElem?_eq_none (by rw [rebN_length]; exact hl)]
/-- The place of the first unlike byte. -/
def Diff (ds es : List Nat) (i : Nat) : Prop := i < 32 ∧ (∀ j, j < i → ds.getD j 0 = es.getD j 0) ∧ ¬ ds.getD i 0 = es.getD i 0
theorem diff_of {ds es : List Nat} (h1 : ds.length = 32) (h2 : es.length = 32) (h : ¬ ds = es) : ∃ i, Diff ds es i := by
  have key : ∀ n, n ≤ 32 → (∀ j, j < n → ds.getD j 0 = es.getD j 0) ∨ ∃ i, Diff ds es i := fun n => by
    induction n with
    | zero => exact fun _ => .inl fun j hj => by omega
    | succ n ih =>
      intro hn
      rcases ih (by omega) with h | h
      · by_cases e : ds.getD n 0 = es.getD n 0
        · refine .inl fun j hj => ?_
          rcases Nat.lt_or_ge j n with h' | h'
          · exact h j h'
          · rw [show j = n by omega]; exact e
        · exact .inr ⟨n, by omega, h, e⟩
      · exact .inr h
  rcases key 32 (by omega) with h3 | h3
  · exfalso
    apply h
    apply List.ext_getElem?
    intro b
    rcases Nat.lt_or_ge b 32 with hb | hb
    · rw [getD_of_lt (by omega), getD_of_lt (by omega), h3 b hb]
    · rw [List.getElem?_eq_none (by omega), List.getElem?_eq_none (by omega)]
  · exact h3
/-- How many first bits two keys share. -/
def comN (ds es : List Nat) (i : Nat) : Nat := 8 * i + lz8 (ds.getD i 0 ^^^ es.getD i 0)
theorem com_spec {ds es : List Nat} (hd : IsB ds) (he : IsB es) {i : Nat} (h : Diff ds es i) : comN ds es i < 256 ∧ (∀ j, j < comN ds es i → bitK ds j = bitK es j) ∧
    ((ds.getD i 0 < es.getD i 0 ∧ bitK ds (comN ds es i) = 0 ∧ bitK es (comN ds es i) = 1) ∨ (es.getD i 0 < ds.getD i 0 ∧ bitK ds (comN ds es i) = 1 ∧ bitK es (comN ds es i) = 0)) := by
  obtain ⟨h1, h2, h3⟩ := h
  obtain ⟨k1, k2, k3⟩ := byte_parts (byte_at hd i) (byte_at he i) h3
  unfold comN
  generalize lz8 (ds.getD i 0 ^^^ es.getD i 0) = l at *
  refine ⟨by omega, fun j hj => ?_, ?_⟩
  · unfold bitK
    rcases Nat.lt_or_ge (j / 8) i with h | h
    · rw [h2 _ h]
    · rw [show j / 8 = i by omega]
      exact k2 _ (by omega)
  · unfold bitK
    rw [show (8 * i + l) / 8 = i by omega, show (8 * i + l) % 8 = l by omega]
    exact k3
end Go.Proofs.Ytkpbeibcfaenhaa
