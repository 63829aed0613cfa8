/- The division of polynomials, bit by bit, is the register. Plain arithmetic; no program is named here. -/
import Derived.Test.YtbjbpgbpefkbhaaDoorAdds
namespace Go.Proofs.YtbjbpgbpefkbhaaDoor
def divL : List Nat := [1, 0, 0, 0, 0, 0, 1, 0, 0, 1, 1, 0, 0, 0, 0, 0, 1, 0, 0, 0, 1, 1, 1, 0, 1, 1, 0, 1, 1, 0, 1, 1, 1]
def dv (j : Nat) : Nat := divL.getD j 0
theorem dv_zero : dv 0 = 1 := rfl
theorem dv_lt (j : Nat) : dv j < 2 := by
  unfold dv
  rcases Nat.lt_or_ge j 33 with h | h
  · have : ∀ i : Fin 33, divL.getD i.val 0 < 2 := by decide
    exact this ⟨j, h⟩
  · simp [List.getD, divL, h]
theorem dv_poly (j : Nat) (h : j < 32) : dv (j + 1) = poly / 2 ^ j % 2 := by
  have : ∀ i : Fin 32, dv (i.val + 1) = poly / 2 ^ i.val % 2 := by decide +kernel
  exact this ⟨j, h⟩
/-- The bits of a text, each byte's lowest first. -/
def mbit (xs : List Nat) (t : Nat) : Nat := xs.getD (t / 8) 0 / 2 ^ (t % 8) % 2
theorem mbit_lt (xs : List Nat) (t : Nat) : mbit xs t < 2 := Nat.mod_lt _ (by omega)
theorem mbit_out {xs : List Nat} {t : Nat} (h : 8 * xs.length ≤ t) : mbit xs t = 0 := by
  have : xs.getD (t / 8) 0 = 0 := by simp [List.getD, List.getElem?_eq_none (show xs.length ≤ t / 8 by omega)]
  unfold mbit
  rw [this, Nat.zero_div]
/-- The register behind i bits. -/
def stB (s : Nat) (m : Nat → Nat) : Nat → Nat
  | 0 => s
  | i + 1 => bstep (stB s m i ^^^ m i)
theorem stB_lt {s : Nat} {m : Nat → Nat} (hs : s < 4294967296) (hm : ∀ t, m t < 2) : ∀ i, stB s m i < 4294967296
  | 0 => hs
  | i + 1 => bstep_lt (xlt (stB_lt hs hm i) (by have := hm i; omega))
theorem stB_byte {s x : Nat} (hx : x < 256) : stB s (fun j => x / 2 ^ j % 2) 8 = stepN s x := by
  have e : x = (x / 2 ^ 0 % 2) * 2 ^ 0 ^^^ (x / 2 ^ 1 % 2) * 2 ^ 1 ^^^ (x / 2 ^ 2 % 2) * 2 ^ 2 ^^^ (x / 2 ^ 3 % 2) * 2 ^ 3 ^^^ (x / 2 ^ 4 % 2) * 2 ^ 4 ^^^ (x / 2 ^ 5 % 2) * 2 ^ 5 ^^^ (x / 2 ^ 6 % 2) * 2 ^ 6 ^^^ (x / 2 ^ 7 % 2) * 2 ^ 7 := by
    have : ∀ i : Fin 256, i.val = (i.val / 2 ^ 0 % 2) * 2 ^ 0 ^^^ (i.val / 2 ^ 1 % 2) * 2 ^ 1 ^^^ (i.val / 2 ^ 2 % 2) * 2 ^ 2 ^^^ (i.val / 2 ^ 3 % 2) * 2 ^ 3 ^^^ (i.val / 2 ^ 4 % 2) * 2 ^ 4 ^^^ (i.val / 2 ^ 5 % 2) * 2 ^ 5 ^^^ (i.val / 2 ^ 6 % 2) * 2 ^ 6 ^^^ (i.val / 2 ^ 7 % 2) * 2 ^ 7 := by decide +kernel
    exact this ⟨x, hx⟩
  have lift : ∀ b j, b < 2 → bs j (b * 2 ^ j) = b := by
    intro b j hb
    rcases (show b = 0 ∨ b = 1 by omega) with rfl | rfl
    · rw [Nat.zero_mul, bs_zero]
    · rw [Nat.one_mul, bs_bit j j (Nat.le_refl _), Nat.sub_self]
      rfl
  have b : ∀ j, x / 2 ^ j % 2 < 2 := fun j => Nat.mod_lt _ (by omega)
  rw [stepN_bs]
  conv => rhs; rw [e]
  generalize h0 : x / 2 ^ 0 % 2 = b0
  generalize h1 : x / 2 ^ 1 % 2 = b1
  generalize h2 : x / 2 ^ 2 % 2 = b2
  generalize h3 : x / 2 ^ 3 % 2 = b3
  generalize h4 : x / 2 ^ 4 % 2 = b4
  generalize h5 : x / 2 ^ 5 % 2 = b5
  generalize h6 : x / 2 ^ 6 % 2 = b6
  generalize h7 : x / 2 ^ 7 % 2 = b7
  have g : ∀ j c, x / 2 ^ j % 2 = c → c < 2 := fun j c h => h ▸ b j
  show bstep (bstep (bstep (bstep (bstep (bstep (bstep (bstep (s ^^^ x / 2 ^ 0 % 2) ^^^ x / 2 ^ 1 % 2) ^^^ x / 2 ^ 2 % 2) ^^^ x / 2 ^ 3 % 2) ^^^ x / 2 ^ 4 % 2) ^^^ x / 2 ^ 5 % 2) ^^^ x / 2 ^ 6 % 2) ^^^ x / 2 ^ 7 % 2) = _
  rw [h0, h1, h2, h3, h4, h5, h6, h7]
  simp only [bs_xor, ← Nat.xor_assoc]
  have q0 : bs 8 (b0 * 2 ^ 0) = bs 8 b0 := by rw [Nat.pow_zero, Nat.mul_one]
  have q1 : bs 8 (b1 * 2 ^ 1) = bs 7 b1 := by rw [show 8 = 7 + 1 from rfl, bs_add, lift b1 1 (g _ _ h1)]
  have q2 : bs 8 (b2 * 2 ^ 2) = bs 6 b2 := by rw [show 8 = 6 + 2 from rfl, bs_add, lift b2 2 (g _ _ h2)]
  have q3 : bs 8 (b3 * 2 ^ 3) = bs 5 b3 := by rw [show 8 = 5 + 3 from rfl, bs_add, lift b3 3 (g _ _ h3)]
  have q4 : bs 8 (b4 * 2 ^ 4) = bs 4 b4 := by rw [show 8 = 4 + 4 from rfl, bs_add, lift b4 4 (g _ _ h4)]
  have q5 : bs 8 (b5 * 2 ^ 5) = bs 3 b5 := by rw [show 8 = 3 + 5 from rfl, bs_add, lift b5 5 (g _ _ h5)]
  have q6 : bs 8 (b6 * 2 ^ 6) = bs 2 b6 := by rw [show 8 = 2 + 6 from rfl, bs_add, lift b6 6 (g _ _ h6)]
  have q7 : bs 8 (b7 * 2 ^ 7) = bs 1 b7 := by rw [show 8 = 1 + 7 from rfl, bs_add, lift b7 7 (g _ _ h7)]
  rw [q0, q1, q2, q3, q4, q5, q6, q7]
  simp only [bs, bstep_xor]
theorem stB_shift (s : Nat) (m : Nat → Nat) (a : Nat) : ∀ k, stB s m (a + k) = stB (stB s m a) (fun t => m (a + t)) k
  | 0 => rfl
  | k + 1 => by rw [← Nat.add_assoc, stB, stB_shift s m a k, stB]
theorem stB_congr {s : Nat} {m m' : Nat → Nat} : ∀ k, (∀ t, t < k → m t = m' t) → stB s m k = stB s m' k
  | 0, _ => rfl
  | k + 1, h => by rw [stB, stB, stB_congr k (fun t ht => h t (by omega)), h k (by omega)]
/-- The register behind a text's bits is the register behind the text. -/
theorem stB_feed (s : Nat) : ∀ xs : List Nat, (∀ x ∈ xs, x < 256) → stB s (mbit xs) (8 * xs.length) = feedN s xs := by
  intro xs
  induction xs generalizing s with
  | nil => intro _; rfl
  | cons x xs ih =>
    intro h
    rw [List.length_cons, show 8 * (xs.length + 1) = 8 + 8 * xs.length by omega, stB_shift]
    have e1 : stB s (mbit (x :: xs)) 8 = stepN s x := by
      rw [← stB_byte (h x (by simp))]
      refine stB_congr 8 fun t ht => ?_
      unfold mbit
      rw [Nat.div_eq_of_lt ht, Nat.mod_eq_of_lt ht]
      rfl
    rw [e1, feedN_cons, ← ih _ (fun y hy => h y (by simp [hy]))]
    refine stB_congr _ fun t _ => ?_
    unfold mbit
    rw [show (8 + t) / 8 = t / 8 + 1 by omega, show (8 + t) % 8 = t % 8 by omega]
    rfl
/-! ### the list of bits as it is worked on -/
/-- What stands at place t behind i rounds: over the next 32 bits the register is laid. -/
def lay (s : Nat) (m : Nat → Nat) (i t : Nat) : Nat := (if t - i < 32 then stB s m i / 2 ^ (t - i) % 2 else 0) ^^^ m t
theorem bstep_bit (r j : Nat) (hr : r < 4294967296) (hj : j < 32) : bstep r / 2 ^ j % 2 = ((if j + 1 < 32 then r / 2 ^ (j + 1) % 2 else 0) ^^^ (if r % 2 = 1 then dv (j + 1) else 0)) := by
  unfold bstep
  have e : (r / 2 ^^^ (if r % 2 = 1 then poly else 0)) / 2 ^ j % 2 = (r / 2 / 2 ^ j % 2) ^^^ ((if r % 2 = 1 then poly else 0) / 2 ^ j % 2) := by
    rw [Nat.xor_div_two_pow]
    exact Nat.xor_mod_two_pow (n := 1)
  rw [e, Nat.div_div_eq_div_mul, Nat.mul_comm, ← Nat.pow_succ]
  congr 1
  · split
    · rfl
    · have : j = 31 := by omega
      subst this
      rw [Nat.div_eq_of_lt hr]
  · split
    · exact (dv_poly j hj).symm
    · rw [Nat.zero_div]
theorem lay_head (s : Nat) (m : Nat → Nat) (i : Nat) (hm : m i < 2) : lay s m i i = (stB s m i ^^^ m i) % 2 := by
  unfold lay
  rw [Nat.sub_self, if_pos (by omega), Nat.pow_zero, Nat.div_one]
  have h : (stB s m i ^^^ m i) % 2 = (stB s m i % 2) ^^^ (m i % 2) := Nat.xor_mod_two_pow (n := 1)
  rw [h, Nat.mod_eq_of_lt hm]
/-- One round of the division. -/
theorem lay_step {s : Nat} {m : Nat → Nat} (hs : s < 4294967296) (hm : ∀ t, m t < 2) {i t : Nat} (ht : i + 1 ≤ t) :
    lay s m (i + 1) t = lay s m i t ^^^ (if lay s m i i = 1 ∧ t - i < 33 then dv (t - i) else 0) := by
  rw [lay_head s m i (hm i)]
  obtain ⟨j, rfl⟩ : ∃ j, t = i + 1 + j := ⟨t - (i + 1), by omega⟩
  unfold lay
  rw [show i + 1 + j - (i + 1) = j by omega, show i + 1 + j - i = j + 1 by omega]
  by_cases hj : j < 32
  · rw [if_pos hj]
    show bstep (stB s m i ^^^ m i) / 2 ^ j % 2 ^^^ _ = _
    have hb := stB_lt hs hm i
    have hx : stB s m i ^^^ m i < 4294967296 := xlt hb (by have := hm i; omega)
    rw [bstep_bit _ j hx hj]
    have hd : (if j + 1 < 32 then (stB s m i ^^^ m i) / 2 ^ (j + 1) % 2 else 0) = (if j + 1 < 32 then stB s m i / 2 ^ (j + 1) % 2 else 0) := by
      split
      · have e : (stB s m i ^^^ m i) / 2 ^ (j + 1) % 2 = (stB s m i / 2 ^ (j + 1) % 2) ^^^ (m i / 2 ^ (j + 1) % 2) := by
          rw [Nat.xor_div_two_pow]
          exact Nat.xor_mod_two_pow (n := 1)
        have hz : m i / 2 ^ (j + 1) = 0 := Nat.div_eq_of_lt (Nat.lt_of_lt_of_le (hm i) (Nat.le_self_pow (by omega) 2))
        rw [e, hz, Nat.zero_mod, Nat.xor_zero]
      · rfl
    rw [hd, Nat.xor_assoc, Nat.xor_comm _ (m _), ← Nat.xor_assoc]
    congr 1
    by_cases hq : (stB s m i ^^^ m i) % 2 = 1
    · rw [if_pos hq, if_pos ⟨hq, by omega⟩]
    · rw [if_neg hq, if_neg (fun h => hq h.1)]
  · rw [if_neg hj, if_neg (by omega), if_neg (by omega), Nat.zero_xor, Nat.xor_zero]
/-- The number that bits make. -/
theorem bits_sum (r i : Nat) : r % 2 ^ (i + 1) = r % 2 ^ i + (r / 2 ^ i % 2) * 2 ^ i := by
  rw [Nat.pow_succ, Nat.mod_mul, Nat.mul_comm]
theorem upTo_congr {f g : Nat → Nat} {k : Nat} (h : ∀ t, t < k → f t = g t) : upTo f k = upTo g k := List.map_congr_left fun t ht => h t (List.mem_range.1 ht)
theorem upTo_get {f : Nat → Nat} {k t : Nat} (h : t < k) : (upTo f k).getD t 0 = f t := by simp [upTo, List.getD, h]
theorem upTo_set {f g : Nat → Nat} {k t x : Nat} (hx : g t = x) (h : ∀ u, u < k → u ≠ t → g u = f u) : (upTo f k).set t x = upTo g k := by
  apply List.ext_getElem
  · simp [upTo]
  · intro i h1 h2
    rw [List.getElem_set]
    simp only [upTo, List.length_map, List.length_range] at h2
    split
    · rename_i e
      subst e
      simp [upTo, hx]
    · rename_i e
      simp [upTo, h i h2 (fun e' => e e'.symm)]
/-- The list behind i of the first 32 bits have been changed by the start's. -/
def mixed (s : Nat) (m : Nat → Nat) (i t : Nat) : Nat := if t < i then s / 2 ^ t % 2 ^^^ m t else m t
theorem mixed_done (s : Nat) (m : Nat → Nat) (t : Nat) : mixed s m 32 t = lay s m 0 t := by
  unfold mixed lay
  rw [Nat.sub_zero]
  split
  · rfl
  · rw [Nat.zero_xor]
theorem lay_end {s : Nat} {xs : List Nat} (i : Nat) (hi : i < 32) : lay s (mbit xs) (8 * xs.length) (8 * xs.length + i) = stB s (mbit xs) (8 * xs.length) / 2 ^ i % 2 := by
  unfold lay
  rw [show 8 * xs.length + i - 8 * xs.length = i by omega, if_pos hi, mbit_out (by omega), Nat.xor_zero]
theorem lay_lt (s : Nat) (m : Nat → Nat) (hm : ∀ t, m t < 2) (i t : Nat) : lay s m i t < 2 := by
  unfold lay
  refine Nat.xor_lt_two_pow (n := 1) ?_ (hm t)
  split
  · exact Nat.mod_lt _ (by omega)
  · omega
theorem or_bit {r b i : Nat} (hr : r < 2 ^ i) : r ||| b * 2 ^ i = r + b * 2 ^ i := by
  have := Nat.two_pow_add_eq_or_of_lt hr b
  rw [Nat.mul_comm b, Nat.or_comm, ← this, Nat.add_comm]
end Go.Proofs.YtbjbpgbpefkbhaaDoor
