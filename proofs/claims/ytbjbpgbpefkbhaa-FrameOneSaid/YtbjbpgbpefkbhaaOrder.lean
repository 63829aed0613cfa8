/- Powers of x: the products of the document's 'times', the order 2^32 - 1 of x. Plain arithmetic; no program is named here. -/
import Derived.Test.YtbjbpgbpefkbhaaField
namespace Go.Proofs.Ytbjbpgbpefkbhaa
def timesTo (a b : Nat) : Nat → Nat
  | 0 => 0
  | i + 1 => if b / 2 ^ i % 2 = 1 then bstep (timesTo a b i) ^^^ a else bstep (timesTo a b i)
def times (a b : Nat) : Nat := timesTo a b 32
def one : Nat := 2147483648
/-- The powers of x. -/
def E (m : Nat) : Nat := bs m one
theorem bit_xor (b c i : Nat) : (b ^^^ c) / 2 ^ i % 2 = (b / 2 ^ i % 2) ^^^ (c / 2 ^ i % 2) := by
  rw [Nat.xor_div_two_pow]
  exact Nat.xor_mod_two_pow (n := 1)
theorem timesTo_xor_right (a b c : Nat) : ∀ i, timesTo a (b ^^^ c) i = timesTo a b i ^^^ timesTo a c i
  | 0 => by simp [timesTo]
  | i + 1 => by
    have ih := timesTo_xor_right a b c i
    simp only [timesTo]
    rw [bit_xor, ih, bstep_xor]
    rcases Nat.mod_two_eq_zero_or_one (b / 2 ^ i) with hb | hb <;> rcases Nat.mod_two_eq_zero_or_one (c / 2 ^ i) with hc | hc <;> simp only [hb, hc]
    · simp
    · simp only [Nat.zero_xor, ite_true]
      rw [if_neg (by omega), Nat.xor_assoc]
    · simp only [Nat.xor_zero, ite_true]
      rw [if_neg (by omega), Nat.xor_assoc, Nat.xor_comm (bstep (timesTo a c i)), ← Nat.xor_assoc]
    · rw [if_neg (by decide)]
      simp only [ite_true]
      rw [xac, Nat.xor_self, Nat.xor_zero]
theorem timesTo_xor_left (a c b : Nat) : ∀ i, timesTo (a ^^^ c) b i = timesTo a b i ^^^ timesTo c b i
  | 0 => by simp [timesTo]
  | i + 1 => by
    have ih := timesTo_xor_left a c b i
    simp only [timesTo]
    rw [ih, bstep_xor]
    split
    · rw [xac]
    · rfl
theorem times_xor_right (a b c : Nat) : times a (b ^^^ c) = times a b ^^^ times a c := timesTo_xor_right a b c 32
theorem times_xor_left (a c b : Nat) : times (a ^^^ c) b = times a b ^^^ times c b := timesTo_xor_left a c b 32
theorem timesTo_lt {a : Nat} (ha : a < 4294967296) (b : Nat) : ∀ i, timesTo a b i < 4294967296
  | 0 => by unfold timesTo; omega
  | i + 1 => by
    have ih := timesTo_lt ha b i
    simp only [timesTo]
    split
    · exact xlt (bstep_lt ih) ha
    · exact bstep_lt ih
theorem times_lt {a : Nat} (ha : a < 4294967296) (b : Nat) : times a b < 4294967296 := timesTo_lt ha b 32
/-- Two linear things that agree at each bit agree. -/
theorem agree {f g : Nat → Nat} (hf : ∀ a b, f (a ^^^ b) = f a ^^^ f b) (hg : ∀ a b, g (a ^^^ b) = g a ^^^ g b) :
    ∀ k, (∀ i, i < k → f (2 ^ i) = g (2 ^ i)) → ∀ a, a < 2 ^ k → f a = g a := by
  have f0 : f 0 = 0 := by
    have := hf 0 0
    rw [Nat.xor_self, Nat.xor_self] at this
    exact this
  have g0 : g 0 = 0 := by
    have := hg 0 0
    rw [Nat.xor_self, Nat.xor_self] at this
    exact this
  intro k
  induction k with
  | zero =>
    intro _ a ha
    have : a = 0 := by simp at ha; exact ha
    rw [this, f0, g0]
  | succ k ih =>
    intro h a ha
    have hq : a / 2 ^ k < 2 := Nat.div_lt_of_lt_mul (by rw [← Nat.pow_succ]; exact ha)
    rw [split2 k a, hf, hg, ih (fun i hi => h i (by omega)) _ (Nat.mod_lt _ (Nat.two_pow_pos k))]
    congr 1
    have hq2 : a / 2 ^ k = 0 ∨ a / 2 ^ k = 1 := by
      generalize a / 2 ^ k = q at hq
      omega
    rcases hq2 with e | e
    · rw [e, Nat.mul_zero, f0, g0]
    · rw [e, Nat.mul_one]
      exact h k (by omega)
theorem timesTo_double (a q : Nat) : ∀ i, timesTo a (2 * q) (i + 1) = timesTo a q i
  | 0 => by
    show (if 2 * q / 2 ^ 0 % 2 = 1 then bstep 0 ^^^ a else bstep 0) = 0
    rw [if_neg (by simp)]
    exact bstep_zero
  | i + 1 => by
    have ih := timesTo_double a q i
    rw [timesTo, ih]
    have e : 2 * q / 2 ^ (i + 1) = q / 2 ^ i := by
      rw [Nat.pow_succ, Nat.mul_comm (2 ^ i), Nat.mul_div_mul_left _ _ (by omega)]
    rw [e]
    rfl
theorem times_half {q : Nat} (hq : q < 2147483648) (a : Nat) : times a q = bstep (times a (2 * q)) := by
  show timesTo a q (31 + 1) = bstep (timesTo a (2 * q) (31 + 1))
  rw [timesTo_double]
  rw [timesTo, if_neg]
  rw [Nat.div_eq_of_lt hq]
  decide
theorem times_poly {a : Nat} (ha : a < 4294967296) : times a poly = bstep (times a 1) := by
  refine agree (f := fun a => times a poly) (g := fun a => bstep (times a 1)) (fun a b => times_xor_left a b poly) (fun a b => ?_) 32 ?_ a ha
  · show bstep (times (a ^^^ b) 1) = _
    rw [times_xor_left, bstep_xor]
  · have key : ∀ i : Fin 32, times (2 ^ i.val) poly = bstep (times (2 ^ i.val) 1) := by decide +kernel
    exact fun i hi => key ⟨i, hi⟩
theorem times_bstep {a b : Nat} (ha : a < 4294967296) (hb : b < 4294967296) : times a (bstep b) = bstep (times a b) := by
  conv => rhs; rw [split2 1 b, times_xor_right, bstep_xor, show (2 : Nat) ^ 1 = 2 from rfl, ← times_half (show b / 2 < 2147483648 by omega)]
  unfold bstep
  rw [times_xor_right]
  show _ = times a (b / 2) ^^^ bstep (times a (b % 2))
  congr 1
  rcases Nat.mod_two_eq_zero_or_one b with h | h
  · rw [h, if_neg (by omega)]
    have z : times a 0 = 0 := by
      have := times_xor_right a 0 0
      rw [Nat.xor_self, Nat.xor_self] at this
      exact this
    rw [z, bstep_zero]
  · rw [h, if_pos rfl]
    exact times_poly ha
theorem one_lt : one < 4294967296 := by unfold one; omega
theorem times_one {a : Nat} (ha : a < 4294967296) : times a one = a := by
  refine agree (f := fun a => times a one) (g := fun a => a) (fun a b => times_xor_left a b one) (fun a b => rfl) 32 ?_ a ha
  have key : ∀ i : Fin 32, times (2 ^ i.val) one = 2 ^ i.val := by decide +kernel
  exact fun i hi => key ⟨i, hi⟩
theorem E_lt (m : Nat) : E m < 4294967296 := bs_lt one_lt
theorem E_succ (m : Nat) : E (m + 1) = bstep (E m) := bs_succ m one
/-- To multiply by a power is to step so often. -/
theorem times_E {a : Nat} (ha : a < 4294967296) : ∀ m, times a (E m) = bs m a
  | 0 => times_one ha
  | m + 1 => by rw [E_succ, times_bstep ha (E_lt m), times_E ha m, bs_succ]
theorem bs_E (m k : Nat) : bs m (E k) = E (m + k) := (bs_add m k one).symm
theorem E_add (m k : Nat) : times (E m) (E k) = E (m + k) := by rw [times_E (E_lt m), bs_E, Nat.add_comm]
theorem one_E : bs 31 one = 1 := by decide +kernel
theorem P_E (m : Nat) : bs m 1 = E (m + 31) := by rw [← one_E, ← bs_add]; rfl
/-- A power of x by squares. -/
def pw : Nat → Nat → Nat
  | 0, _ => one
  | f + 1, z => if z = 0 then one else if z % 2 = 1 then bstep (times (pw f (z / 2)) (pw f (z / 2))) else times (pw f (z / 2)) (pw f (z / 2))
theorem pw_E : ∀ f z, z < 2 ^ f → pw f z = E z
  | 0, z, h => by
    have : z = 0 := by simp at h; exact h
    subst this
    rfl
  | f + 1, z, h => by
    rw [pw]
    split
    · rename_i h0
      subst h0
      rfl
    · rw [pw_E f (z / 2) (by rw [Nat.div_lt_iff_lt_mul (by omega), ← Nat.pow_succ]; exact h), E_add]
      split
      · rw [← E_succ]
        congr 1
        omega
      · congr 1
        omega
/-! ### the order -/
def ord : Nat := 4294967295
theorem E_ord : E ord = E 0 := by
  rw [← pw_E 32 ord (by unfold ord; omega), ← pw_E 32 0 (by omega)]
  decide +kernel
theorem E_p3 : E (ord / 3) ≠ E 0 := by
  rw [← pw_E 32 _ (by unfold ord; omega), ← pw_E 32 0 (by omega)]
  decide +kernel
theorem E_p5 : E (ord / 5) ≠ E 0 := by
  rw [← pw_E 32 _ (by unfold ord; omega), ← pw_E 32 0 (by omega)]
  decide +kernel
theorem E_p17 : E (ord / 17) ≠ E 0 := by
  rw [← pw_E 32 _ (by unfold ord; omega), ← pw_E 32 0 (by omega)]
  decide +kernel
theorem E_p257 : E (ord / 257) ≠ E 0 := by
  rw [← pw_E 32 _ (by unfold ord; omega), ← pw_E 32 0 (by omega)]
  decide +kernel
theorem E_p65537 : E (ord / 65537) ≠ E 0 := by
  rw [← pw_E 32 _ (by unfold ord; omega), ← pw_E 32 0 (by omega)]
  decide +kernel
theorem E_cancel {a b : Nat} (hab : a ≤ b) (h : E a = E b) : E (b - a) = E 0 := by
  have h1 : bs a (E (b - a)) = bs a (E 0) := by
    rw [bs_E, bs_E, show a + (b - a) = b by omega, ← h, Nat.add_zero]
  exact bs_inj (E_lt _) (E_lt _) h1
theorem E_mul {b : Nat} (h : E b = E 0) : ∀ q, E (b * q) = E 0
  | 0 => rfl
  | q + 1 => by
    rw [Nat.mul_succ, Nat.add_comm, ← bs_E, E_mul h q, bs_E, Nat.add_zero, h]
theorem E_rem {b : Nat} (h : E b = E 0) (a : Nat) : E (a % b) = E a := by
  conv => rhs; rw [← Nat.div_add_mod a b, Nat.add_comm, ← bs_E, E_mul h, bs_E, Nat.add_zero]
theorem E_gcd (a b : Nat) : E a = E 0 → E b = E 0 → E (Nat.gcd a b) = E 0 := by
  refine Nat.gcd.induction (P := fun a b => E a = E 0 → E b = E 0 → E (Nat.gcd a b) = E 0) a b ?_ ?_
  · intro n _ hn
    rw [Nat.gcd_zero_left]
    exact hn
  · intro m n hm ih h1 h2
    rw [Nat.gcd_rec]
    exact ih ((E_rem h1 n).trans h2) h1
theorem coprime_of {p h : Nat} (hp : ∀ d, d ∣ p → d = 1 ∨ d = p) (hn : ¬ p ∣ h) : Nat.Coprime h p := by
  rcases hp _ (Nat.gcd_dvd_right h p) with e | e
  · exact e
  · exact absurd (e ▸ Nat.gcd_dvd_left h p) hn
theorem prime_small (p b : Nat) (hp : p < (b + 1) * (b + 1)) (hb : b < p) (h : ∀ d, d ≤ b → 2 ≤ d → ¬ d ∣ p) : ∀ d, d ∣ p → d = 1 ∨ d = p := by
  rintro d ⟨e, he⟩
  have hp0 : 0 < p := by omega
  have hd0 : d ≠ 0 := by rintro rfl; omega
  have he0 : e ≠ 0 := by rintro rfl; omega
  rcases Nat.lt_or_ge b d with h1 | h1
  · rcases Nat.lt_or_ge b e with h2 | h2
    · have := Nat.mul_le_mul (show b + 1 ≤ d by omega) (show b + 1 ≤ e by omega)
      omega
    · rcases Nat.lt_or_ge e 2 with h3 | h3
      · obtain rfl : e = 1 := by omega
        exact .inr (by omega)
      · exact absurd ⟨d, by rw [he, Nat.mul_comm]⟩ (h e h2 h3)
  · rcases Nat.lt_or_ge d 2 with h3 | h3
    · exact .inl (by omega)
    · exact absurd ⟨e, he⟩ (h d h1 h3)
theorem prime_fin (p b : Nat) (hp : p < (b + 1) * (b + 1)) (hb : b < p) (h : ∀ d : Fin (b + 1), 2 ≤ d.val → ¬ d.val ∣ p) : ∀ d, d ∣ p → d = 1 ∨ d = p :=
  prime_small p b hp hb fun d h1 h2 => h ⟨d, by omega⟩ h2
theorem dvd_ord {h : Nat} (hd : h ∣ ord) (h1 : h ≠ 1) : 3 ∣ h ∨ 5 ∣ h ∨ 17 ∣ h ∨ 257 ∣ h ∨ 65537 ∣ h := by
  rcases Nat.decEq (h % 3) 0 with n3 | e
  case isTrue => exact .inl (Nat.dvd_of_mod_eq_zero e)
  rcases Nat.decEq (h % 5) 0 with n5 | e
  case isTrue => exact .inr (.inl (Nat.dvd_of_mod_eq_zero e))
  rcases Nat.decEq (h % 17) 0 with n17 | e
  case isTrue => exact .inr (.inr (.inl (Nat.dvd_of_mod_eq_zero e)))
  rcases Nat.decEq (h % 257) 0 with n257 | e
  case isTrue => exact .inr (.inr (.inr (.inl (Nat.dvd_of_mod_eq_zero e))))
  rcases Nat.decEq (h % 65537) 0 with n65537 | e
  case isTrue => exact .inr (.inr (.inr (.inr (Nat.dvd_of_mod_eq_zero e))))
  exfalso
  apply h1
  have c3 : Nat.Coprime h 3 := coprime_of (prime_fin 3 1 (by omega) (by omega) (by decide)) (fun e => n3 (Nat.mod_eq_zero_of_dvd e))
  have c5 : Nat.Coprime h 5 := coprime_of (prime_fin 5 2 (by omega) (by omega) (by decide)) (fun e => n5 (Nat.mod_eq_zero_of_dvd e))
  have c17 : Nat.Coprime h 17 := coprime_of (prime_fin 17 4 (by omega) (by omega) (by decide)) (fun e => n17 (Nat.mod_eq_zero_of_dvd e))
  have c257 : Nat.Coprime h 257 := coprime_of (prime_fin 257 16 (by omega) (by omega) (by decide +kernel)) (fun e => n257 (Nat.mod_eq_zero_of_dvd e))
  have c65537 : Nat.Coprime h 65537 := coprime_of (prime_fin 65537 256 (by omega) (by omega) (by decide +kernel)) (fun e => n65537 (Nat.mod_eq_zero_of_dvd e))
  have d1 : h ∣ 3 * (5 * (17 * (257 * 65537))) := hd
  have d2 := c3.dvd_of_dvd_mul_left d1
  have d3 := c5.dvd_of_dvd_mul_left d2
  have d4 := c17.dvd_of_dvd_mul_left d3
  have d5 := c257.dvd_of_dvd_mul_left d4
  have d6 : h ∣ 65537 * 1 := d5
  exact Nat.eq_one_of_dvd_one (c65537.dvd_of_dvd_mul_left d6)
theorem E_no_return {d : Nat} (h0 : 0 < d) (h1 : d < ord) : E d ≠ E 0 := by
  intro he
  have hg := E_gcd d ord he E_ord
  have hgd : Nat.gcd d ord ≤ d := Nat.le_of_dvd h0 (Nat.gcd_dvd_left d ord)
  obtain ⟨h, hh⟩ := Nat.gcd_dvd_right d ord
  generalize Nat.gcd d ord = g at *
  have hne : h ≠ 1 := by
    rintro rfl
    omega
  have fin : ∀ p, 0 < p → p ∣ h → E (ord / p) = E 0 := by
    rintro p hp ⟨q, rfl⟩
    rw [hh, show g * (p * q) = p * (g * q) by rw [Nat.mul_left_comm], Nat.mul_div_cancel_left _ hp]
    exact E_mul hg q
  rcases dvd_ord ⟨g, by rw [hh, Nat.mul_comm]⟩ hne with e | e | e | e | e
  · exact E_p3 (fin 3 (by omega) e)
  · exact E_p5 (fin 5 (by omega) e)
  · exact E_p17 (fin 17 (by omega) e)
  · exact E_p257 (fin 257 (by omega) e)
  · exact E_p65537 (fin 65537 (by omega) e)
/-- Two powers of x that are one: their difference is a multiple of the order. -/
theorem E_inj {a b : Nat} (h : E a = E b) : a % ord = b % ord := by
  have key : ∀ a b : Nat, a ≤ b → E a = E b → (b - a) % ord = 0 := by
    intro a b hab h
    have h1 := E_cancel hab h
    rw [← E_rem E_ord] at h1
    rcases Nat.eq_zero_or_pos ((b - a) % ord) with e | e
    · exact e
    · exact absurd h1 (E_no_return e (Nat.mod_lt _ (by unfold ord; omega)))
  unfold ord at *
  rcases Nat.le_total a b with hab | hab
  · have := key a b hab h
    omega
  · have := key b a hab h.symm
    omega
theorem E_ne {a b : Nat} (hab : a < b) (hb : b - a < ord) : E a ≠ E b := by
  intro h
  have := E_inj h
  unfold ord at *
  omega
theorem P_ne {a b : Nat} (hab : a < b) (hb : b - a < ord) : bs a 1 ≠ bs b 1 := by
  rw [P_E, P_E]
  exact E_ne (by omega) (by omega)
theorem P_ne_zero (a : Nat) : bs a 1 ≠ 0 := by
  intro h
  have h1 : bs a 1 = bs a 0 := by rw [h, bs_zero]
  have := bs_inj (by omega) (by omega) h1
  omega
/-- The sum of a text with n bytes behind it, from the two sums. -/
def joinN (a b : Nat) (n : Int) : Nat := if n < 0 then 0 else bs (8 * n.toNat) a ^^^ b
theorem joinN_lt {a b : Nat} (ha : a < 4294967296) (hb : b < 4294967296) (n : Int) : joinN a b n < 4294967296 := by
  unfold joinN
  split
  · omega
  · exact xlt (bs_lt ha) hb
end Go.Proofs.Ytbjbpgbpefkbhaa
