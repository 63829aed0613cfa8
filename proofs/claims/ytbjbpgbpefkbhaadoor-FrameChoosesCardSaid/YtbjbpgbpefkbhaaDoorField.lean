/- The register as a linear machine: one bit's step, its powers, what a text and a turned bit do. Plain arithmetic; no program is named here. -/
import Derived.Test.YtbjbpgbpefkbhaaDoorCrc
namespace Go.Proofs.YtbjbpgbpefkbhaaDoor
/-! ### exclusive or -/
theorem xac (a b c d : Nat) : (a ^^^ b) ^^^ (c ^^^ d) = (a ^^^ c) ^^^ (b ^^^ d) := by
  rw [Nat.xor_assoc, Nat.xor_assoc, ← Nat.xor_assoc b c d, Nat.xor_comm b c, Nat.xor_assoc c b d]
theorem xcan (a b : Nat) : a ^^^ (a ^^^ b) = b := by rw [← Nat.xor_assoc, Nat.xor_self, Nat.zero_xor]
theorem xcan' (a b : Nat) : (a ^^^ b) ^^^ b = a := by rw [Nat.xor_assoc, Nat.xor_self, Nat.xor_zero]
theorem xeq {a b : Nat} (h : a ^^^ b = 0) : a = b := by rw [← xcan' a b, h, Nat.zero_xor]
theorem xinj {a b c : Nat} (h : a ^^^ b = a ^^^ c) : b = c := by rw [← xcan a b, h, xcan]
theorem xlt {a b : Nat} (ha : a < 4294967296) (hb : b < 4294967296) : a ^^^ b < 4294967296 := Nat.xor_lt_two_pow (n := 32) ha hb
/-! ### one bit's step -/
def poly : Nat := 3988292384
def bstep (r : Nat) : Nat := r / 2 ^^^ (if r % 2 = 1 then poly else 0)
theorem bstep_lt {r : Nat} (h : r < 4294967296) : bstep r < 4294967296 := by
  unfold bstep
  refine xlt (by omega) ?_
  split
  · unfold poly; omega
  · omega
theorem bstep_zero : bstep 0 = 0 := by decide
theorem bstep_xor (a b : Nat) : bstep (a ^^^ b) = bstep a ^^^ bstep b := by
  unfold bstep
  rw [Nat.xor_div_two, xac]
  congr 1
  have h : (a ^^^ b) % 2 = (a % 2) ^^^ (b % 2) := Nat.xor_mod_two_pow (n := 1)
  rw [h]
  rcases Nat.mod_two_eq_zero_or_one a with ha | ha <;> rcases Nat.mod_two_eq_zero_or_one b with hb | hb <;> simp [ha, hb]
/-- The step loses nothing. -/
theorem bstep_inj0 {r : Nat} (hr : r < 4294967296) (h : bstep r = 0) : r = 0 := by
  unfold bstep at h
  split at h
  · have h1 := xeq h
    unfold poly at h1
    omega
  · rw [Nat.xor_zero] at h
    omega
theorem bstep_inj {a b : Nat} (ha : a < 4294967296) (hb : b < 4294967296) (h : bstep a = bstep b) : a = b := by
  refine xeq (bstep_inj0 (xlt ha hb) ?_)
  rw [bstep_xor, h, Nat.xor_self]
/-! ### its powers -/
def bs : Nat → Nat → Nat
  | 0, r => r
  | m + 1, r => bs m (bstep r)
theorem bs_succ (m r : Nat) : bs (m + 1) r = bstep (bs m r) := by
  induction m generalizing r with
  | zero => rfl
  | succ m ih => rw [bs, ih, bs]
theorem bs_add (m k r : Nat) : bs (m + k) r = bs m (bs k r) := by
  induction m with
  | zero => rw [Nat.zero_add]; rfl
  | succ m ih => rw [show m + 1 + k = (m + k) + 1 by omega, bs_succ, ih, bs_succ]
theorem bs_lt {m r : Nat} (h : r < 4294967296) : bs m r < 4294967296 := by
  induction m generalizing r with
  | zero => exact h
  | succ m ih => exact ih (bstep_lt h)
theorem bs_xor (m a b : Nat) : bs m (a ^^^ b) = bs m a ^^^ bs m b := by
  induction m generalizing a b with
  | zero => rfl
  | succ m ih => rw [bs, bstep_xor, ih]; rfl
theorem bs_zero (m : Nat) : bs m 0 = 0 := by
  induction m with
  | zero => rfl
  | succ m ih => rw [bs, bstep_zero, ih]
theorem bs_inj {m a b : Nat} (ha : a < 4294967296) (hb : b < 4294967296) (h : bs m a = bs m b) : a = b := by
  induction m generalizing a b with
  | zero => exact h
  | succ m ih => exact bstep_inj ha hb (ih (bstep_lt ha) (bstep_lt hb) h)
theorem bs_comm (m k r : Nat) : bs m (bs k r) = bs k (bs m r) := by rw [← bs_add, Nat.add_comm, bs_add]
/-! ### half bytes, bytes -/
theorem tab_xor (a b : Nat) : tab ((a ^^^ b) % 16) = tab (a % 16) ^^^ tab (b % 16) := by
  have h : (a ^^^ b) % 16 = (a % 16) ^^^ (b % 16) := Nat.xor_mod_two_pow (n := 4)
  rw [h]
  have key : ∀ i j : Fin 16, tab (i.val ^^^ j.val) = tab i.val ^^^ tab j.val := by decide +kernel
  exact key ⟨a % 16, Nat.mod_lt _ (by omega)⟩ ⟨b % 16, Nat.mod_lt _ (by omega)⟩
theorem nib_xor (a b : Nat) : nib (a ^^^ b) = nib a ^^^ nib b := by
  unfold nib
  rw [tab_xor, show (16 : Nat) = 2 ^ 4 from rfl, Nat.xor_div_two_pow, xac]
theorem split16 (r : Nat) : r = (16 * (r / 16)) ^^^ (r % 16) := by
  have h : 16 * (r / 16) + r % 16 = 16 * (r / 16) ||| r % 16 := Nat.two_pow_add_eq_or_of_lt (i := 4) (by omega) _
  have h2 : (16 * (r / 16)) ^^^ (r % 16) = 16 * (r / 16) ||| r % 16 := by
    apply Nat.eq_of_testBit_eq
    intro i
    rw [Nat.testBit_xor, Nat.testBit_or]
    by_cases hi : i < 4
    · have : (16 * (r / 16)).testBit i = false := by
        rw [show 16 * (r / 16) = 2 ^ 4 * (r / 16) from rfl, Nat.testBit_two_pow_mul]
        simp; omega
      simp [this]
    · have : (r % 16).testBit i = false := Nat.testBit_lt_two_pow (Nat.lt_of_lt_of_le (Nat.mod_lt _ (by omega)) (show 2 ^ 4 ≤ 2 ^ i from Nat.pow_le_pow_right (by omega) (by omega)))
      simp [this]
  rw [h2, ← h]
  omega
theorem bstep_even (q : Nat) : bstep (2 * q) = q := by
  unfold bstep
  rw [if_neg (by omega), Nat.xor_zero]
  omega
theorem nib_bs (r : Nat) : nib r = bs 4 r := by
  rw [split16 r, nib_xor, bs_xor]
  congr 1
  · have h1 : nib (16 * (r / 16)) = r / 16 := by
      unfold nib
      rw [show 16 * (r / 16) % 16 = 0 by omega, show 16 * (r / 16) / 16 = r / 16 by omega, show tab 0 = 0 from rfl, Nat.zero_xor]
    rw [h1]
    show _ = bstep (bstep (bstep (bstep _)))
    rw [show 16 * (r / 16) = 2 * (2 * (2 * (2 * (r / 16)))) by omega, bstep_even, bstep_even, bstep_even, bstep_even]
  · have key : ∀ i : Fin 16, nib i.val = bs 4 i.val := by decide +kernel
    exact key ⟨r % 16, Nat.mod_lt _ (by omega)⟩
theorem stepN_bs (r x : Nat) : stepN r x = bs 8 (r ^^^ x) := by
  unfold stepN
  rw [nib_bs, nib_bs, ← bs_add]
/-! ### texts -/
theorem feedN_nil (r : Nat) : feedN r [] = r := rfl
theorem feedN_cons (r x : Nat) (xs : List Nat) : feedN r (x :: xs) = feedN (stepN r x) xs := rfl
theorem feedN_append (r : Nat) (xs ys : List Nat) : feedN r (xs ++ ys) = feedN (feedN r xs) ys := by
  unfold feedN
  rw [List.foldl_append]
/-- What is laid over the register goes through a text of n bytes as it goes through n zeros. -/
theorem feedN_over (xs : List Nat) : ∀ r d : Nat, feedN (r ^^^ d) xs = feedN r xs ^^^ bs (8 * xs.length) d := by
  induction xs with
  | nil => intro r d; rfl
  | cons x xs ih =>
    intro r d
    rw [feedN_cons, feedN_cons, stepN_bs, stepN_bs, Nat.xor_assoc, Nat.xor_comm d x, ← Nat.xor_assoc, bs_xor, ih, ← bs_add, List.length_cons, show 8 * (xs.length + 1) = 8 * xs.length + 8 by omega]
/-- A byte that is turned by b. -/
theorem feedN_set {xs : List Nat} {j : Nat} (hj : j < xs.length) (r b : Nat) :
    feedN r (xs.set j (xs.getD j 0 ^^^ b)) = feedN r xs ^^^ bs (8 * (xs.length - j)) b := by
  have e1 : xs.set j (xs.getD j 0 ^^^ b) = xs.take j ++ (xs.getD j 0 ^^^ b) :: xs.drop (j + 1) := by
    rw [List.set_eq_take_append_cons_drop, if_pos hj]
  have e2 : xs = xs.take j ++ xs.getD j 0 :: xs.drop (j + 1) := by
    have : xs.getD j 0 = xs[j] := by simp [List.getD, hj]
    rw [this, List.getElem_cons_drop, List.take_append_drop]
  rw [e1]
  conv => rhs; rw [e2]
  rw [feedN_append, feedN_append, feedN_cons, feedN_cons, stepN_bs, stepN_bs, ← Nat.xor_assoc, bs_xor, feedN_over, ← bs_add]
  congr 2
  simp
  omega
/-- One bit turned. -/
theorem bs_bit (m : Nat) : ∀ i, i ≤ m → bs m (2 ^ i) = bs (m - i) 1
  | 0, _ => rfl
  | i + 1, h => by
    obtain ⟨m, rfl⟩ : ∃ k, m = k + 1 := ⟨m - 1, by omega⟩
    rw [bs, Nat.pow_succ, Nat.mul_comm, bstep_even, bs_bit m i (by omega)]
    congr 1
    omega
theorem flip_feed {xs : List Nat} {k : Nat} (hk : k < 8 * xs.length) (r : Nat) : feedN r (flipN xs k) = feedN r xs ^^^ bs (8 * xs.length - k) 1 := by
  rw [flipN_in hk, feedN_set (by omega), bs_bit _ _ (by omega)]
  congr 2
  omega
/-! ### a sealed text -/
def top : Nat := 4294967295
theorem comp_xor {a : Nat} (ha : a < 4294967296) : comp a = top ^^^ a := by
  unfold comp top
  apply Nat.eq_of_testBit_eq
  intro i
  rw [Nat.testBit_xor, show 4294967295 = 2 ^ 32 - 1 from rfl, Nat.testBit_two_pow_sub_one, show 2 ^ 32 - 1 - a = 2 ^ 32 - (a + 1) by omega, Nat.testBit_two_pow_sub_succ (by omega : a < 2 ^ 32)]
  by_cases h : i < 32
  · simp [h]
  · have h2 : 2 ^ 32 ≤ 2 ^ i := Nat.pow_le_pow_right (by decide) (by omega)
    have : a.testBit i = false := Nat.testBit_lt_two_pow (Nat.lt_of_lt_of_le ha h2)
    simp [h, this]
theorem updN_zero (xs : List Nat) : updN 0 xs = comp (feedN top xs) := rfl
theorem bs8_256 (q : Nat) : bs 8 (256 * q) = q := by
  show bstep (bstep (bstep (bstep (bstep (bstep (bstep (bstep _))))))) = _
  rw [show 256 * q = 2 * (2 * (2 * (2 * (2 * (2 * (2 * (2 * q))))))) by omega, bstep_even, bstep_even, bstep_even, bstep_even, bstep_even, bstep_even, bstep_even, bstep_even]
theorem split2 (k r : Nat) : r = (2 ^ k * (r / 2 ^ k)) ^^^ (r % 2 ^ k) := by
  have hlt : r % 2 ^ k < 2 ^ k := Nat.mod_lt _ (Nat.two_pow_pos k)
  have h : 2 ^ k * (r / 2 ^ k) + r % 2 ^ k = 2 ^ k * (r / 2 ^ k) ||| r % 2 ^ k := Nat.two_pow_add_eq_or_of_lt hlt _
  have h2 : (2 ^ k * (r / 2 ^ k)) ^^^ (r % 2 ^ k) = 2 ^ k * (r / 2 ^ k) ||| r % 2 ^ k := by
    apply Nat.eq_of_testBit_eq
    intro i
    rw [Nat.testBit_xor, Nat.testBit_or]
    by_cases hi : i < k
    · have : (2 ^ k * (r / 2 ^ k)).testBit i = false := by
        rw [Nat.testBit_two_pow_mul]
        simp; omega
      simp [this]
    · have : (r % 2 ^ k).testBit i = false := Nat.testBit_lt_two_pow (Nat.lt_of_lt_of_le hlt (Nat.pow_le_pow_right (by omega) (by omega)))
      simp [this]
  rw [h2, ← h, Nat.div_add_mod]
theorem step_le (r c : Nat) : stepN r (c % 256) ^^^ (c / 256) = bs 8 (r ^^^ c) := by
  rw [stepN_bs]
  conv => rhs; rw [split2 8 c, show (2 : Nat) ^ 8 = 256 from rfl, Nat.xor_comm (256 * (c / 256)), ← Nat.xor_assoc, bs_xor, bs8_256]
theorem feed_le4 (r c : Nat) (hc : c < 4294967296) : feedN r (le4 c) = bs 32 (r ^^^ c) := by
  show stepN (stepN (stepN (stepN r (c % 256)) (c / 256 % 256)) (c / 65536 % 256)) (c / 16777216 % 256) = _
  have h1 := step_le r c
  have h2 := step_le (stepN r (c % 256)) (c / 256)
  have h3 := step_le (stepN (stepN r (c % 256)) (c / 256 % 256)) (c / 65536)
  have h4 := step_le (stepN (stepN (stepN r (c % 256)) (c / 256 % 256)) (c / 65536 % 256)) (c / 16777216)
  rw [show c / 256 / 256 = c / 65536 by omega, h1, ← bs_add] at h2
  rw [show c / 65536 / 256 = c / 16777216 by omega, h2, ← bs_add] at h3
  rw [show c / 16777216 / 256 = 0 by omega, h3, ← bs_add, Nat.xor_zero] at h4
  exact h4
theorem le4_inj {c d : Nat} (hc : c < 4294967296) (hd : d < 4294967296) (h : le4 c = le4 d) : c = d := by
  simp only [le4, List.cons.injEq, and_true] at h
  omega
/-- Four bytes are those of one number. -/
theorem le4_of (a b c d : Nat) (ha : a < 256) (hb : b < 256) (hc : c < 256) (hd : d < 256) : ∃ s, s < 4294967296 ∧ le4 s = [a, b, c, d] :=
  ⟨a + 256 * b + 65536 * c + 16777216 * d, by omega, by simp only [le4, List.cons.injEq, and_true]; omega⟩
theorem wholeN_iff {xs : List Nat} (hB : ∀ x ∈ xs, x < 256) (h4 : 4 ≤ xs.length) : wholeN xs = true ↔ feedN top xs = bs 32 top := by
  obtain ⟨k, hk⟩ : ∃ k, xs.length = k + 4 := ⟨xs.length - 4, by omega⟩
  have hm : ∀ j, j < xs.length → xs.getD j 0 < 256 := fun j hj => hB _ (List.mem_of_getElem? (i := j) (by simp [List.getD, hj]))
  obtain ⟨s, hs, he⟩ := le4_of _ _ _ _ (hm k (by omega)) (hm (k + 1) (by omega)) (hm (k + 2) (by omega)) (hm (k + 3) (by omega))
  rw [← drop_four hk] at he
  have hf : feedN top (xs.take k) < 4294967296 := feedN_lt (fun x hx => hB x (List.mem_of_mem_take hx)) (by unfold top; omega)
  have e1 : feedN top xs = bs 32 (feedN top (xs.take k) ^^^ s) := by
    conv => lhs; rw [← List.take_append_drop k xs, feedN_append, ← he]
    exact feed_le4 _ _ hs
  unfold wholeN
  rw [decide_eq_true_iff, show xs.length - 4 = k by omega, ← he, e1, updN_zero, comp_xor hf]
  constructor
  · rintro ⟨_, h⟩
    rw [le4_inj hs (xlt (by unfold top; omega) hf) h, Nat.xor_comm top, xcan]
  · intro h
    have h1 := bs_inj (xlt hf hs) (by unfold top; omega) h
    have h2 : s = top ^^^ feedN top (xs.take k) := (xcan (feedN top (xs.take k)) s).symm.trans (by rw [h1, Nat.xor_comm])
    exact ⟨h4, congrArg le4 h2⟩
theorem sealN_isB {xs : List Nat} (hB : ∀ x ∈ xs, x < 256) : ∀ x ∈ sealN xs, x < 256 := by
  intro x hx
  rcases List.mem_append.1 hx with h | h
  · exact hB x h
  · exact le4_isB _ x h
theorem sealN_whole (xs : List Nat) : wholeN (sealN xs) = true := by
  unfold wholeN
  rw [decide_eq_true_iff, sealN_length]
  refine ⟨by omega, ?_⟩
  simp [sealN]
theorem flipN_isB {xs : List Nat} (hB : ∀ x ∈ xs, x < 256) (k : Int) : ∀ x ∈ flipN xs k, x < 256 := by
  intro x hx
  unfold flipN at hx
  split at hx
  · rename_i h
    rcases List.mem_or_eq_of_mem_set hx with h1 | h1
    · exact hB x h1
    · subst h1
      refine Nat.xor_lt_two_pow (n := 8) ?_ (Nat.pow_lt_pow_right (by omega) (by omega))
      have hj : k.toNat / 8 < xs.length := by omega
      exact hB _ (List.mem_of_getElem? (i := k.toNat / 8) (by simp [List.getD, hj]))
  · exact hB x hx
end Go.Proofs.YtbjbpgbpefkbhaaDoor
