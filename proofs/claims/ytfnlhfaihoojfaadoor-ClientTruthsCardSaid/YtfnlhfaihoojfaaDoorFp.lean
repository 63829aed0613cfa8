/- Trie, Trie2 (merged) -/
import Derived.Test.YtfnlhfaihoojfaaDoorMb
import Derived.Test.YtfnlhfaihoojfaaDoorFb
import Derived.Test.YtfnlhfaihoojfaaDoorFe
/- The digest of a map, and the proof of what it holds under a key: plain. No function of the program is named here. -/
namespace Go.Proofs.YtfnlhfaihoojfaaDoor
/-- Those entries whose bit at the height h is b. -/
def sideL (m : List Chg) (h b : Nat) : List Chg := m.filter fun x => decide (bitK x.key (255 - h) = b)
/-- The digest of the subtree of height h that holds these entries. -/
def subD (w : Int) : Nat → List Chg → List Nat
  | 0, m => nodeD w (match m with | [] => [2] | x :: _ => leafT x.key x.val)
  | h + 1, m => nodeD w (branchT w (subD w h (sideL m h 0)) (subD w h (sideL m h 1)))
theorem subD_succ (w : Int) (h : Nat) (m : List Chg) : subD w (h + 1) m = nodeD w (branchT w (subD w h (sideL m h 0)) (subD w h (sideL m h 1))) := rfl
theorem subD_facts (w : Int) (h : Nat) (m : List Chg) : (subD w h m).length = 32 ∧ IsB (subD w h m) ∧ tidyB w (subD w h m) = true := by
  cases h <;> exact ⟨nodeD_length _ _, nodeD_isB _ _, nodeD_tidy _ _⟩
theorem subD_nil (w : Int) (h : Nat) : subD w h [] = emptyD w h := by
  induction h with
  | zero => rfl
  | succ h ih =>
    rw [subD_succ, show sideL [] h 0 = [] from rfl, show sideL [] h 1 = [] from rfl, ih]
    rfl
theorem bitK_lt (k : List Nat) (i : Nat) : bitK k i < 2 := bitB_lt _ _
theorem sideL_one (x : Chg) (h b : Nat) : sideL [x] h b = if bitK x.key (255 - h) = b then [x] else [] := by
  unfold sideL
  by_cases e : bitK x.key (255 - h) = b <;> simp [e]
/-- The digest of an entry that is alone. -/
theorem subD_one (w : Int) (x : Chg) (h : Nat) : subD w h [x] = pathD w x.key (nodeD w (leafT x.key x.val)) (emptyD w) h := by
  induction h with
  | zero => rfl
  | succ h ih =>
    rw [subD_succ, sideL_one, sideL_one, pathD]
    unfold upT sidesN
    have := bitK_lt x.key (255 - h)
    by_cases e : bitK x.key (255 - h) = 0
    · simp [e, ih, subD_nil]
    · have e1 : bitK x.key (255 - h) = 1 := by omega
      simp [e1, ih, subD_nil]
/-- How many first bits two keys share, of the first n. -/
def comUp (a b : List Nat) : Nat → Nat
  | 0 => 0
  | n + 1 => if comUp a b n = n ∧ bitK a n = bitK b n then n + 1 else comUp a b n
def comF (a b : List Nat) : Nat := comUp a b 256
theorem comUp_le (a b : List Nat) (n : Nat) : comUp a b n ≤ n := by
  induction n with
  | zero => exact Nat.le_refl _
  | succ n ih => rw [comUp]; split <;> omega
theorem comUp_ge {a b : List Nat} {n m : Nat} (hm : m ≤ n) : m ≤ comUp a b n ↔ ∀ j, j < m → bitK a j = bitK b j := by
  induction n generalizing m with
  | zero => obtain rfl : m = 0 := by omega
            simp
  | succ n ih =>
    have hle := comUp_le a b n
    rw [comUp]
    by_cases hs : m ≤ n
    · rw [← ih hs]
      split <;> omega
    · obtain rfl : m = n + 1 := by omega
      have h1 := ih (Nat.le_refl n)
      constructor
      · intro h
        split at h
        · rename_i hc
          intro j hj
          rcases Nat.lt_or_ge j n with hj' | hj'
          · exact h1.1 (by omega) j hj'
          · obtain rfl : j = n := by omega
            exact hc.2
        · omega
      · intro h
        rw [if_pos ⟨by have := h1.2 fun j hj => h j (by omega); omega, h n (by omega)⟩]
        exact Nat.le_refl _
theorem comF_le (a b : List Nat) : comF a b ≤ 256 := comUp_le a b 256
theorem comF_ge {a b : List Nat} {n : Nat} (hn : n ≤ 256) : n ≤ comF a b ↔ ∀ j, j < n → bitK a j = bitK b j := comUp_ge hn
theorem comF_succ {a b : List Nat} {n : Nat} (hn : n < 256) : n + 1 ≤ comF a b ↔ n ≤ comF a b ∧ bitK a n = bitK b n := by
  rw [comF_ge (show n + 1 ≤ 256 by omega), comF_ge (show n ≤ 256 by omega)]
  constructor
  · exact fun h => ⟨fun j hj => h j (by omega), h n (by omega)⟩
  · rintro ⟨h, h2⟩ j hj
    rcases Nat.lt_or_ge j n with hj' | hj'
    · exact h j hj'
    · obtain rfl : j = n := by omega
      exact h2
theorem comF_at {a b : List Nat} {n : Nat} (hn : n < 256) : comF a b = n ↔ n ≤ comF a b ∧ bitK a n ≠ bitK b n := by
  have h1 := comF_succ (a := a) (b := b) hn
  constructor
  · intro h
    exact ⟨by omega, fun e => by have := h1.2 ⟨by omega, e⟩; omega⟩
  · rintro ⟨h, h2⟩
    have : ¬ n + 1 ≤ comF a b := fun h3 => h2 (h1.1 h3).2
    omega
theorem comF_all {a b : List Nat} (ha : IsB a) (hal : a.length = 32) (hb : IsB b) (hbl : b.length = 32) : comF a b = 256 ↔ a = b := by
  constructor
  · intro h
    by_cases e : a = b
    · exact e
    · exfalso
      obtain ⟨i, hi⟩ := diff_of hal hbl e
      obtain ⟨h1, _, h3⟩ := com_spec ha hb hi
      have h4 := (comF_ge (a := a) (b := b) (Nat.le_refl 256)).1 (by omega) _ h1
      omega
  · rintro rfl
    have := (comF_ge (a := a) (b := a) (Nat.le_refl 256)).2 fun _ _ => rfl
    have := comF_le a a
    omega
/-- Those entries whose keys share the first n bits of k; those of the subtree of height h beside the way of k. -/
def underL (m : List Chg) (k : List Nat) (n : Nat) : List Chg := m.filter fun x => decide (n ≤ comF x.key k)
def nearL (m : List Chg) (k : List Nat) (h : Nat) : List Chg := m.filter fun x => decide (comF x.key k = 255 - h)
theorem underL_zero (m : List Chg) (k : List Nat) : underL m k 0 = m := by
  unfold underL
  rw [List.filter_eq_self]
  intro x _
  simp
theorem side_same (m : List Chg) (k : List Nat) {h : Nat} (hh : h < 256) : sideL (underL m k (255 - h)) h (bitK k (255 - h)) = underL m k (256 - h) := by
  unfold sideL underL
  rw [List.filter_filter]
  apply List.filter_congr
  intro x _
  rw [Bool.eq_iff_iff, Bool.and_eq_true, decide_eq_true_eq, decide_eq_true_eq, decide_eq_true_eq, show 256 - h = 255 - h + 1 by omega, comF_succ (by omega), and_comm]
theorem side_near (m : List Chg) (k : List Nat) {h : Nat} (hh : h < 256) : sideL (underL m k (255 - h)) h (1 - bitK k (255 - h)) = nearL m k h := by
  unfold sideL underL nearL
  rw [List.filter_filter]
  apply List.filter_congr
  intro x _
  have h1 := bitK_lt x.key (255 - h)
  have h2 := bitK_lt k (255 - h)
  rw [Bool.eq_iff_iff, Bool.and_eq_true, decide_eq_true_eq, decide_eq_true_eq, decide_eq_true_eq, comF_at (by omega), and_comm]
  constructor
  · exact fun ⟨a, b⟩ => ⟨a, by omega⟩
  · exact fun ⟨a, b⟩ => ⟨a, by omega⟩
/-- What a map holds under a key. -/
def lookL (m : List Chg) (k : List Nat) : Option Chg := m.find? fun x => decide (x.key = k)
def GoodM (m : List Chg) : Prop := ∀ x, x ∈ m → IsB x.key ∧ x.key.length = 32 ∧ IsB x.val ∧ x.val.length ≤ 128
theorem look_some {m : List Chg} {k : List Nat} {x : Chg} (h : lookL m k = some x) : x ∈ m ∧ x.key = k := ⟨List.mem_of_find?_eq_some h, by simpa using List.find?_some h⟩
theorem look_none {m : List Chg} {k : List Nat} (h : lookL m k = none) : ∀ x, x ∈ m → x.key ≠ k := fun x hx => by simpa using List.find?_eq_none.1 h x hx
theorem filter_unique {m : List Chg} {k : List Nat} (hn : (keysOf m).Nodup) : (m.filter fun x => decide (x.key = k)) = (lookL m k).toList := by
  induction m with
  | nil => rfl
  | cons a r ih =>
    have hn' : (keysOf r).Nodup ∧ a.key ∉ keysOf r := by
      have : keysOf (a :: r) = a.key :: keysOf r := rfl
      rw [this, List.nodup_cons] at hn
      exact ⟨hn.2, hn.1⟩
    unfold lookL
    by_cases e : a.key = k
    · rw [List.filter_cons_of_pos (by simpa using e), List.find?_cons_of_pos (by simpa using e)]
      have : (r.filter fun x => decide (x.key = k)) = [] := by
        rw [List.filter_eq_nil_iff]
        intro x hx hk
        have hk' : x.key = k := by simpa using hk
        exact hn'.2 (List.mem_map.2 ⟨x, hx, by rw [hk', e]⟩)
      rw [this]
      rfl
    · rw [List.filter_cons_of_neg (by simpa using e), List.find?_cons_of_neg (by simpa using e), ih hn'.1]
      rfl
theorem under_all {m : List Chg} {k : List Nat} (hg : GoodM m) (hn : (keysOf m).Nodup) (hk : IsB k) (hkl : k.length = 32) : underL m k 256 = (lookL m k).toList := by
  rw [← filter_unique hn]
  unfold underL
  apply List.filter_congr
  intro x hx
  have h1 := comF_all (hg x hx).1 (hg x hx).2.1 hk hkl
  have h2 := comF_le x.key k
  rw [Bool.eq_iff_iff, decide_eq_true_eq, decide_eq_true_eq, ← h1]
  omega
/-- Bits and digests that are laid one behind the other. -/
def bitsU (f : Nat → Bool) : Nat → List Nat
  | 0 => zs 32
  | n + 1 => if f n then (bitsU f n).set (n / 8) ((bitsU f n).getD (n / 8) 0 + 2 ^ (n % 8)) else bitsU f n
def sumsU (f : Nat → Bool) (g : Nat → List Nat) : Nat → List (List Nat)
  | 0 => []
  | n + 1 => if f n then sumsU f g n ++ [g n] else sumsU f g n
def byteF (f : Nat → Bool) (i : Nat) : Nat → Nat
  | 0 => 0
  | c + 1 => byteF f i c + if f (8 * i + c) then 2 ^ c else 0
theorem byteF_lt (f : Nat → Bool) (i c : Nat) : byteF f i c < 2 ^ c := by
  induction c with
  | zero => simp [byteF]
  | succ c ih =>
    rw [byteF, Nat.pow_succ]
    split <;> omega
theorem byteF_bit (f : Nat → Bool) (i c j : Nat) : decide (byteF f i c / 2 ^ j % 2 = 1) = (decide (j < c) && f (8 * i + j)) := by
  induction c with
  | zero => simp [byteF]
  | succ c ih =>
    have hlt := byteF_lt f i c
    rw [byteF]
    rcases Nat.lt_trichotomy j c with hj | hj | hj
    · have e : (byteF f i c + if f (8 * i + c) then 2 ^ c else 0) / 2 ^ j % 2 = byteF f i c / 2 ^ j % 2 := by
        split
        · rw [show c = j + (c - j - 1 + 1) by omega, Nat.pow_add, Nat.pow_succ, Nat.add_mul_div_left _ _ (Nat.two_pow_pos j), show j + (c - j - 1 + 1) = c by omega]
          omega
        · rw [Nat.add_zero]
      rw [e, ih]
      simp [hj, show j < c + 1 by omega]
    · subst hj
      have e : (byteF f i j + if f (8 * i + j) then 2 ^ j else 0) / 2 ^ j = if f (8 * i + j) then 1 else 0 := by
        split
        · rw [Nat.add_div_right _ (Nat.two_pow_pos j), Nat.div_eq_of_lt hlt]
        · rw [Nat.add_zero, Nat.div_eq_of_lt hlt]
      rw [e]
      cases f (8 * i + j) <;> simp
    · have h2 : (byteF f i c + if f (8 * i + c) then 2 ^ c else 0) < 2 ^ (c + 1) := byteF_lt f i (c + 1)
      rw [Nat.div_eq_of_lt (Nat.lt_of_lt_of_le h2 (Nat.pow_le_pow_right (by decide) (show c + 1 ≤ j by omega)))]
      simp [show ¬ j < c + 1 by omega]
theorem bitsU_length (f : Nat → Bool) (n : Nat) : (bitsU f n).length = 32 := by
  induction n with
  | zero => exact zs_length _
  | succ n ih =>
    rw [bitsU]
    split
    · rw [List.length_set, ih]
    · exact ih
theorem bitsU_at (f : Nat → Bool) {n i : Nat} (hn : n ≤ 256) (hi : i < 32) : (bitsU f n).getD i 0 = byteF f i (min 8 (n - 8 * i)) := by
  induction n with
  | zero =>
    rw [Nat.zero_sub, Nat.min_zero]
    exact zs_all 32 _ (getD_mem (by rw [zs_length]; exact hi))
  | succ n ih =>
    have ih := ih (by omega)
    rw [bitsU]
    by_cases hf : f n = true
    · rw [if_pos hf]
      by_cases e : n / 8 = i
      · subst e
        rw [List.getD_eq_getElem?_getD, List.getElem?_set_self (by rw [bitsU_length]; exact hi), Option.getD_some, ih, show min 8 (n - 8 * (n / 8)) = n % 8 by omega, show min 8 (n + 1 - 8 * (n / 8)) = n % 8 + 1 by omega, byteF, show 8 * (n / 8) + n % 8 = n by omega, if_pos hf]
      · rw [List.getD_eq_getElem?_getD, List.getElem?_set_ne e, ← List.getD_eq_getElem?_getD, ih]
        rcases Nat.lt_or_ge n (8 * i) with h | h
        · rw [show n - 8 * i = 0 by omega, show n + 1 - 8 * i = 0 by omega]
        · rw [show min 8 (n - 8 * i) = 8 by omega, show min 8 (n + 1 - 8 * i) = 8 by omega]
    · rw [if_neg hf, ih]
      by_cases e : n / 8 = i
      · subst e
        rw [show min 8 (n - 8 * (n / 8)) = n % 8 by omega, show min 8 (n + 1 - 8 * (n / 8)) = n % 8 + 1 by omega, byteF, show 8 * (n / 8) + n % 8 = n by omega, if_neg hf, Nat.add_zero]
      · rcases Nat.lt_or_ge n (8 * i) with h | h
        · rw [show n - 8 * i = 0 by omega, show n + 1 - 8 * i = 0 by omega]
        · rw [show min 8 (n - 8 * i) = 8 by omega, show min 8 (n + 1 - 8 * i) = 8 by omega]
theorem bitsU_bit (f : Nat → Bool) {n j : Nat} (hn : n ≤ 256) (hj : j < 256) : bitP (bitsU f n) j = (decide (j < n) && f j) := by
  unfold bitP
  rw [bitsU_at f hn (by omega), byteF_bit, show 8 * (j / 8) + j % 8 = j by omega]
  congr 1
  rw [decide_eq_decide]
  omega
theorem bitsU_isB (f : Nat → Bool) {n : Nat} (hn : n ≤ 256) : IsB (bitsU f n) := fun x hx => by
  obtain ⟨i, hi, rfl⟩ := List.getElem_of_mem hx
  rw [bitsU_length] at hi
  have h1 := bitsU_at f hn hi
  rw [List.getD_eq_getElem?_getD, List.getElem?_eq_getElem (by rw [bitsU_length]; exact hi), Option.getD_some] at h1
  rw [h1]
  exact Nat.lt_of_lt_of_le (byteF_lt _ _ _) (Nat.pow_le_pow_right (by decide) (Nat.min_le_left 8 _))
/-- How many of the first n are set. -/
def cntF (f : Nat → Bool) : Nat → Nat
  | 0 => 0
  | n + 1 => cntF f n + if f n then 1 else 0
theorem cntF_bits (f : Nat → Bool) {n : Nat} (hn : n ≤ 256) : cntP (bitsU f 256) n = cntF f n := by
  induction n with
  | zero => rfl
  | succ n ih =>
    rw [cntP, cntF, ih (by omega), bitsU_bit f (Nat.le_refl _) (by omega), decide_eq_true (show n < 256 by omega), Bool.true_and]
theorem sumsU_length (f : Nat → Bool) (g : Nat → List Nat) (n : Nat) : (sumsU f g n).length = cntF f n := by
  induction n with
  | zero => rfl
  | succ n ih =>
    rw [sumsU, cntF]
    split
    · rw [List.length_append, ih]; rfl
    · exact ih
theorem cntF_lt (f : Nat → Bool) {h n : Nat} (hf : f h = true) (hn : h < n) : cntF f h < cntF f n := by
  induction n with
  | zero => omega
  | succ n ih =>
    rw [cntF]
    rcases Nat.lt_or_ge h n with h1 | h1
    · have := ih h1; omega
    · obtain rfl : h = n := by omega
      rw [if_pos hf]; omega
theorem sumsU_at (f : Nat → Bool) (g : Nat → List Nat) (d : List Nat) {h n : Nat} (hf : f h = true) (hn : h < n) : (sumsU f g n).getD (cntF f h) d = g h := by
  induction n with
  | zero => omega
  | succ n ih =>
    rw [sumsU]
    rcases Nat.lt_or_ge h n with h1 | h1
    · have h2 := cntF_lt f hf h1
      rw [← sumsU_length f g n] at h2
      split
      · rw [List.getD_eq_getElem?_getD, List.getElem?_append_left h2, ← List.getD_eq_getElem?_getD, ih h1]
      · exact ih h1
    · obtain rfl : h = n := by omega
      rw [if_pos hf, List.getD_eq_getElem?_getD, List.getElem?_append_right (by rw [sumsU_length]; exact Nat.le_refl _), sumsU_length, Nat.sub_self]
      rfl
theorem sumsU_mem (f : Nat → Bool) (g : Nat → List Nat) {n : Nat} {s : List Nat} (h : s ∈ sumsU f g n) : ∃ i, i < n ∧ s = g i := by
  induction n with
  | zero => cases h
  | succ n ih =>
    rw [sumsU] at h
    split at h
    · rcases List.mem_append.1 h with h | h
      · obtain ⟨i, a, b⟩ := ih h
        exact ⟨i, by omega, b⟩
      · exact ⟨n, by omega, by simpa using h⟩
    · obtain ⟨i, a, b⟩ := ih h
      exact ⟨i, by omega, b⟩
/-- The proof whose neighbours are g, those that are not the empty subtree's laid out. -/
def prU (w : Int) (found : Bool) (val : List Nat) (g : Nat → List Nat) (n : Nat) : Pr := ⟨found, val, bitsU (fun h => decide (g h ≠ emptyD w h)) n, sumsU (fun h => decide (g h ≠ emptyD w h)) g n⟩
section
variable {w : Int} {found : Bool} {val : List Nat} {g : Nat → List Nat}
theorem prU_near (w : Int) (found : Bool) (val : List Nat) (g : Nat → List Nat) {h : Nat} (hh : h < 256) : nearP w (prU w found val g 256) h = g h := by
  unfold nearP prU
  dsimp only
  rw [bitsU_bit _ (Nat.le_refl _) hh, decide_eq_true hh, Bool.true_and, cntF_bits _ (by omega)]
  by_cases e : g h = emptyD w h
  · rw [if_neg (by simpa using e), e]
  · rw [if_pos (by simpa using e)]
    exact sumsU_at _ g _ (by simpa using e) hh
theorem prU_ok (hv : IsB val) (hl : val.length ≤ 128) (hn : found = false → val = []) (hg : ∀ h, h < 256 → IsB (g h) ∧ (g h).length = 32) : (prU w found val g 256).Ok where
  vB := hv
  vl := hl
  vn := hn
  bB := bitsU_isB _ (Nat.le_refl _)
  bl := bitsU_length _ _
  sB := fun s hs => by
    obtain ⟨i, hi, rfl⟩ := sumsU_mem _ _ hs
    exact hg i hi
  sl := by
    show (sumsU (fun h => decide (g h ≠ emptyD w h)) g 256).length = onesN (bitsU (fun h => decide (g h ≠ emptyD w h)) 256)
    rw [onesN_cnt (bitsU_length _ _), sumsU_length]
    exact (cntF_bits _ (Nat.le_refl _)).symm
theorem prU_form (w : Int) (found : Bool) (val : List Nat) (ht : ∀ h, h < 256 → tidyB w (g h) = true) : formP w (prU w found val g 256) 256 = 0 := formP_of fun j hj => by
  unfold badP
  rw [prU_near w found val g hj]
  by_cases hb : bitP (prU w found val g 256).bits j = true
  · rw [if_pos hb, if_pos (ht j hj), if_neg]
    intro e
    have h1 : bitP (bitsU (fun h => decide (g h ≠ emptyD w h)) 256) j = true := hb
    rw [bitsU_bit _ (Nat.le_refl _) hj] at h1
    simp [e] at h1
  · rw [if_neg hb]
end
/-- A proof in form is the one of its neighbours. -/
theorem prU_self {w : Int} {p : Pr} (hp : p.Ok) (hf : formP w p 256 = 0) : prU w p.found p.val (nearP w p) 256 = p :=
  pr_ext (w := w) (prU_ok hp.vB hp.vl hp.vn fun _ hh => ⟨(nearP_facts hp hh).2, (nearP_facts hp hh).1⟩) hp (prU_form w _ _ fun _ hh => nearP_tidy hf hh) hf rfl rfl fun _ hh => prU_near w _ _ _ hh
theorem pathD_congr {w : Int} {k d0 : List Nat} {f g : Nat → List Nat} {n : Nat} (h : ∀ j, j < n → f j = g j) : pathD w k d0 f n = pathD w k d0 g n := by
  induction n with
  | zero => rfl
  | succ n ih => rw [pathD, pathD, ih fun j hj => h j (by omega), h n (by omega)]
/-- The proof of what a map holds under a key. -/
def foundL (m : List Chg) (k : List Nat) : Bool := (lookL m k).isSome
def valL (m : List Chg) (k : List Nat) : List Nat := match lookL m k with | none => [] | some x => x.val
def nearM (w : Int) (m : List Chg) (k : List Nat) (h : Nat) : List Nat := subD w h (nearL m k h)
def prM (w : Int) (m : List Chg) (k : List Nat) : Pr := prU w (foundL m k) (valL m k) (nearM w m k) 256
section
variable {w : Int} {m : List Chg} {k : List Nat}
theorem prM_ok (w : Int) (hg : GoodM m) (k : List Nat) : (prM w m k).Ok := by
  have h1 : IsB (valL m k) ∧ (valL m k).length ≤ 128 ∧ (foundL m k = false → valL m k = []) := by
    unfold valL foundL
    cases h : lookL m k with
    | none => exact ⟨IsB.nil, by simp, fun _ => rfl⟩
    | some x => exact ⟨(hg x (look_some h).1).2.2.1, (hg x (look_some h).1).2.2.2, fun h => by cases h⟩
  exact prU_ok h1.1 h1.2.1 h1.2.2 fun h _ => ⟨(subD_facts w h _).2.1, (subD_facts w h _).1⟩
theorem prM_form (w : Int) (m : List Chg) (k : List Nat) : formP w (prM w m k) 256 = 0 := prU_form w _ _ fun h _ => (subD_facts w h _).2.2
/-- The path of a map's proof: the digests of what the map holds along the key's way. -/
theorem prM_path (w : Int) (hg : GoodM m) (hn : (keysOf m).Nodup) (hk : IsB k) (hkl : k.length = 32) {h : Nat} (hh : h ≤ 256) : pathP w k (prM w m k) h = subD w h (underL m k (256 - h)) := by
  induction h with
  | zero =>
    show nodeD w (startT k (foundL m k) (valL m k)) = nodeD w _
    rw [Nat.sub_zero, under_all hg hn hk hkl]
    unfold foundL valL
    cases e : lookL m k with
    | none => rfl
    | some x =>
      rw [← (look_some e).2]
      rfl
  | succ h ih =>
    have e : pathP w k (prM w m k) (h + 1) = nodeD w (upT w k h (pathP w k (prM w m k) h) (nearP w (prM w m k) h)) := rfl
    have hb := bitK_lt k (255 - h)
    have s1 := side_same m k (h := h) (by omega)
    have s2 := side_near m k (h := h) (by omega)
    rw [e, ih (by omega), show nearP w (prM w m k) h = nearM w m k h from prU_near w _ _ _ (by omega), show 256 - (h + 1) = 255 - h by omega, subD_succ]
    unfold upT sidesN nearM
    by_cases e0 : bitK k (255 - h) = 0
    · rw [e0] at s1 s2
      rw [if_pos e0, s1, s2]
    · have e1 : bitK k (255 - h) = 1 := by omega
      rw [e1] at s1 s2
      rw [if_neg e0, s1, s2]
end
theorem headN_enc {p : Pr} (hp : p.Ok) (r : List Nat) : headN ((if p.found then 1 :: p.val.length % 256 :: p.val.length / 256 :: p.val else [0]) ++ r) = some (p.found, p.val, r) := by
  have hl := hp.vl
  cases hf : p.found with
  | false =>
    rw [hp.vn hf]
    rfl
  | true =>
    unfold headN
    rw [if_pos rfl]
    have hq : p.val.length / 256 = 0 := by omega
    have hm : p.val.length % 256 = p.val.length := by omega
    rw [hq, hm]
    rw [if_neg (by simp), if_neg (by simp), if_pos (by simp; omega)]
    simp only [List.cons_append, List.getD_cons_succ, List.getD_cons_zero, List.drop_succ_cons, List.drop_zero, Nat.mul_zero, Nat.add_zero, List.take_left']
    rw [show 3 + p.val.length = p.val.length + 3 by omega]
    simp
/-- What is laid out is read as it was. -/
theorem decN_enc {p : Pr} (hp : p.Ok) : decN (encN p) = some p := by
  unfold decN encN
  rw [headN_enc hp]
  dsimp only
  have hs : p.sums.flatten.length = 32 * p.sums.length := by
    have := hp.sB
    generalize p.sums = ds at *
    induction ds with
    | nil => rfl
    | cons a r ih =>
      rw [List.flatten_cons, List.length_append, (this a (by simp)).2, ih fun s hs => this s (by simp [hs]), List.length_cons]
      omega
  have ht : (p.bits ++ p.sums.flatten).take 32 = p.bits := by rw [← hp.bl, List.take_left]
  have hd : (p.bits ++ p.sums.flatten).drop 32 = p.sums.flatten := by rw [← hp.bl, List.drop_left]
  have hc : ∀ ds : List (List Nat), (∀ s ∈ ds, IsB s ∧ s.length = 32) → chunksN ds.length ds.flatten = ds := fun ds => by
    induction ds with
    | nil => exact fun _ => rfl
    | cons a r ih =>
      intro h
      have ha : a.length = 32 := (h a (by simp)).2
      rw [List.length_cons, chunksN, List.flatten_cons, ← ha, List.take_left, List.drop_left, ih fun s hs => h s (by simp [hs])]
  unfold tailN
  rw [ht, hd, ← hp.sl, if_pos ⟨by rw [List.length_append, hp.bl]; omega, by rw [List.length_append, hp.bl, hs]⟩, hc _ hp.sB]
theorem encN_isB {p : Pr} (hp : p.Ok) : IsB (encN p) := by
  have hs : IsB p.sums.flatten := fun x hx => by
    obtain ⟨s, h1, h2⟩ := List.mem_flatten.1 hx
    exact (hp.sB s h1).1 x h2
  have hl := hp.vl
  unfold encN
  refine IsB.app ?_ (hp.bB.app hs)
  split
  · intro x hx
    rcases List.mem_cons.1 hx with h | hx
    · omega
    rcases List.mem_cons.1 hx with h | hx
    · omega
    rcases List.mem_cons.1 hx with h | hx
    · omega
    · exact hp.vB x hx
  · exact IsB.one (by omega)
/-- The proof of a map is taken, under the map's root. -/
theorem errP_map {w : Int} (h1 : 1 ≤ w) (h2 : w ≤ 32) {m : List Chg} {k : List Nat} (hg : GoodM m) (hn : (keysOf m).Nodup) (hk : IsB k) (hkl : k.length = 32) : errP w (subD w 256 m) k (encN (prM w m k)) = 0 := by
  unfold errP
  rw [if_neg (by omega), decN_enc (prM_ok w hg k)]
  dsimp only
  rw [if_pos (prM_form w m k), prM_path w hg hn hk hkl (Nat.le_refl _), Nat.sub_self, underL_zero, if_pos rfl]
end Go.Proofs.YtfnlhfaihoojfaaDoor

/- Parts of a map under a row of bits: plain. No function of the program is named here. -/
namespace Go.Proofs.YtfnlhfaihoojfaaDoor
/-- These keys share their first n bits. -/
def Share (m : List Chg) (n : Nat) : Prop := ∀ x, x ∈ m → ∀ y, y ∈ m → ∀ b, b < n → bitK x.key b = bitK y.key b
def GoodL (m : List Chg) : Prop := ∀ x, x ∈ m → GoodK x
theorem GoodM.l {m : List Chg} (h : GoodM m) : GoodL m := fun x hx => ⟨(h x hx).1, (h x hx).2.1⟩
theorem share_nodup {m : List Chg} (hg : GoodL m) (hn : (keysOf m).Nodup) (hs : Share m 256) : m.length ≤ 1 := by
  match m, hg, hn, hs with
  | [], _, _, _ => simp
  | [x], _, _, _ => simp
  | x :: y :: r, hg, hn, hs =>
    exfalso
    have h1 : x.key = y.key := (comF_all (hg x (by simp)).1 (hg x (by simp)).2 (hg y (by simp)).1 (hg y (by simp)).2).1 (by
      have := (comF_ge (a := x.key) (b := y.key) (Nat.le_refl 256)).2 fun j hj => hs x (by simp) y (by simp) j hj
      have := comF_le x.key y.key
      omega)
    simp [keysOf, h1] at hn
theorem share_side {m : List Chg} {h : Nat} (hh : h < 256) (hs : Share m (255 - h)) (b : Nat) : Share (sideL m h b) (256 - h) := fun x hx y hy j hj => by
  have hx' := List.mem_filter.1 hx
  have hy' := List.mem_filter.1 hy
  rcases Nat.lt_or_ge j (255 - h) with h1 | h1
  · exact hs x hx'.1 y hy'.1 j h1
  · obtain rfl : j = 255 - h := by omega
    have a := hx'.2
    have c := hy'.2
    rw [decide_eq_true_eq] at a c
    rw [a, c]
theorem side_good {m : List Chg} (hg : GoodL m) (h b : Nat) : GoodL (sideL m h b) := fun x hx => hg x (List.mem_filter.1 hx).1
theorem filter_nodup {m : List Chg} (hn : (keysOf m).Nodup) (f : Chg → Bool) : (keysOf (m.filter f)).Nodup := hn.sublist (List.Sublist.map _ List.filter_sublist)
theorem side_nodup {m : List Chg} (hn : (keysOf m).Nodup) (h b : Nat) : (keysOf (sideL m h b)).Nodup := filter_nodup hn _
theorem side_sorted {m : List Chg} (hn : Sorted m) (h b : Nat) : Sorted (sideL m h b) := hn.sublist List.filter_sublist
/-- In rising order the bits behind what is shared rise, too. -/
theorem bit_rise {a b : List Nat} (ha : IsB a) (hal : a.length = 32) (hb : IsB b) (hbl : b.length = 32) {n : Nat} (hs : ∀ j, j < n → bitK a j = bitK b j) (hle : numK a ≤ numK b) : bitK a n ≤ bitK b n := by
  by_cases e : a = b
  · rw [e]; exact Nat.le_refl _
  · obtain ⟨i, hi⟩ := diff_of hal hbl e
    obtain ⟨h1, h2, h3⟩ := com_spec ha hb hi
    rcases h3 with ⟨h4, h5, h6⟩ | ⟨h4, h5, h6⟩
    · rcases Nat.lt_trichotomy n (comN a b i) with h7 | h7 | h7
      · rw [h2 n h7]; exact Nat.le_refl _
      · rw [h7, h5, h6]; omega
      · have := hs _ h7
        omega
    · have h8 := numK_less b a i hb ha (by omega) (by have := hi.1; omega) (fun j hj => (hi.2.1 j hj).symm) h4
      omega
theorem take_lst (X : Nat → Chg) {N k : Nat} (hk : k ≤ N) : (lst X N).take k = lst X k := by
  have h := lst_add X k (N - k)
  rw [show k + (N - k) = N by omega] at h
  rw [h, List.take_left' (lst_length X k)]
theorem drop_lst (X : Nat → Chg) {N k : Nat} (hk : k ≤ N) : (lst X N).drop k = lst (fun i => X (k + i)) (N - k) := by
  have h := lst_add X k (N - k)
  rw [show k + (N - k) = N by omega] at h
  rw [h, List.drop_left' (lst_length X k)]
theorem mem_at {X : Nat → Chg} {N i : Nat} (hi : i < N) : X i ∈ lst X N := mem_lst.2 ⟨i, hi, rfl⟩
theorem sorted_lst {X : Nat → Chg} {N i j : Nat} (h : Sorted (lst X N)) (hij : i < j) (hj : j < N) : numK (X i).key ≤ numK (X j).key := by
  have := sorted_at h hij (by rw [lst_length]; exact hj)
  rwa [lst_getD (by omega), lst_getD hj] at this
/-- The parts of a list in rising order: those with a 0 come first. -/
theorem side_split {X : Nat → Chg} {N k n : Nat} (hn : n < 256) (hg : GoodL (lst X N)) (ho : Sorted (lst X N)) (hs : Share (lst X N) n) (hk : k ≤ N) (h0 : ∀ i, i < k → bitK (X i).key n = 0) (h1 : k < N → bitK (X k).key n ≠ 0) :
    sideL (lst X N) (255 - n) 0 = lst X k ∧ sideL (lst X N) (255 - n) 1 = lst (fun i => X (k + i)) (N - k) := by
  have hone : ∀ i, k ≤ i → i < N → bitK (X i).key n = 1 := fun i hi hN => by
    have ha := h1 (by omega)
    have hb := bitK_lt (X k).key n
    have hc := bitK_lt (X i).key n
    by_cases e : i = k
    · subst e; omega
    · have := bit_rise (hg _ (mem_at (X := X) (N := N) (i := k) (by omega))).1 (hg _ (mem_at (X := X) (N := N) (i := k) (by omega))).2 (hg _ (mem_at hN)).1 (hg _ (mem_at hN)).2 (fun j hj => hs _ (mem_at (by omega)) _ (mem_at hN) j hj) (sorted_lst ho (show k < i by omega) hN)
      omega
  have hsp := lst_add X k (N - k)
  rw [show k + (N - k) = N by omega] at hsp
  have hz : ∀ x, x ∈ lst X k → bitK x.key n = 0 := fun x hx => by
    obtain ⟨i, hi, rfl⟩ := mem_lst.1 hx
    exact h0 i hi
  have ho1 : ∀ x, x ∈ lst (fun i => X (k + i)) (N - k) → bitK x.key n = 1 := fun x hx => by
    obtain ⟨i, hi, rfl⟩ := mem_lst.1 hx
    exact hone _ (by omega) (by omega)
  unfold sideL
  rw [show 255 - (255 - n) = n by omega, hsp, List.filter_append, List.filter_append]
  constructor
  · rw [List.filter_eq_self.2 (fun x hx => by simpa using hz x hx), List.filter_eq_nil_iff.2 (fun x hx => by simp [ho1 x hx]), List.append_nil]
  · rw [List.filter_eq_nil_iff.2 (fun x hx => by simp [hz x hx]), List.filter_eq_self.2 (fun x hx => by simpa using ho1 x hx), List.nil_append]
theorem EntsAt.take {w : World} {A : Option Addr} {N h : Nat} {X : Nat → Chg} (hx : EntsAt w A N X) (hh : h ≤ N) : EntsAt w A h X := ⟨by have := hx.1; omega, fun k hk => hx.2 k (by omega)⟩
theorem EntsAt.drop {w : World} {A B : Option Addr} {N h : Nat} {X : Nat → Chg} (hx : EntsAt w A N X) (hh : h ≤ N) (hB : h < N → B = A.map (·.add (h * 33))) : EntsAt w B (N - h) (fun k => X (h + k)) := ⟨by have := hx.1; omega, fun k hk => by
  obtain ⟨b, o, Av, C, rfl, h2, h3, h4⟩ := hx.2 (h + k) (by omega)
  refine ⟨b, o + h * 33, Av, C, by rw [hB (by omega)]; simp [add_lit], h2, ?_, h4⟩
  rw [show o + h * 33 + k * 33 = o + (h + k) * 33 by omega]
  exact h3⟩
theorem EntsAt.good {w : World} {A : Option Addr} {N : Nat} {X : Nat → Chg} (hx : EntsAt w A N X) : GoodL (lst X N) := fun x h => by
  obtain ⟨i, hi, rfl⟩ := mem_lst.1 h
  obtain ⟨_, _, _, _, _, _, _, h4, h5, _⟩ := hx.2 i hi
  exact ⟨h4, h5⟩
end Go.Proofs.YtfnlhfaihoojfaaDoor
