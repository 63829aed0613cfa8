/- Lists of changes in order, in plain Lean. -/
import Derived.Test.YtkpbeibcfaenhaaBatN
import Derived.Test.YtkpbeibcfaenhaaNumK
namespace Go.Proofs.Ytkpbeibcfaenhaa
def lst (X : Nat → Chg) (n : Nat) : List Chg := (List.range n).map X
def fnOf (l : List Chg) : Nat → Chg := fun i => l.getD i default
theorem lst_length (X : Nat → Chg) (n : Nat) : (lst X n).length = n := by simp [lst]
theorem lst_getD {X : Nat → Chg} {n i : Nat} (h : i < n) : (lst X n).getD i default = X i := by
  simp [lst, List.getD, List.getElem?_map, List.getElem?_range h]
theorem lst_fnOf (l : List Chg) : lst (fnOf l) l.length = l := by
  apply List.ext_getElem?
  intro i
  rcases Nat.lt_or_ge i l.length with h | h
  · simp [lst, fnOf, List.getElem?_map, List.getElem?_range h, List.getD, List.getElem?_eq_getElem h]
  · rw [List.getElem?_eq_none (by rw [lst_length]; exact h), List.getElem?_eq_none h]
theorem lst_succ (X : Nat → Chg) (n : Nat) : lst X (n + 1) = lst X n ++ [X n] := by simp [lst, List.range_succ]
theorem lst_congr {X Y : Nat → Chg} {n : Nat} (h : ∀ i, i < n → X i = Y i) : lst X n = lst Y n := by
  unfold lst
  exact List.map_congr_left fun i hi => h i (List.mem_range.1 hi)
theorem mem_lst {X : Nat → Chg} {n : Nat} {x : Chg} : x ∈ lst X n ↔ ∃ i, i < n ∧ X i = x := by simp [lst]
theorem lst_add (X : Nat → Chg) (h n : Nat) : lst X (h + n) = lst X h ++ lst (fun i => X (h + i)) n := by
  induction n with
  | zero => simp [lst]
  | succ n ih => rw [← Nat.add_assoc, lst_succ, ih, lst_succ, List.append_assoc]
/-- The change as it is answered. -/
def plainC (x : Chg) : Chg := if x.del then ⟨x.key, true, []⟩ else x
theorem plainC_key (x : Chg) : (plainC x).key = x.key := by
  unfold plainC
  split <;> rfl
def ordC (a b : Chg) : Prop := numK a.key ≤ numK b.key
def leC (a b : Chg) : Bool := decide (numK a.key ≤ numK b.key)
theorem leC_iff (a b : Chg) : leC a b = true ↔ ordC a b := by simp [leC, ordC]
def Sorted (l : List Chg) : Prop := l.Pairwise ordC
theorem sorted_merge {a b : List Chg} (ha : Sorted a) (hb : Sorted b) : Sorted (a.merge b leC) := by
  have h := List.pairwise_merge (le := leC) (fun x y z h1 h2 => by simp [leC] at *; omega) (fun x y => by simp [leC]; omega) a b (ha.imp fun h => (leC_iff _ _).2 h) (hb.imp fun h => (leC_iff _ _).2 h)
  exact h.imp fun h => (leC_iff _ _).1 h
/-- Two lists at the places i and j. -/
theorem merge_none {l : List Chg} : List.merge [] l leC = l ∧ List.merge l [] leC = l := by simp
theorem merge_step {a b : List Chg} {x y : Chg} : List.merge (x :: a) (y :: b) leC = if numK x.key ≤ numK y.key then x :: List.merge a (y :: b) leC else y :: List.merge (x :: a) b leC := by
  rw [List.cons_merge_cons]
  simp [leC]
def GoodK (x : Chg) : Prop := IsB x.key ∧ x.key.length = 32
theorem sorted_at {l : List Chg} (h : Sorted l) {i j : Nat} (hij : i < j) (hj : j < l.length) : numK (l.getD i default).key ≤ numK (l.getD j default).key := by
  have := List.pairwise_iff_getElem.1 h i j (by omega) hj hij
  simpa [List.getD, List.getElem?_eq_getElem hj, List.getElem?_eq_getElem (show i < l.length by omega), ordC] using this
/-- Is a key at the places i - 1 and i, for an i below n? -/
def adjS (l : List Chg) : Nat → Bool
  | 0 => false
  | n + 1 => adjS l n || (decide (0 < n) && decide ((l.getD n default).key = (l.getD (n - 1) default).key))
theorem adjS_at {l : List Chg} {n i : Nat} (h : i < n) (h0 : 0 < i) (he : (l.getD i default).key = (l.getD (i - 1) default).key) : adjS l n = true := by
  induction n with
  | zero => omega
  | succ n ih =>
    rw [adjS]
    by_cases e : i = n
    · subst e; rw [decide_eq_true h0, decide_eq_true he]; simp
    · rw [ih (by omega), Bool.true_or]
theorem adjS_of {l : List Chg} {n : Nat} (h : adjS l n = true) : ∃ i, 0 < i ∧ i < n ∧ (l.getD i default).key = (l.getD (i - 1) default).key := by
  induction n with
  | zero => simp [adjS] at h
  | succ n ih =>
    rw [adjS, Bool.or_eq_true, Bool.and_eq_true] at h
    rcases h with h | ⟨h1, h2⟩
    · obtain ⟨i, a, b, c⟩ := ih h
      exact ⟨i, a, by omega, c⟩
    · exact ⟨n, of_decide_eq_true h1, by omega, of_decide_eq_true h2⟩
def keysOf (l : List Chg) : List (List Nat) := l.map (·.key)
theorem nodup_rep {X : Nat → Chg} {n : Nat} : 0 ≤ repN X n ↔ ¬ (keysOf (lst X n)).Nodup := by
  induction n with
  | zero => simp [repN, lst, keysOf]
  | succ n ih =>
    have hk : ∀ m, hasKey X (X n).key m = true ↔ ∃ i, i < m ∧ (X n).key = (X i).key := fun m => by
      induction m with
      | zero => simp [hasKey]
      | succ m ihm =>
        rw [hasKey, Bool.or_eq_true, ihm]
        constructor
        · rintro (⟨i, h1, h2⟩ | h)
          · exact ⟨i, by omega, h2⟩
          · exact ⟨m, by omega, of_decide_eq_true h⟩
        · rintro ⟨i, h1, h2⟩
          by_cases e : i = m
          · subst e; exact .inr (decide_eq_true h2)
          · exact .inl ⟨i, by omega, h2⟩
    have hs : keysOf (lst X (n + 1)) = keysOf (lst X n) ++ [(X n).key] := by simp [keysOf, lst_succ]
    have hm : (X n).key ∈ keysOf (lst X n) ↔ hasKey X (X n).key n = true := by
      rw [hk]
      simp [keysOf, lst, eq_comm]
    rw [hs, List.nodup_append, repN]
    by_cases h1 : 0 ≤ repN X n
    · rw [if_pos h1]
      exact ⟨fun _ h => (ih.1 h1) h.1, fun _ => h1⟩
    · rw [if_neg h1]
      have h2 : (keysOf (lst X n)).Nodup := Classical.byContradiction fun h => h1 (ih.2 h)
      by_cases h3 : hasKey X (X n).key n = true
      · rw [if_pos h3]
        refine ⟨fun _ h => h.2.2 _ (hm.2 h3) _ (by simp) rfl, fun _ => by omega⟩
      · rw [if_neg h3]
        refine ⟨fun h => absurd h (by decide), fun h => absurd ⟨h2, by simp, fun a ha b hb => ?_⟩ h⟩
        simp at hb
        subst hb
        exact fun e => h3 (hm.1 (e ▸ ha))
theorem nodup_perm {a b : List Chg} (h : a.Perm b) : (keysOf a).Nodup ↔ (keysOf b).Nodup := (h.map _).nodup_iff
theorem adjS_keys {l : List Chg} (h : Sorted l) (hg : ∀ x, x ∈ l → GoodK x) : adjS l l.length = true ↔ ¬ (keysOf l).Nodup := by
  have hmem : ∀ i, i < l.length → l.getD i default ∈ l := fun i hi => by
    rw [List.getD, List.getElem?_eq_getElem hi]
    exact List.getElem_mem hi
  have hkey : ∀ i (hi : i < l.length), (keysOf l)[i]'(by simpa [keysOf] using hi) = (l.getD i default).key := fun i hi => by
    simp [keysOf, List.getD, List.getElem?_eq_getElem hi]
  constructor
  · intro ha hn
    obtain ⟨i, h0, hi, he⟩ := adjS_of ha
    have := List.pairwise_iff_getElem.1 hn (i - 1) i (by simp [keysOf]; omega) (by simpa [keysOf] using hi) (by omega)
    rw [hkey _ (by omega), hkey _ hi] at this
    exact this he.symm
  · intro hn
    cases hc : adjS l l.length with
    | true => rfl
    | false =>
      exfalso
      apply hn
      refine List.pairwise_iff_getElem.2 fun i j hi hj hij e => ?_
      have hi' : i < l.length := by simpa [keysOf] using hi
      have hj' : j < l.length := by simpa [keysOf] using hj
      rw [hkey _ hi', hkey _ hj'] at e
      have h1 : numK (l.getD (j - 1) default).key ≤ numK (l.getD j default).key := sorted_at h (by omega) hj'
      have h2 : numK (l.getD i default).key ≤ numK (l.getD (j - 1) default).key := by
        by_cases e2 : i = j - 1
        · rw [← e2]; exact Nat.le_refl _
        · exact sorted_at h (by omega) (by omega)
      have g1 := hg _ (hmem _ hj')
      have g2 := hg _ (hmem (j - 1) (by omega))
      have e3 : (l.getD j default).key = (l.getD (j - 1) default).key := numK_inj g1.1 g2.1 g1.2 g2.2 (by rw [e] at h2; omega)
      rw [adjS_at hj' (by omega) e3] at hc
      cases hc
/-- Two lists in order with the same content and no key twice are one. -/
theorem sorted_unique : ∀ {a b : List Chg}, a.Perm b → Sorted a → Sorted b → (∀ x, x ∈ a → GoodK x) → (keysOf a).Nodup → a = b
  | [], b, hp, _, _, _, _ => by rw [List.nil_perm.1 hp]
  | x :: a, b, hp, ha, hb, hg, hn => by
    cases b with
    | nil => exact absurd hp.length_eq (by simp)
    | cons y b =>
      have hxy : x = y := by
        have hx : x ∈ y :: b := hp.subset List.mem_cons_self
        have hy : y ∈ x :: a := hp.symm.subset List.mem_cons_self
        rcases List.mem_cons.1 hx with h | h
        · exact h
        · rcases List.mem_cons.1 hy with h' | h'
          · exact h'.symm
          · have h1 := (List.pairwise_cons.1 hb).1 x h
            have h2 := (List.pairwise_cons.1 ha).1 y h'
            have g1 := hg x List.mem_cons_self
            have g2 := hg y (List.mem_cons_of_mem _ h')
            have e := numK_inj g1.1 g2.1 g1.2 g2.2 (by unfold ordC at h1 h2; omega)
            have h3 := (List.pairwise_cons.1 hn).1 y.key (List.mem_map_of_mem (f := (·.key)) h')
            exact absurd e h3
      subst hxy
      have := sorted_unique (List.perm_cons _ |>.1 hp) (List.pairwise_cons.1 ha).2 (List.pairwise_cons.1 hb).2 (fun z hz => hg z (List.mem_cons_of_mem _ hz)) (List.pairwise_cons.1 hn).2
      rw [this]
end Go.Proofs.Ytkpbeibcfaenhaa
