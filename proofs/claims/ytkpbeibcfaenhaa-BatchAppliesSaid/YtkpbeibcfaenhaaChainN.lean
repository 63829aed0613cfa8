/- Folding is associative: in plain Lean. -/
import Derived.Test.YtkpbeibcfaenhaaGj
namespace Go.Proofs.Ytkpbeibcfaenhaa
open Go.RowKit
/-- A list as Fold and Normal tell it. -/
structure Nice (l : List Chg) : Prop where
  ss : SSorted l
  good : AllGood l
  plain : ∀ x, x ∈ l → plainC x = x ∧ long x = false
theorem plainC_twice (x : Chg) : plainC (plainC x) = plainC x := by
  unfold plainC
  by_cases h : x.del = true
  · rw [if_pos h]; rfl
  · rw [if_neg h, if_neg h]
theorem long_plain {x : Chg} (h : long x = false) : long (plainC x) = false := by
  unfold plainC
  split
  · rfl
  · exact h
theorem Nice.short {l : List Chg} (h : Nice l) : ∀ x, x ∈ l → x.val.length ≤ 128 := fun x hx => by
  obtain ⟨h1, h2⟩ := h.plain x hx
  unfold long at h2
  by_cases hd : x.del = true
  · unfold plainC at h1
    rw [if_pos hd] at h1
    have := congrArg (fun y => y.val.length) h1
    simp at this
    omega
  · have : x.del = false := by simpa using hd
    rw [this] at h2
    simpa using h2
theorem nice_nrm {X : Nat → Chg} {N : Nat} (hg : ∀ i, i < N → GoodK (X i)) (h : wrongN X N 4096 = 0) : Nice (nrm X N) :=
  { ss := nrm_ss hg (nrm_wrong h)
    good := nrm_good hg
    plain := fun x hx => by
      obtain ⟨y, hy, rfl⟩ := List.mem_map.1 ((nrm_perm X N).subset hx)
      obtain ⟨i, hi, rfl⟩ := mem_lst.1 hy
      exact ⟨plainC_twice _, long_plain (anyLong_not (heldN_le (wrong_zero h).1).2 hi)⟩ }
theorem ss_sorted {l : List Chg} (h : SSorted l) : Sorted l := h.imp fun h => Nat.le_of_lt h
theorem ss_nodup {l : List Chg} (h : SSorted l) : (keysOf l).Nodup := by
  unfold keysOf List.Nodup
  rw [List.pairwise_map]
  exact h.imp fun h => key_ne h
theorem nice_is {Z : Nat → Chg} {n : Nat} (h : Nice (lst Z n)) : nrm Z n = lst Z n := by
  have h1 : (lst Z n).map plainC = lst Z n := by
    have : (lst Z n).map plainC = (lst Z n).map id := List.map_congr_left fun x hx => (h.plain x hx).1
    rw [this, List.map_id]
  have hp := nrm_perm Z n
  rw [h1] at hp
  exact (sorted_unique hp.symm (ss_sorted h.ss) (nrm_sorted Z n) h.good (ss_nodup h.ss)).symm
theorem anyLong_no {Z : Nat → Chg} {n : Nat} (h : ∀ i, i < n → long (Z i) = false) : anyLong Z n = false := by
  induction n with
  | zero => rfl
  | succ n ih => rw [anyLong, ih (fun i hi => h i (by omega)), h n (by omega)]; rfl
theorem nice_wrong {Z : Nat → Chg} {n : Nat} (h : Nice (lst Z n)) (hn : n ≤ 4096) : wrongN Z n 4096 = 0 := by
  have h1 : heldN Z n 4096 = 0 := by
    unfold heldN
    rw [if_neg (by omega), anyLong_no fun i hi => (h.plain _ (mem_lst.2 ⟨i, hi, rfl⟩)).2]
    rfl
  unfold wrongN
  rw [if_pos h1, if_neg fun h2 => nodup_rep.1 h2 (ss_nodup h.ss)]
theorem mem_foldL : ∀ (n : Nat) (a b : List Chg), a.length + b.length ≤ n → SSorted a → SSorted b → AllGood a → AllGood b → ∀ x, x ∈ foldL a b ↔ x ∈ b ∨ (x ∈ a ∧ x.key ∉ keysOf b) := by
  intro n
  induction n with
  | zero =>
    intro a b hl _ _ _ _ x
    cases a with
    | nil => rw [foldL_left]; simp
    | cons y a => simp at hl
  | succ n ih =>
    intro a b hl ha hb hga hgb x
    cases a with
    | nil => rw [foldL_left]; simp
    | cons y a =>
      cases b with
      | nil => rw [foldL_right]; simp [keysOf]
      | cons z b =>
        have ha1 := List.pairwise_cons.1 ha
        have hb1 := List.pairwise_cons.1 hb
        have ga : AllGood a := fun w hw => hga w (List.mem_cons_of_mem _ hw)
        have gb : AllGood b := fun w hw => hgb w (List.mem_cons_of_mem _ hw)
        simp only [List.length_cons] at hl
        rw [foldL]
        by_cases h1 : numK y.key < numK z.key
        · rw [if_pos h1, List.mem_cons, ih a (z :: b) (by simp only [List.length_cons]; omega) ha1.2 hb ga hgb]
          have hy : y.key ∉ keysOf (z :: b) := fun hm => by
            obtain ⟨q, hq, e⟩ := List.mem_map.1 hm
            have : numK y.key < numK q.key := by
              rcases List.mem_cons.1 hq with h2 | h2
              · rw [h2]; exact h1
              · have := hb1.1 q h2; omega
            rw [e] at this
            omega
          constructor
          · rintro (h | h | ⟨h, h'⟩)
            · subst h; exact .inr ⟨List.mem_cons_self, hy⟩
            · exact .inl h
            · exact .inr ⟨List.mem_cons_of_mem _ h, h'⟩
          · rintro (h | ⟨h, h'⟩)
            · exact .inr (.inl h)
            · rcases List.mem_cons.1 h with h2 | h2
              · exact .inl h2
              · exact .inr (.inr ⟨h2, h'⟩)
        · rw [if_neg h1]
          by_cases h2 : y.key = z.key
          · rw [if_pos h2, List.mem_cons, ih a b (by omega) ha1.2 hb1.2 ga gb]
            constructor
            · rintro (h | h | ⟨h, h'⟩)
              · exact .inl (by rw [h]; exact List.mem_cons_self)
              · exact .inl (List.mem_cons_of_mem _ h)
              · refine .inr ⟨List.mem_cons_of_mem _ h, fun hm => ?_⟩
                rcases List.mem_cons.1 hm with h3 | h3
                · have h4 := ha1.1 x h
                  have h5 : x.key = z.key := h3
                  rw [h5, h2] at h4
                  omega
                · exact h' h3
            · rintro (h | ⟨h, h'⟩)
              · rcases List.mem_cons.1 h with h3 | h3
                · exact .inl h3
                · exact .inr (.inl h3)
              · rcases List.mem_cons.1 h with h3 | h3
                · subst h3; exact absurd (List.mem_cons.2 (.inl h2)) h'
                · exact .inr (.inr ⟨h3, fun hm => h' (List.mem_cons_of_mem _ hm)⟩)
          · rw [if_neg h2, List.mem_cons, ih (y :: a) b (by simp only [List.length_cons]; omega) ha hb1.2 hga gb]
            have g1 := hga y List.mem_cons_self
            have g2 := hgb z List.mem_cons_self
            have h3 : numK z.key < numK y.key := by
              rcases Nat.lt_or_ge (numK z.key) (numK y.key) with h | h
              · exact h
              · exact absurd (numK_inj g1.1 g2.1 g1.2 g2.2 (by omega)) h2
            constructor
            · rintro (h | h | ⟨h, h'⟩)
              · exact .inl (by rw [h]; exact List.mem_cons_self)
              · exact .inl (List.mem_cons_of_mem _ h)
              · refine .inr ⟨h, fun hm => ?_⟩
                rcases List.mem_cons.1 hm with h4 | h4
                · have h6 : x.key = z.key := h4
                  have h5 : numK z.key < numK x.key := by
                    rcases List.mem_cons.1 h with h7 | h7
                    · rw [h7]; exact h3
                    · have := ha1.1 x h7; omega
                  rw [h6] at h5
                  omega
                · exact h' h4
            · rintro (h | ⟨h, h'⟩)
              · rcases List.mem_cons.1 h with h4 | h4
                · exact .inl h4
                · exact .inr (.inl h4)
              · exact .inr (.inr ⟨h, fun hm => h' (List.mem_cons_of_mem _ hm)⟩)
theorem foldL_ss : ∀ (n : Nat) (a b : List Chg), a.length + b.length ≤ n → SSorted a → SSorted b → AllGood a → AllGood b → SSorted (foldL a b) := by
  intro n
  induction n with
  | zero =>
    intro a b hl _ hb _ _
    cases a with
    | nil => rw [foldL_left]; exact hb
    | cons y a => simp at hl
  | succ n ih =>
    intro a b hl ha hb hga hgb
    cases a with
    | nil => rw [foldL_left]; exact hb
    | cons y a =>
      cases b with
      | nil => rw [foldL_right]; exact ha
      | cons z b =>
        have ha1 := List.pairwise_cons.1 ha
        have hb1 := List.pairwise_cons.1 hb
        have ga : AllGood a := fun w hw => hga w (List.mem_cons_of_mem _ hw)
        have gb : AllGood b := fun w hw => hgb w (List.mem_cons_of_mem _ hw)
        simp only [List.length_cons] at hl
        rw [foldL]
        by_cases h1 : numK y.key < numK z.key
        · rw [if_pos h1]
          refine List.pairwise_cons.2 ⟨fun x hx => ?_, ih a (z :: b) (by simp only [List.length_cons]; omega) ha1.2 hb ga hgb⟩
          rcases (mem_foldL _ a (z :: b) (Nat.le_refl _) ha1.2 hb ga hgb x).1 hx with h | h
          · rcases List.mem_cons.1 h with h2 | h2
            · rw [h2]; exact h1
            · have := hb1.1 x h2; omega
          · exact ha1.1 x h.1
        · rw [if_neg h1]
          by_cases h2 : y.key = z.key
          · rw [if_pos h2]
            refine List.pairwise_cons.2 ⟨fun x hx => ?_, ih a b (by omega) ha1.2 hb1.2 ga gb⟩
            rcases (mem_foldL _ a b (Nat.le_refl _) ha1.2 hb1.2 ga gb x).1 hx with h | h
            · exact hb1.1 x h
            · have := ha1.1 x h.1
              rw [← h2]
              exact this
          · rw [if_neg h2]
            have g1 := hga y List.mem_cons_self
            have g2 := hgb z List.mem_cons_self
            have h3 : numK z.key < numK y.key := by
              rcases Nat.lt_or_ge (numK z.key) (numK y.key) with h | h
              · exact h
              · exact absurd (numK_inj g1.1 g2.1 g1.2 g2.2 (by omega)) h2
            refine List.pairwise_cons.2 ⟨fun x hx => ?_, ih (y :: a) b (by simp only [List.length_cons]; omega) ha hb1.2 hga gb⟩
            rcases (mem_foldL _ (y :: a) b (Nat.le_refl _) ha hb1.2 hga gb x).1 hx with h | h
            · exact hb1.1 x h
            · rcases List.mem_cons.1 h.1 with h4 | h4
              · rw [h4]; exact h3
              · have := ha1.1 x h4; omega
theorem Nice.fold {a b : List Chg} (ha : Nice a) (hb : Nice b) : Nice (foldL a b) := by
  have hm := mem_foldL _ a b (Nat.le_refl _) ha.ss hb.ss ha.good hb.good
  refine ⟨foldL_ss _ a b (Nat.le_refl _) ha.ss hb.ss ha.good hb.good, fun x hx => ?_, fun x hx => ?_⟩
  · rcases (hm x).1 hx with h | h
    · exact hb.good x h
    · exact ha.good x h.1
  · rcases (hm x).1 hx with h | h
    · exact hb.plain x h
    · exact ha.plain x h.1
theorem Nice.ext {a b : List Chg} (ha : Nice a) (hb : Nice b) (h : ∀ x, x ∈ a ↔ x ∈ b) : a = b := by
  have n1 : a.Nodup := List.Pairwise.imp (fun h e => by subst e; omega) ha.ss
  have n2 : b.Nodup := List.Pairwise.imp (fun h e => by subst e; omega) hb.ss
  exact sorted_unique ((List.perm_ext_iff_of_nodup n1 n2).2 h) (ss_sorted ha.ss) (ss_sorted hb.ss) ha.good (ss_nodup ha.ss)
theorem keys_foldL {a b : List Chg} (ha : Nice a) (hb : Nice b) (k : List Nat) : k ∈ keysOf (foldL a b) ↔ k ∈ keysOf a ∨ k ∈ keysOf b := by
  have hm := mem_foldL _ a b (Nat.le_refl _) ha.ss hb.ss ha.good hb.good
  constructor
  · intro h
    obtain ⟨x, hx, rfl⟩ := List.mem_map.1 h
    rcases (hm x).1 hx with h1 | h1
    · exact .inr (List.mem_map_of_mem (f := (·.key)) h1)
    · exact .inl (List.mem_map_of_mem (f := (·.key)) h1.1)
  · intro h
    by_cases h2 : k ∈ keysOf b
    · obtain ⟨x, hx, rfl⟩ := List.mem_map.1 h2
      exact List.mem_map_of_mem (f := (·.key)) ((hm x).2 (.inl hx))
    · rcases h with h | h
      · obtain ⟨x, hx, rfl⟩ := List.mem_map.1 h
        exact List.mem_map_of_mem (f := (·.key)) ((hm x).2 (.inr ⟨hx, h2⟩))
      · exact absurd h h2
theorem foldL_assoc {a b c : List Chg} (ha : Nice a) (hb : Nice b) (hc : Nice c) : foldL (foldL a b) c = foldL a (foldL b c) := by
  refine ((ha.fold hb).fold hc).ext (ha.fold (hb.fold hc)) fun x => ?_
  have m1 := mem_foldL _ a b (Nat.le_refl _) ha.ss hb.ss ha.good hb.good
  have m2 := mem_foldL _ b c (Nat.le_refl _) hb.ss hc.ss hb.good hc.good
  have m3 := mem_foldL _ (foldL a b) c (Nat.le_refl _) (ha.fold hb).ss hc.ss (ha.fold hb).good hc.good
  have m4 := mem_foldL _ a (foldL b c) (Nat.le_refl _) ha.ss (hb.fold hc).ss ha.good (hb.fold hc).good
  rw [m3, m4, m1, m2, keys_foldL hb hc]
  constructor
  · rintro (h | ⟨h | ⟨h, h'⟩, h2⟩)
    · exact .inl (.inl h)
    · exact .inl (.inr ⟨h, h2⟩)
    · exact .inr ⟨h, fun e => by rcases e with e | e; exact h' e; exact h2 e⟩
  · rintro ((h | ⟨h, h'⟩) | ⟨h, h'⟩)
    · exact .inl h
    · exact .inr ⟨.inl h, h'⟩
    · exact .inr ⟨.inr ⟨h, fun e => h' (.inl e)⟩, fun e => h' (.inr e)⟩
theorem foldL_self {a : List Chg} (ha : Nice a) : foldL a a = a := by
  refine (ha.fold ha).ext ha fun x => ?_
  rw [mem_foldL _ a a (Nat.le_refl _) ha.ss ha.ss ha.good ha.good]
  exact ⟨fun h => by rcases h with h | h; exact h; exact h.1, .inl⟩
/-- How many unlike keys two lists name. -/
def keysN (a b : List Chg) : Nat := a.length + (b.filter fun y => decide (y.key ∉ keysOf a)).length
theorem keysN_nil (b : List Chg) : keysN [] b = b.length := by
  unfold keysN
  rw [List.filter_eq_self.2 fun y _ => by simp [keysOf]]
  simp
theorem filter_none_of {b : List Chg} {a : List Chg} {x : Chg} (h : ∀ y, y ∈ b → y.key ≠ x.key) : (b.filter fun y => decide (y.key ∉ keysOf (x :: a))) = b.filter fun y => decide (y.key ∉ keysOf a) := by
  apply List.filter_congr
  intro y hy
  have := h y hy
  simp [keysOf, this]
theorem length_foldL : ∀ (n : Nat) (a b : List Chg), a.length + b.length ≤ n → SSorted a → SSorted b → AllGood a → AllGood b → (foldL a b).length = keysN a b := by
  intro n
  induction n with
  | zero =>
    intro a b hl _ _ _ _
    cases a with
    | nil => rw [foldL_left, keysN_nil]
    | cons y a => simp at hl
  | succ n ih =>
    intro a b hl ha hb hga hgb
    cases a with
    | nil => rw [foldL_left, keysN_nil]
    | cons y a =>
      cases b with
      | nil => rw [foldL_right]; simp [keysN]
      | cons z b =>
        have ha1 := List.pairwise_cons.1 ha
        have hb1 := List.pairwise_cons.1 hb
        have ga : AllGood a := fun w hw => hga w (List.mem_cons_of_mem _ hw)
        have gb : AllGood b := fun w hw => hgb w (List.mem_cons_of_mem _ hw)
        simp only [List.length_cons] at hl
        rw [foldL]
        by_cases h1 : numK y.key < numK z.key
        · rw [if_pos h1, List.length_cons, ih a (z :: b) (by simp only [List.length_cons]; omega) ha1.2 hb ga hgb]
          unfold keysN
          rw [filter_none_of (b := z :: b) (a := a) (x := y) (fun q hq => by
            have : numK y.key < numK q.key := by
              rcases List.mem_cons.1 hq with h2 | h2
              · rw [h2]; exact h1
              · have := hb1.1 q h2; omega
            exact fun e => by rw [e] at this; omega), List.length_cons]
          omega
        · rw [if_neg h1]
          by_cases h2 : y.key = z.key
          · rw [if_pos h2, List.length_cons, ih a b (by omega) ha1.2 hb1.2 ga gb]
            unfold keysN
            rw [List.filter_cons, if_neg (by simp [keysOf, h2]), filter_none_of (fun q hq => fun e => by
              have := hb1.1 q hq
              rw [e, h2] at this
              omega), List.length_cons]
            omega
          · rw [if_neg h2, List.length_cons, ih (y :: a) b (by simp only [List.length_cons]; omega) ha hb1.2 hga gb]
            have g1 := hga y List.mem_cons_self
            have g2 := hgb z List.mem_cons_self
            have h3 : numK z.key < numK y.key := by
              rcases Nat.lt_or_ge (numK z.key) (numK y.key) with h | h
              · exact h
              · exact absurd (numK_inj g1.1 g2.1 g1.2 g2.2 (by omega)) h2
            have hz : z.key ∉ keysOf (y :: a) := fun hm => by
              obtain ⟨q, hq, e⟩ := List.mem_map.1 hm
              have : numK z.key < numK q.key := by
                rcases List.mem_cons.1 hq with h4 | h4
                · rw [h4]; exact h3
                · have := ha1.1 q h4; omega
              rw [e] at this
              omega
            unfold keysN
            rw [List.filter_cons, if_pos (by simpa using hz), List.length_cons, List.length_cons]
            omega
theorem foldL_ge : ∀ (n : Nat) (a b : List Chg), a.length + b.length ≤ n → b.length ≤ (foldL a b).length := by
  intro n
  induction n with
  | zero =>
    intro a b hl
    cases a with
    | nil => rw [foldL_left]; exact Nat.le_refl _
    | cons y a => simp at hl
  | succ n ih =>
    intro a b hl
    cases a with
    | nil => rw [foldL_left]; exact Nat.le_refl _
    | cons y a =>
      cases b with
      | nil => simp
      | cons z b =>
        simp only [List.length_cons] at hl
        rw [foldL]
        split
        · have := ih a (z :: b) (by simp only [List.length_cons]; omega)
          simp only [List.length_cons] at this ⊢
          omega
        · split
          · have := ih a b (by omega)
            simp only [List.length_cons]
            omega
          · have := ih (y :: a) b (by simp only [List.length_cons]; omega)
            simp only [List.length_cons]
            omega
/-- The same, as the statements count. -/
def kN (X : Nat → Chg) (N : Nat) (Y : Nat → Chg) : Nat → Nat
  | 0 => N
  | j + 1 => kN X N Y j + if hasKey X (Y j).key N = true then 0 else 1
theorem hasKey_iff {X : Nat → Chg} {k : List Nat} {n : Nat} : hasKey X k n = true ↔ k ∈ keysOf (lst X n) := by
  induction n with
  | zero => simp [hasKey, keysOf, lst]
  | succ n ih =>
    rw [hasKey, Bool.or_eq_true, ih, decide_eq_true_eq, lst_succ]
    simp [keysOf]
theorem kN_keysN (X : Nat → Chg) (N : Nat) (Y : Nat → Chg) (M : Nat) : kN X N Y M = keysN (lst X N) (lst Y M) := by
  induction M with
  | zero => simp [kN, keysN, lst]
  | succ M ih =>
    rw [kN, ih]
    unfold keysN
    rw [lst_succ, List.filter_append, List.length_append]
    by_cases h : hasKey X (Y M).key N = true
    · rw [if_pos h, List.filter_cons, if_neg (by simpa using hasKey_iff.1 h)]
      simp
    · rw [if_neg h, List.filter_cons, if_pos (by simpa using fun hm => h (hasKey_iff.2 hm))]
      simp
      omega
theorem keysN_perm {a a' b b' : List Chg} (h1 : a.Perm a') (h2 : b.Perm b') : keysN a b = keysN a' b' := by
  unfold keysN
  rw [h1.length_eq]
  congr 1
  have : (fun y : Chg => decide (y.key ∉ keysOf a)) = fun y => decide (y.key ∉ keysOf a') := by
    funext y
    have : y.key ∈ keysOf a ↔ y.key ∈ keysOf a' := (h1.map (fun x : Chg => x.key)).mem_iff
    simp only [this]
  rw [this]
  exact (h2.filter _).length_eq
theorem keysN_plain (a b : List Chg) : keysN (a.map plainC) (b.map plainC) = keysN a b := by
  have hk : keysOf (a.map plainC) = keysOf a := by
    unfold keysOf
    rw [List.map_map]
    exact List.map_congr_left fun x _ => plainC_key x
  unfold keysN
  rw [hk, List.length_map, List.filter_map, List.length_map]
  congr 2
  apply List.filter_congr
  intro y _
  simp [plainC_key]
theorem fold_count {X Y : Nat → Chg} {N M : Nat} (hx : Nice (nrm X N)) (hy : Nice (nrm Y M)) : (foldL (nrm X N) (nrm Y M)).length = kN X N Y M := by
  rw [length_foldL _ _ _ (Nat.le_refl _) hx.ss hy.ss hx.good hy.good, keysN_perm (nrm_perm X N) (nrm_perm Y M), keysN_plain, kN_keysN]
end Go.Proofs.Ytkpbeibcfaenhaa
