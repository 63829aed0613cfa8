/- Maps as lists of entries, changes one by one: in plain Lean. -/
import Derived.Test.YtkpbeibcfaenhaaEnt
namespace Go.Proofs.Ytkpbeibcfaenhaa
open Go.RowKit
/-- The last place at which the key stands; -1: there is none. -/
def atN (F : Nat → Chg) (k : List Nat) : Nat → Int
  | 0 => -1
  | j + 1 => if (F j).key = k then j else atN F k j
theorem atN_spec {F : Nat → Chg} {k : List Nat} {n : Nat} : (atN F k n = -1 ∧ ∀ j, j < n → (F j).key ≠ k) ∨ ∃ i : Nat, atN F k n = i ∧ i < n ∧ (F i).key = k := by
  induction n with
  | zero => exact .inl ⟨rfl, fun j hj => by omega⟩
  | succ n ih =>
    rw [atN]
    by_cases h : (F n).key = k
    · rw [if_pos h]
      exact .inr ⟨n, rfl, by omega, h⟩
    · rw [if_neg h]
      rcases ih with ⟨h1, h2⟩ | ⟨i, h1, h2, h3⟩
      · refine .inl ⟨h1, fun j hj => ?_⟩
        by_cases e : j = n
        · rw [e]; exact h
        · exact h2 j (by omega)
      · exact .inr ⟨i, h1, by omega, h3⟩
def entC (c : Chg) : Chg := ⟨c.key, false, c.val⟩
def stepL (l : List Chg) (c : Chg) : List Chg :=
  if c.del then (if atN (fnOf l) c.key l.length < 0 then l else l.eraseIdx (atN (fnOf l) c.key l.length).toNat)
  else if atN (fnOf l) c.key l.length < 0 then l ++ [entC c] else l.set (atN (fnOf l) c.key l.length).toNat (entC c)
def afterL (l : List Chg) (cs : List Chg) : List Chg := cs.foldl stepL l
theorem afterL_next (l : List Chg) (X : Nat → Chg) (i : Nat) : afterL l (lst X (i + 1)) = stepL (afterL l (lst X i)) (X i) := by
  unfold afterL
  rw [lst_succ, List.foldl_append]
  rfl
theorem stepL_length (l : List Chg) (c : Chg) : (stepL l c).length ≤ l.length + 1 := by
  unfold stepL
  split
  · split
    · omega
    · have := List.length_eraseIdx_le l (atN (fnOf l) c.key l.length).toNat
      omega
  · split
    · simp
    · simp
theorem afterL_length (l : List Chg) (X : Nat → Chg) (i : Nat) : (afterL l (lst X i)).length ≤ l.length + i := by
  induction i with
  | zero => simp [afterL, lst]
  | succ i ih =>
    rw [afterL_next]
    have := stepL_length (afterL l (lst X i)) (X i)
    omega
def NodK (l : List Chg) : Prop := (keysOf l).Nodup
def Has (l : List Chg) (k v : List Nat) : Prop := ∃ x, x ∈ l ∧ x.key = k ∧ x.val = v
theorem Has.key {l : List Chg} {k v : List Nat} (h : Has l k v) : k ∈ keysOf l := by
  obtain ⟨x, hx, rfl, _⟩ := h
  exact List.mem_map_of_mem (f := (·.key)) hx
theorem has_app {a b : List Chg} {k v : List Nat} : Has (a ++ b) k v ↔ Has a k v ∨ Has b k v := by
  constructor
  · rintro ⟨x, hx, h⟩
    rcases List.mem_append.1 hx with h1 | h1
    · exact .inl ⟨x, h1, h⟩
    · exact .inr ⟨x, h1, h⟩
  · rintro (⟨x, hx, h⟩ | ⟨x, hx, h⟩)
    · exact ⟨x, List.mem_append.2 (.inl hx), h⟩
    · exact ⟨x, List.mem_append.2 (.inr hx), h⟩
theorem has_cons {x : Chg} {b : List Chg} {k v : List Nat} : Has (x :: b) k v ↔ (x.key = k ∧ x.val = v) ∨ Has b k v := by
  rw [show x :: b = [x] ++ b from rfl, has_app]
  constructor
  · rintro (⟨y, hy, h⟩ | h)
    · rw [List.mem_singleton.1 hy] at h
      exact .inl h
    · exact .inr h
  · rintro (h | h)
    · exact .inl ⟨x, List.mem_singleton.2 rfl, h⟩
    · exact .inr h
/-- Where the key stands, the list in three parts. -/
theorem at_split {l : List Chg} {k : List Nat} (hn : NodK l) {i : Nat} (hi : i < l.length) (hk : (fnOf l i).key = k) : ∃ a x b, l = a ++ x :: b ∧ a.length = i ∧ x.key = k ∧ k ∉ keysOf a ∧ k ∉ keysOf b := by
  refine ⟨l.take i, l[i], l.drop (i + 1), ?_, by rw [List.length_take]; omega, ?_, ?_, ?_⟩
  · rw [← List.drop_eq_getElem_cons hi, List.take_append_drop]
  · rw [← hk]; simp [fnOf, List.getD, List.getElem?_eq_getElem hi]
  all_goals
    have e : l = l.take i ++ l[i] :: l.drop (i + 1) := by rw [← List.drop_eq_getElem_cons hi, List.take_append_drop]
    have hx : l[i].key = k := by rw [← hk]; simp [fnOf, List.getD, List.getElem?_eq_getElem hi]
    unfold NodK keysOf at hn
    rw [e, List.map_append, List.map_cons, List.nodup_append] at hn
  · exact fun hm => hn.2.2 k hm l[i].key List.mem_cons_self hx.symm
  · rw [hx] at hn
    exact (List.nodup_cons.1 hn.2.1).1
theorem none_key {l : List Chg} {k : List Nat} (h : ∀ j, j < l.length → (fnOf l j).key ≠ k) : k ∉ keysOf l := fun hm => by
  obtain ⟨x, hx, e⟩ := List.mem_map.1 hm
  obtain ⟨j, hj, rfl⟩ := List.mem_iff_getElem.1 hx
  exact h j hj (by simpa [fnOf, List.getD, List.getElem?_eq_getElem hj] using e)
theorem keysOf_app (a b : List Chg) : keysOf (a ++ b) = keysOf a ++ keysOf b := List.map_append
/-- What one change does. -/
theorem step_has {l : List Chg} (hn : NodK l) (c : Chg) : NodK (stepL l c) ∧ ∀ k v, Has (stepL l c) k v ↔ (if k = c.key then c.del = false ∧ v = c.val else Has l k v) := by
  unfold stepL
  rcases atN_spec (F := fnOf l) (k := c.key) (n := l.length) with ⟨h1, h2⟩ | ⟨i, h1, h2, h3⟩
  · have hno := none_key h2
    have hh : ∀ v, ¬ Has l c.key v := fun v h => hno h.key
    have hneg : atN (fnOf l) c.key l.length < 0 := by rw [h1]; decide
    rw [if_pos hneg, if_pos hneg]
    by_cases hd : c.del = true
    · rw [if_pos hd]
      refine ⟨hn, fun k v => ?_⟩
      split
      · rename_i e
        subst e
        exact ⟨fun h => absurd h (hh v), fun h => by rw [hd] at h; exact absurd h.1 (by decide)⟩
      · exact Iff.rfl
    · rw [if_neg hd]
      refine ⟨?_, fun k v => ?_⟩
      · unfold NodK
        rw [keysOf_app, List.nodup_append]
        refine ⟨hn, by simp [keysOf], fun a ha b hb => ?_⟩
        simp [keysOf, entC] at hb
        subst hb
        exact fun e => hno (e ▸ ha)
      · rw [has_app, has_cons]
        split
        · rename_i e
          subst e
          constructor
          · rintro (h | ⟨_, h⟩ | ⟨x, hx, _⟩)
            · exact absurd h (hh v)
            · exact ⟨by simpa using hd, h.symm⟩
            · cases hx
          · rintro ⟨_, h⟩
            exact .inr (.inl ⟨rfl, h.symm⟩)
        · rename_i e
          constructor
          · rintro (h | ⟨h, _⟩ | ⟨x, hx, _⟩)
            · exact h
            · exact absurd h.symm e
            · cases hx
          · exact .inl
  · obtain ⟨a, x, b, rfl, ha, hx, hka, hkb⟩ := at_split hn h2 h3
    have hp : ¬ atN (fnOf (a ++ x :: b)) c.key (a ++ x :: b).length < 0 := by rw [h1]; omega
    have hti : (atN (fnOf (a ++ x :: b)) c.key (a ++ x :: b).length).toNat = i := by rw [h1]; rfl
    have hha : ∀ v, ¬ Has a c.key v := fun v h => hka h.key
    have hhb : ∀ v, ¬ Has b c.key v := fun v h => hkb h.key
    rw [if_neg hp, if_neg hp, hti]
    by_cases hd : c.del = true
    · have he : (a ++ x :: b).eraseIdx i = a ++ b := by
        rw [List.eraseIdx_append_of_length_le (by omega), ha, Nat.sub_self]
        rfl
      rw [if_pos hd, he]
      refine ⟨?_, fun k v => ?_⟩
      · unfold NodK at hn ⊢
        rw [keysOf_app] at hn ⊢
        exact hn.sublist (List.Sublist.append (List.Sublist.refl _) (List.sublist_cons_self _ _))
      · rw [has_app, has_app, has_cons]
        split
        · rename_i e
          subst e
          exact ⟨fun h => by rcases h with h | h; exact absurd h (hha v); exact absurd h (hhb v), fun h => by rw [hd] at h; exact absurd h.1 (by decide)⟩
        · rename_i e
          constructor
          · rintro (h | h)
            · exact .inl h
            · exact .inr (.inr h)
          · rintro (h | ⟨h, _⟩ | h)
            · exact .inl h
            · exact absurd (h.symm.trans hx) e
            · exact .inr h
    · have he : (a ++ x :: b).set i (entC c) = a ++ entC c :: b := by
        rw [List.set_append_right _ _ (by omega), ha, Nat.sub_self]
        rfl
      rw [if_neg hd, he]
      refine ⟨?_, fun k v => ?_⟩
      · unfold NodK at hn ⊢
        rw [keysOf_app] at hn ⊢
        have e1 : keysOf (entC c :: b) = keysOf (x :: b) := by simp [keysOf, entC, hx]
        rwa [e1]
      · rw [has_app, has_app, has_cons, has_cons]
        split
        · rename_i e
          subst e
          constructor
          · rintro (h | ⟨_, h⟩ | h)
            · exact absurd h (hha v)
            · exact ⟨by simpa using hd, h.symm⟩
            · exact absurd h (hhb v)
          · rintro ⟨_, h⟩
            exact .inr (.inl ⟨rfl, h.symm⟩)
        · rename_i e
          constructor
          · rintro (h | ⟨h, _⟩ | h)
            · exact .inl h
            · exact absurd h.symm e
            · exact .inr (.inr h)
          · rintro (h | ⟨h, _⟩ | h)
            · exact .inl h
            · exact absurd (h.symm.trans hx) e
            · exact .inr (.inr h)
theorem after_nod : ∀ (cs l : List Chg), NodK l → NodK (afterL l cs)
  | [], _, h => h
  | c :: cs, l, h => after_nod cs (stepL l c) (step_has h c).1
theorem after_out : ∀ (cs l : List Chg) (k v : List Nat), NodK l → k ∉ keysOf cs → (Has (afterL l cs) k v ↔ Has l k v)
  | [], _, _, _, _, _ => Iff.rfl
  | c :: cs, l, k, v, hl, hk => by
    have h1 : k ≠ c.key ∧ k ∉ keysOf cs := by simpa [keysOf] using hk
    show Has (afterL (stepL l c) cs) k v ↔ _
    rw [after_out cs (stepL l c) k v (step_has hl c).1 h1.2, (step_has hl c).2 k v, if_neg h1.1]
theorem after_in : ∀ (cs l : List Chg) (c : Chg) (v : List Nat), NodK l → NodK cs → c ∈ cs → (Has (afterL l cs) c.key v ↔ c.del = false ∧ v = c.val)
  | [], _, _, _, _, _, hc => by cases hc
  | d :: cs, l, c, v, hl, hcs, hc => by
    have h1 := List.nodup_cons.1 hcs
    show Has (afterL (stepL l d) cs) c.key v ↔ _
    rcases List.mem_cons.1 hc with rfl | hc
    · rw [after_out cs (stepL l c) c.key v (step_has hl c).1 h1.1, (step_has hl c).2 c.key v, if_pos rfl]
    · exact after_in cs (stepL l d) c v (step_has hl d).1 h1.2 hc
theorem plainC_del (x : Chg) : (plainC x).del = x.del := by
  unfold plainC
  split
  · rename_i h; exact h.symm
  · rfl
theorem plainC_val {x : Chg} (h : x.del = false) : (plainC x).val = x.val := by
  unfold plainC
  rw [if_neg (by rw [h]; decide)]
theorem eff_plain (c : Chg) (v : List Nat) : ((plainC c).del = false ∧ v = (plainC c).val) ↔ (c.del = false ∧ v = c.val) := by
  rw [plainC_del]
  constructor
  · rintro ⟨h1, h2⟩
    exact ⟨h1, by rw [h2, plainC_val h1]⟩
  · rintro ⟨h1, h2⟩
    exact ⟨h1, by rw [h2, plainC_val h1]⟩
section
variable {X Y : Nat → Chg} {N M : Nat} {m : List Chg}
theorem nrm_keys (k : List Nat) : k ∈ keysOf (nrm X N) ↔ k ∈ keysOf (lst X N) := by
  have h1 : (keysOf (nrm X N)).Perm (keysOf ((lst X N).map plainC)) := (nrm_perm X N).map _
  rw [h1.mem_iff]
  have : keysOf ((lst X N).map plainC) = keysOf (lst X N) := by
    unfold keysOf
    rw [List.map_map]
    exact List.map_congr_left fun x _ => plainC_key x
  rw [this]
theorem nrm_mem {x : Chg} (h : x ∈ lst X N) : plainC x ∈ nrm X N := (nrm_perm X N).mem_iff.2 (List.mem_map_of_mem h)
theorem rep_nod (h : repN X N < 0) : NodK (lst X N) := Classical.byContradiction fun hn => by have := nodup_rep.2 hn; omega
theorem after_norm (hm : NodK m) (hx : repN X N < 0) (k v : List Nat) : Has (afterL m (nrm X N)) k v ↔ Has (afterL m (lst X N)) k v := by
  by_cases hk : k ∈ keysOf (lst X N)
  · obtain ⟨c, hc, rfl⟩ := List.mem_map.1 hk
    have h1 := after_in (nrm X N) m (plainC c) v hm (nrm_nodup hx) (nrm_mem hc)
    rw [plainC_key] at h1
    rw [h1, after_in (lst X N) m c v hm (rep_nod hx) hc, eff_plain]
  · rw [after_out _ m k v hm (fun h => hk ((nrm_keys k).1 h)), after_out _ m k v hm hk]
theorem after_fold (hm : NodK m) (ha : Nice (nrm X N)) (hb : Nice (nrm Y M)) (hx : repN X N < 0) (hy : repN Y M < 0) (k v : List Nat) : Has (afterL m (foldL (nrm X N) (nrm Y M))) k v ↔ Has (afterL (afterL m (lst X N)) (lst Y M)) k v := by
  have hf := ha.fold hb
  have hmm := mem_foldL _ (nrm X N) (nrm Y M) (Nat.le_refl _) ha.ss hb.ss ha.good hb.good
  have hm1 : NodK (afterL m (lst X N)) := after_nod _ _ hm
  by_cases hk : k ∈ keysOf (lst Y M)
  · obtain ⟨c, hc, rfl⟩ := List.mem_map.1 hk
    have h1 := after_in (foldL (nrm X N) (nrm Y M)) m (plainC c) v hm (ss_nodup hf.ss) ((hmm _).2 (.inl (nrm_mem hc)))
    rw [plainC_key] at h1
    rw [h1, after_in (lst Y M) _ c v hm1 (rep_nod hy) hc, eff_plain]
  · have hk2 : k ∉ keysOf (nrm Y M) := fun h => hk ((nrm_keys k).1 h)
    rw [after_out (lst Y M) _ k v hm1 hk]
    by_cases hkx : k ∈ keysOf (lst X N)
    · obtain ⟨c, hc, rfl⟩ := List.mem_map.1 hkx
      have h1 := after_in (foldL (nrm X N) (nrm Y M)) m (plainC c) v hm (ss_nodup hf.ss) ((hmm _).2 (.inr ⟨nrm_mem hc, by rw [plainC_key]; exact hk2⟩))
      rw [plainC_key] at h1
      rw [h1, after_in (lst X N) m c v hm (rep_nod hx) hc, eff_plain]
    · rw [after_out _ m k v hm (fun h => by
        rcases (keys_foldL ha hb k).1 h with h1 | h1
        · exact hkx ((nrm_keys k).1 h1)
        · exact hk2 h1), after_out _ m k v hm hkx]
end
/-- Two maps are one: then they have as many entries, and each stands in the other. -/
theorem same_map {a b : List Chg} (ha : NodK a) (hb : NodK b) (h : ∀ k v, Has a k v ↔ Has b k v) : a.length = b.length ∧ ∀ x, x ∈ a → ∃ y, y ∈ b ∧ x.key = y.key ∧ x.val = y.val := by
  constructor
  · have na : (a.map fun x => (x.key, x.val)).Nodup := by
      unfold NodK keysOf List.Nodup at ha
      rw [List.pairwise_map] at ha
      unfold List.Nodup
      rw [List.pairwise_map]
      exact ha.imp fun h e => h (congrArg Prod.fst e)
    have nb : (b.map fun x => (x.key, x.val)).Nodup := by
      unfold NodK keysOf List.Nodup at hb
      rw [List.pairwise_map] at hb
      unfold List.Nodup
      rw [List.pairwise_map]
      exact hb.imp fun h e => h (congrArg Prod.fst e)
    have hp : (a.map fun x => (x.key, x.val)).Perm (b.map fun x => (x.key, x.val)) := (List.perm_ext_iff_of_nodup na nb).2 fun ⟨k, v⟩ => by
      have h1 : ∀ l : List Chg, (k, v) ∈ l.map (fun x => (x.key, x.val)) ↔ Has l k v := fun l => by
        rw [List.mem_map]
        constructor
        · rintro ⟨x, hx, e⟩
          exact ⟨x, hx, congrArg Prod.fst e, congrArg Prod.snd e⟩
        · rintro ⟨x, hx, e1, e2⟩
          exact ⟨x, hx, by rw [e1, e2]⟩
      rw [h1, h1]
      exact h k v
    simpa using hp.length_eq
  · intro x hx
    obtain ⟨y, hy, e1, e2⟩ := (h x.key x.val).1 ⟨x, hx, rfl, rfl⟩
    exact ⟨y, hy, e1.symm, e2.symm⟩
theorem lst_set {Z : Nat → Chg} {n i : Nat} (x : Chg) : lst (upd Z i x) n = (lst Z n).set i x := by
  apply List.ext_getElem
  · simp [lst]
  · intro j h1 h2
    have hj : j < n := by simpa [lst] using h1
    rw [List.getElem_set]
    by_cases e : i = j
    · subst e
      rw [if_pos rfl]
      simp [lst, upd]
    · rw [if_neg e]
      simp only [lst, List.getElem_map, List.getElem_range]
      exact upd_other _ _ (Ne.symm e)
end Go.Proofs.Ytkpbeibcfaenhaa
