/- Lists of changes that a call has made. -/
import Derived.Test.YtkpbeibcfaenhaaCopyB
import Derived.Test.YtkpbeibcfaenhaaSameB
import Derived.Test.YtkpbeibcfaenhaaAppRB
import Derived.Test.YtkpbeibcfaenhaaKeys
import Derived.Laws.OwnMore
import Derived.Deep.RegionHeld3
namespace Go.Proofs.Ytkpbeibcfaenhaa
open Go.RowKit
theorem RB.grownBy {w w' : World} {A : Option Addr} {n : Nat} {xs : List Nat} {row : Option Nat} (h : RB w A n xs) (hg : w.grownBy w' row) (hA : 0 < n → ∀ ad, A = some ad → some ad.block ≠ row) : RB w' A n xs := by
  refine ⟨h.1, h.2.1, fun hn => ?_⟩
  obtain ⟨ad, e, hb, hc⟩ := h.2.2 hn
  refine ⟨ad, e, Nat.lt_of_lt_of_le hb hg.size, fun j x hj => ?_⟩
  rw [World.cell?_of_block (w := w) (a := ad.add j) (by rw [block_add]; exact hg.block _ hb (hA hn ad e))]
  exact hc j x hj
section
variable {w w' : World} {b O : Nat} {x : Chg} {A : Option Addr} {C : Nat}
theorem chC_length (h : x.key.length = 32) : (chC x A C).length = 34 := by simp [chC, bvs, h]
theorem ch_key (h : w.rangeAt b O (chC x A C)) : w.rangeAt b O (bvs x.key) := fun j v hj => h j v (by
  unfold chC
  rw [List.getElem?_append_left (List.getElem?_eq_some_iff.1 hj).1]
  exact hj)
theorem ch_del (h : w.rangeAt b O (chC x A C)) (hl : x.key.length = 32) : w.cell? ⟨b, O + 32, none⟩ = some (.bool x.del) := h 32 _ (by
  unfold chC
  rw [List.getElem?_append_right (by simp [bvs, hl])]
  simp [bvs, hl])
theorem ch_val (h : w.rangeAt b O (chC x A C)) (hl : x.key.length = 32) : w.cell? ⟨b, O + 33, none⟩ = some (.slice A x.val.length C) := h 33 _ (by
  unfold chC
  rw [List.getElem?_append_right (by simp [bvs, hl])]
  simp [bvs, hl])
theorem chC_one : ∀ v ∈ chC x A C, v.oneCell' = true := fun v hv => by
  simp only [chC, bvs, List.mem_append, List.mem_map, List.mem_cons, List.not_mem_nil, or_false] at hv
  rcases hv with ⟨y, _, rfl⟩ | rfl | rfl <;> rfl
end
/-- The cells of the first n changes. -/
def flat (X : Nat → Chg) (Ad : Nat → Option Addr) (Cp : Nat → Nat) : Nat → List Value
  | 0 => []
  | n + 1 => flat X Ad Cp n ++ chC (X n) (Ad n) (Cp n)
def upd {α : Type} (f : Nat → α) (i : Nat) (x : α) : Nat → α := fun j => if j = i then x else f j
theorem upd_same {α : Type} (f : Nat → α) (i : Nat) (x : α) : upd f i x i = x := if_pos rfl
theorem upd_other {α : Type} (f : Nat → α) {i j : Nat} (x : α) (h : j ≠ i) : upd f i x j = f j := if_neg h
section
variable {X : Nat → Chg} {Ad : Nat → Option Addr} {Cp : Nat → Nat}
theorem flat_length {n : Nat} (h : ∀ i, i < n → (X i).key.length = 32) : (flat X Ad Cp n).length = n * 34 := by
  induction n with
  | zero => rfl
  | succ n ih => rw [flat, List.length_append, ih (fun i hi => h i (by omega)), chC_length (h n (by omega))]; omega
theorem flat_at {n i j : Nat} (h : ∀ i, i < n → (X i).key.length = 32) (hi : i < n) (hj : j < 34) : (flat X Ad Cp n)[i * 34 + j]? = (chC (X i) (Ad i) (Cp i))[j]? := by
  induction n with
  | zero => omega
  | succ n ih =>
    have hl := flat_length (Ad := Ad) (Cp := Cp) (n := n) (fun i hi => h i (by omega))
    rw [flat]
    by_cases e : i = n
    · subst e
      rw [List.getElem?_append_right (by omega), hl, Nat.add_sub_cancel_left]
    · rw [List.getElem?_append_left (by omega)]
      exact ih (fun i hi => h i (by omega)) (by omega)
theorem flat_congr {X' : Nat → Chg} {Ad' : Nat → Option Addr} {Cp' : Nat → Nat} {n : Nat} (h : ∀ i, i < n → X i = X' i ∧ Ad i = Ad' i ∧ Cp i = Cp' i) : flat X Ad Cp n = flat X' Ad' Cp' n := by
  induction n with
  | zero => rfl
  | succ n ih =>
    obtain ⟨h1, h2, h3⟩ := h n (by omega)
    rw [flat, flat, ih (fun i hi => h i (by omega)), h1, h2, h3]
theorem flat_upd {n : Nat} (x : Chg) (A : Option Addr) (C : Nat) : flat X Ad Cp n ++ chC x A C = flat (upd X n x) (upd Ad n A) (upd Cp n C) (n + 1) := by
  rw [flat, upd_same, upd_same, upd_same, flat_congr (X' := upd X n x) (Ad' := upd Ad n A) (Cp' := upd Cp n C) fun i hi => ⟨(upd_other _ _ (by omega)).symm, (upd_other _ _ (by omega)).symm, (upd_other _ _ (by omega)).symm⟩]
end
/-- A list of changes that is the call's own; the values lie elsewhere. -/
structure ChsOwn (w : World) (base : Nat) (v : Value) (n : Nat) (X : Nat → Chg) (Ad : Nat → Option Addr) (Cp : Nat → Nat) : Prop where
  own : w.ownsRow base 45 34 v n (flat X Ad Cp n)
  key : ∀ i, i < n → IsB (X i).key ∧ (X i).key.length = 32
  val : ∀ i, i < n → RB w (Ad i) (X i).val.length (X i).val ∧ (X i).val.length ≤ Cp i ∧ Cp i ≤ maxLen ∧ (Ad i = none → Cp i = 0)
  apart : ∀ i, i < n → 0 < (X i).val.length → ∀ ad, Ad i = some ad → some ad.block ≠ v.ownBlock
section
variable {w w' : World} {base : Nat} {v v' : Value} {n : Nat} {X : Nat → Chg} {Ad : Nat → Option Addr} {Cp : Nat → Nat}
theorem ChsOwn.nil (w : World) (base : Nat) (X : Nat → Chg) (Ad : Nat → Option Addr) (Cp : Nat → Nat) : ChsOwn w base (.slice none 0 0) 0 X Ad Cp :=
  { own := World.ownsRow_nil w base 45 34, key := fun i hi => by omega, val := fun i hi => by omega, apart := fun i hi => by omega }
theorem ChsOwn.kept (h : ChsOwn w base v n X Ad Cp) {row : Option Nat} (hg : w.grownBy w' row) (hv : v.ownBlock = none ∨ v.ownBlock ≠ row) (ha : ∀ i, i < n → 0 < (X i).val.length → ∀ ad, Ad i = some ad → some ad.block ≠ row) : ChsOwn w' base v n X Ad Cp :=
  { h with
    own := h.own.kept hg hv
    val := fun i hi => ⟨(h.val i hi).1.grownBy hg (fun h0 ad e => ha i hi h0 ad e), (h.val i hi).2⟩ }
theorem ChsOwn.later (h : ChsOwn w base v n X Ad Cp) (hb : Below w.heap.size w w') : ChsOwn w' base v n X Ad Cp :=
  { h with
    own := h.own.kept (grown_of_below hb none) (by cases v.ownBlock <;> simp)
    val := fun i hi => ⟨(h.val i hi).1.below hb, (h.val i hi).2⟩ }
theorem ChsOwn.ge (h : ChsOwn w base v n X Ad Cp) : ∀ k, v.ownBlock = some k → base ≤ k := fun k hk => (h.own.lt k hk).1
/-- One more change is appended. -/
theorem ChsOwn.more (h : ChsOwn w base v n X Ad Cp) {x : Chg} {A : Option Addr} {C : Nat} (hk : IsB x.key ∧ x.key.length = 32) (hv : RB w A x.val.length x.val ∧ x.val.length ≤ C ∧ C ≤ maxLen ∧ (A = none → C = 0)) (ha : 0 < x.val.length → ∀ ad, A = some ad → some ad.block ≠ v.ownBlock)
    (ho : w'.ownsRow base 45 34 v' (n + 1) (flat X Ad Cp n ++ chC x A C)) (hg : w.grownBy w' v.ownBlock) (hl : Lies w v v') : ChsOwn w' base v' (n + 1) (upd X n x) (upd Ad n A) (upd Cp n C) := by
  have far : ∀ (A : Option Addr) (xs : List Nat), RB w A xs.length xs → 0 < xs.length → (∀ ad, A = some ad → some ad.block ≠ v.ownBlock) → ∀ ad, A = some ad → some ad.block ≠ v'.ownBlock := fun A xs hr h0 hne ad e he => by
    rcases hl _ he.symm with h1 | h1
    · exact hne ad e h1.symm
    · obtain ⟨ad', e', hb, _⟩ := hr.2.2 h0
      rw [e] at e'
      injection e' with e'
      rw [e'] at h1
      omega
  refine ⟨by rw [← flat_upd]; exact ho, fun i hi => ?_, fun i hi => ?_, fun i hi => ?_⟩
  · by_cases e : i = n
    · subst e; rw [upd_same]; exact hk
    · rw [upd_other _ _ e]; exact h.key i (by omega)
  · by_cases e : i = n
    · subst e; rw [upd_same, upd_same, upd_same]; exact ⟨hv.1.grownBy hg ha, hv.2⟩
    · rw [upd_other _ _ e, upd_other _ _ e, upd_other _ _ e]; exact ⟨(h.val i (by omega)).1.grownBy hg (h.apart i (by omega)), (h.val i (by omega)).2⟩
  · by_cases e : i = n
    · subst e; rw [upd_same, upd_same]; exact fun h0 ad e => far A x.val hv.1 h0 (ha h0) ad e
    · rw [upd_other _ _ e, upd_other _ _ e]; exact fun h0 ad e => far _ _ (h.val i (by omega)).1 h0 (h.apart i (by omega) h0) ad e
/-- What a caller may read. -/
theorem ChsOwn.form (h : ChsOwn w base v n X Ad Cp) : ∃ A C, v = .slice A n C ∧ ChsAt w A n X ∧ n ≤ C ∧ (A = none → C = 0) ∧ n ≤ maxLen ∧ ∀ ad, A = some ad → ∃ g, ad = ⟨g, 0, none⟩ ∧ base ≤ g := by
  rcases h.own.2 with ⟨e1, h0⟩ | ⟨g, cap, cur, e1, hb, hc, hnc, hcm, hr⟩
  · subst h0
    exact ⟨none, 0, e1, ⟨Nat.zero_le _, fun k hk => by omega⟩, Nat.le_refl _, fun _ => rfl, Nat.zero_le _, (fun ad e => by cases e)⟩
  · have hn : n ≤ maxLen := by omega
    have ho := h.own
    rw [e1] at ho
    refine ⟨_, cap, e1, ⟨hn, fun k hk => ⟨g, 0, Ad k, Cp k, rfl, (h.own.lt g (by rw [e1]; rfl)).2, fun j u hj => ?_, (h.key k hk).1, (h.key k hk).2, (h.val k hk).1, (h.val k hk).2⟩⟩, hnc, (fun h => by cases h), hn, fun ad e => ⟨g, by injection e with e; exact e.symm, hb⟩⟩
    have hj34 : j < 34 := by
      have := (List.getElem?_eq_some_iff.1 hj).1
      rwa [chC_length (h.key k hk).2] at this
    have hlt : k * 34 + j < n * 34 := by omega
    rw [Nat.zero_add, World.ownsRow.cellAt ho _ hlt, flat_at (fun i hi => (h.key i hi).2) hk hj34]
    exact hj
end
section
variable {P : Program}
/-- 'l = append(l, c)' of one change: it lies in a new block of its own first. -/
theorem append1C_run {t e : TypeId} {z : Value} {by_ : Nat} (ht : P.underlying t = some (.slice e)) (hinfo : (P.info? e).map (fun i => (i.zero, i.size, i.bytes)) = some (some z, 34, by_)) (hzs : z.cells.size = 34)
    {o : Oper} {a : Act} (w : World) (s x : Operand) (ho : o.op = .call { callee := .builtin .append, args := #[s, x], argTypes := #[t, t] })
    (base : Nat) (v : Value) (n : Nat) (xs : List Value) (hown : w.ownsRow base e 34 v n xs) (cs : List Value) (hcl : cs.length = 34) (hone : ∀ u ∈ cs, u.oneCell' = true) (hs : a.eval s = v) (hx : a.eval x = .slice (some ⟨w.heap.size, 0, none⟩) 1 1)
    (hlen : (n + 1) * by_ ≤ 140737488355328) (hm : n + 1 ≤ 140737488355328) (hbase : base ≤ w.heap.size) :
    ∃ v' w', (execOp a.eval o).run P (w.alloc (.cells cs.toArray e)) = .ok (.value v') w' ∧ w'.ownsRow base e 34 v' (n + 1) (xs ++ cs) ∧ w.grownBy w' v.ownBlock ∧ Lies w v v' := by
  obtain ⟨i, hi, hz, hs1, hby⟩ := info_parts hinfo
  obtain ⟨v', w', hr, h1, h2, _, h4⟩ := run_append_own_at (P := P) (w.alloc (.cells cs.toArray e)) base t o.type e i z 34 by_ ht hi hz hs1 hby hzs (by decide) v n xs (hown.alloc _)
    ⟨w.heap.size, 0, none⟩ 1 1 cs (by omega) (fun j u hj => by
      rw [add_lit, cell_of_row _ _ _ _ _ _ (heap_alloc_new w _), Nat.zero_add, List.getElem?_toArray]
      exact hj) hone (by unfold maxLen; omega) hlen (by simp; omega)
  refine ⟨v', w', ?_, h1, grown_trans (World.grownBy_alloc _ _ _) h2, ?_⟩
  · unfold execOp
    simp only [ho, resolve, invoke, builtin, Sem.run_bind, Sem.run_pure, Result.andThen_ok, List.map_toArray, List.map_cons, List.map_nil, hs, hx, hr]
  · intro k hk
    rcases h4 with h4 | h4
    · rw [h4] at hk
      exact .inl hk
    · rw [h4] at hk
      injection hk with hk
      simp at hk
      exact .inr (by omega)
theorem wpOp_append1C {t e : TypeId} {z : Value} {by_ : Nat} (ht : P.underlying t = some (.slice e)) (hinfo : (P.info? e).map (fun i => (i.zero, i.size, i.bytes)) = some (some z, 34, by_)) (hzs : z.cells.size = 34)
    {ops : Array Oper} {Q : Exit → Act → World → Prop} {K : Act → World → Prop} {o : Oper} {a : Act} (hw : Region.wanted o (yielded ops a.tmps) = true) (w : World) (s x : Operand) (ho : o.op = .call { callee := .builtin .append, args := #[s, x], argTypes := #[t, t] })
    (base : Nat) (v : Value) (n : Nat) (xs : List Value) (hown : w.ownsRow base e 34 v n xs) (cs : List Value) (hcl : cs.length = 34) (hone : ∀ u ∈ cs, u.oneCell' = true) (hs : a.eval s = v) (hx : a.eval x = .slice (some ⟨w.heap.size, 0, none⟩) 1 1)
    (hlen : (n + 1) * by_ ≤ 140737488355328) (hm : n + 1 ≤ 140737488355328) (hbase : base ≤ w.heap.size)
    (h : ∀ v' w', w'.ownsRow base e 34 v' (n + 1) (xs ++ cs) → w.grownBy w' v.ownBlock → Lies w v v' → K (a.put o.dst v') w') :
    if Region.wanted o (yielded ops a.tmps) = true then o.wp P a (w.alloc (.cells cs.toArray e)) K Q else K (a.put o.dst undef) (w.alloc (.cells cs.toArray e)) := by
  obtain ⟨v', w', hr, h1, h2, h3⟩ := append1C_run ht hinfo hzs w s x ho base v n xs hown cs hcl hone hs hx hlen hm hbase
  rw [if_pos hw]
  unfold Oper.wp
  rw [hr]
  exact h v' w' h1 h2 h3
theorem append1C {t e : TypeId} {z : Value} {by_ : Nat} (ht : P.underlying t = some (.slice e)) (hinfo : (P.info? e).map (fun i => (i.zero, i.size, i.bytes)) = some (some z, 34, by_)) (hzs : z.cells.size = 34)
    {ops : Array Oper} {rest : List Oper} {o : Oper} {a : Act} {Q : Exit → Act → World → Prop} (w : World) (hgd : o.guard = none) (s x : Operand) (ho : o.op = .call { callee := .builtin .append, args := #[s, x], argTypes := #[t, t] })
    (base : Nat) (v : Value) (n : Nat) (xs : List Value) (hown : w.ownsRow base e 34 v n xs) (cs : List Value) (hcl : cs.length = 34) (hone : ∀ u ∈ cs, u.oneCell' = true) (hs : a.eval s = v) (hx : a.eval x = .slice (some ⟨w.heap.size, 0, none⟩) 1 1)
    (hlen : (n + 1) * by_ ≤ 140737488355328) (hm : n + 1 ≤ 140737488355328) (hbase : base ≤ w.heap.size)
    (h : ∀ v' w', w'.ownsRow base e 34 v' (n + 1) (xs ++ cs) → w.grownBy w' v.ownBlock → Lies w v v' → wpList P ops Q rest (a.put o.dst v') w') :
    wpList P ops Q (o :: rest) a (w.alloc (.cells cs.toArray e)) := by
  obtain ⟨v', w', hr, h1, h2, h3⟩ := append1C_run (o := o) ht hinfo hzs w s x ho base v n xs hown cs hcl hone hs hx hlen hm hbase
  refine wpList_plain hgd fun K hK => ?_
  unfold Oper.wp
  rw [hr]
  exact hK _ _ (h v' w' h1 h2 h3)
end
end Go.Proofs.Ytkpbeibcfaenhaa
