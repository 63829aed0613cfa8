/- ledgerlaw1.DigestPlays: the row of hashers in memory. -/
import Derived.Test.YtadhjgopekekgaaDoorLawSplits1
import Derived.Test.YtadhjgopekekgaaDoorAppRB
import Derived.Laws.OwnMore
namespace Go.Proofs.YtadhjgopekekgaaDoor
open Go.RowKit
def upd {α : Type} (f : Nat → α) (i : Nat) (x : α) : Nat → α := fun j => if j = i then x else f j
theorem upd_same {α : Type} (f : Nat → α) (i : Nat) (x : α) : upd f i x i = x := if_pos rfl
theorem upd_other {α : Type} (f : Nat → α) {i j : Nat} (x : α) (h : j ≠ i) : upd f i x j = f j := if_neg h
theorem upd_self {α : Type} (f : Nat → α) (i : Nat) : upd f i (f i) = f := by
  funext j
  unfold upd
  split
  · rename_i h; rw [h]
  · rfl
theorem upd_upd {α : Type} (f : Nat → α) (i : Nat) (x y : α) : upd (upd f i x) i y = upd f i y := by
  funext j
  unfold upd
  split <;> rfl
/-- The first n values of f. -/
def vals (f : Nat → Value) (n : Nat) : List Value := (List.range n).map f
theorem vals_length (f : Nat → Value) (n : Nat) : (vals f n).length = n := by simp [vals]
theorem vals_at (f : Nat → Value) {n i : Nat} (h : i < n) : (vals f n)[i]? = some (f i) := by simp [vals, h]
theorem vals_set (f : Nat → Value) (n i : Nat) (x : Value) : (vals f n).set i x = vals (upd f i x) n := by
  apply List.ext_getElem?
  intro j
  by_cases hj : j < n
  · rw [vals_at _ hj, List.getElem?_set, vals_at _ hj, vals_length]
    by_cases h : i = j
    · subst h
      rw [if_pos rfl, if_pos hj, upd_same]
    · rw [if_neg h, upd_other _ _ (fun e => h e.symm)]
  · rw [List.getElem?_eq_none (by rw [List.length_set, vals_length]; omega), List.getElem?_eq_none (by rw [vals_length]; omega)]
theorem vals_snoc (f : Nat → Value) (n : Nat) (x : Value) : vals f n ++ [x] = vals (upd f n x) (n + 1) := by
  have h : vals (upd f n x) n = vals f n := by
    unfold vals
    refine List.map_congr_left fun j hj => upd_other _ _ (by have := List.mem_range.1 hj; omega)
  have h2 : vals (upd f n x) (n + 1) = vals (upd f n x) n ++ [upd f n x n] := by simp [vals, List.range_succ]
  rw [h2, h, upd_same]
def ptr (g : Nat) : Value := .pointer (some ⟨g, 0, none⟩)
def ptrs (G : Nat → Nat) : Nat → Value := fun i => ptr (G i)
theorem ptrs_upd (G : Nat → Nat) (i g : Nat) : ptrs (upd G i g) = upd (ptrs G) i (ptr g) := by
  funext j
  unfold ptrs upd
  split <;> rfl
/-- New blocks get the tag t. -/
def tagged (w : World) (K : Nat → Nat) (t : Nat) : Nat → Nat := fun k => if k < w.heap.size then K k else t
theorem tagged_old {w : World} {K : Nat → Nat} {t k : Nat} (h : k < w.heap.size) : tagged w K t k = K k := if_pos h
theorem tagged_new {w : World} {K : Nat → Nat} {t k : Nat} (h : w.heap.size ≤ k) : tagged w K t k = t := if_neg (by omega)
/-- The row at r: n hashers in the blocks G, m texts; every block has its tag, so none is shared. -/
structure RowInv (w0 : World) (K : Nat → Nat) (r : Nat) (vh vt : Value) (held : Int) (n m : Nat) (G : Nat → Nat) (T U : Nat → List Nat) (V : Nat → Value) (w : World) : Prop where
  below : Below w0.heap.size w0 w
  rlo : w0.heap.size ≤ r
  blk : BlkIs w r 39 #[vh, vt, .int .i64 held]
  kr : K r = 0
  oh : w.ownsRow w0.heap.size 41 1 vh n (vals (ptrs G) n)
  kh : ∀ k, vh.ownBlock = some k → K k = 1
  ot : w.ownsRow w0.heap.size 26 1 vt m (vals V m)
  kt : ∀ k, vt.ownBlock = some k → K k = 2
  lo : ∀ i, i < n → w0.heap.size ≤ G i
  kg : ∀ i, i < n → K (G i) = 3 + 2 * i
  hash : ∀ i, i < n → HashIs w (G i) (T i)
  text : ∀ i, i < m → OwnU w w0.heap.size (V i) (U i)
  kv : ∀ i, i < m → ∀ k, (V i).ownBlock = some k → K k = 4 + 2 * i
section
variable {w0 w w1 w' : World} {K : Nat → Nat} {r n m : Nat} {vh vt : Value} {held : Int} {G : Nat → Nat} {T U : Nat → List Nat} {V : Nat → Value}
theorem tag_ne {v : Value} {row : Option Nat} {s t : Nat} (hv : ∀ k, v.ownBlock = some k → K k = s) (hr : ∀ k, row = some k → K k = t) (hst : s ≠ t) : v.ownBlock = none ∨ v.ownBlock ≠ row := by
  rcases hb : v.ownBlock with _ | k
  · exact .inl rfl
  · refine .inr fun e => hst ?_
    rw [← hv k hb, ← hr k e.symm]
theorem tag_ne1 {g : Nat} {row : Option Nat} {s t : Nat} (hv : K g = s) (hr : ∀ k, row = some k → K k = t) (hst : s ≠ t) : some g ≠ row := fun e => hst (by rw [← hv, ← hr g e.symm])
theorem tag1 {g t : Nat} (h : K g = t) : ∀ k, some g = some k → K k = t := fun k e => by injection e with e; rw [← e]; exact h
theorem RowInv.later (h : RowInv w0 K r vh vt held n m G T U V w) (hb : Below w.heap.size w w') : RowInv w0 K r vh vt held n m G T U V w' :=
  { h with
    below := h.below.trans (hb.mono h.below.size)
    blk := h.blk.below hb
    oh := h.oh.kept (grown_of_below hb none) (by cases vh.ownBlock <;> simp)
    ot := h.ot.kept (grown_of_below hb none) (by cases vt.ownBlock <;> simp)
    hash := fun i hi => (h.hash i hi).below hb
    text := fun i hi => (h.text i hi).below hb }
theorem RowInv.retag (h : RowInv w0 K r vh vt held n m G T U V w) (t : Nat) : RowInv w0 (tagged w K t) r vh vt held n m G T U V w :=
  { h with
    kr := (tagged_old h.blk.lt).trans h.kr
    kh := fun k hk => (tagged_old (h.oh.lt k hk).2).trans (h.kh k hk)
    kt := fun k hk => (tagged_old (h.ot.lt k hk).2).trans (h.kt k hk)
    kg := fun i hi => (tagged_old (h.hash i hi).lt).trans (h.kg i hi)
    kv := fun i hi k hk => (tagged_old ((h.text i hi).lt k hk).2).trans (h.kv i hi k hk) }
/-- Hasher i takes more. -/
theorem RowInv.putHash (h : RowInv w0 K r vh vt held n m G T U V w) {i : Nat} (hi : i < n) {ys : List Nat} (hh : HashIs w' (G i) ys) (hg : w.grownBy w' (some (G i))) : RowInv w0 K r vh vt held n m G (upd T i ys) U V w' := by
  have hr := tag1 (h.kg i hi)
  exact { h with
    below := h.below.grown hg h.below.size (fun k e => by injection e with e; rw [← e]; exact h.lo i hi)
    blk := h.blk.grown hg (tag_ne1 h.kr hr (by omega))
    oh := h.oh.kept hg (tag_ne h.kh hr (by omega))
    ot := h.ot.kept hg (tag_ne h.kt hr (by omega))
    hash := fun j hj => by
      by_cases e : j = i
      · subst e; rw [upd_same]; exact hh
      · rw [upd_other _ _ e]; exact (h.hash j hj).grown hg (tag_ne1 (h.kg j hj) hr (by omega))
    text := fun j hj => (h.text j hj).kept hg (tag_ne (h.kv j hj) hr (by omega)) }
/-- The row's own cells, where nothing else turns. -/
theorem RowInv.putHeld (h : RowInv w0 K r vh vt held n m G T U V w) (x : Int) : RowInv w0 K r vh vt x n m G T U V (w.setCell ⟨r, 2, none⟩ (.int .i64 x)) := by
  have hg := grown_setCell w (g := r) 2 (.int .i64 x)
  have hr := tag1 h.kr
  exact { h with
    below := h.below.grown hg h.below.size (fun k e => by injection e with e; rw [← e]; exact h.rlo)
    blk := h.blk.stored 2 _
    oh := h.oh.kept hg (tag_ne h.kh hr (by omega))
    ot := h.ot.kept hg (tag_ne h.kt hr (by omega))
    hash := fun j hj => (h.hash j hj).grown hg (tag_ne1 (h.kg j hj) hr (by omega))
    text := fun j hj => (h.text j hj).kept hg (tag_ne (h.kv j hj) hr (by omega)) }
theorem lies_ne {v v' : Value} {g s t : Nat} (hl : Lies w v v') (hv : ∀ k, v.ownBlock = some k → K k = s) (hg : g < w.heap.size) (hk : K g = t) (hst : s ≠ t) : v'.ownBlock = none ∨ v'.ownBlock ≠ some g := by
  rcases hb : v'.ownBlock with _ | k
  · exact .inl rfl
  · refine .inr fun e => ?_
    injection e with e
    subst e
    rcases hl k hb with h1 | h1
    · exact hst ((hv k h1).symm.trans hk)
    · omega
theorem lies_tag {v v' : Value} {t : Nat} (hl : Lies w v v') (hv : ∀ k, v.ownBlock = some k → K k = t) (hlt : ∀ k, v.ownBlock = some k → k < w.heap.size) : ∀ k, v'.ownBlock = some k → tagged w K t k = t := fun k hk => by
  rcases hl k hk with h1 | h1
  · exact (tagged_old (hlt k h1)).trans (hv k h1)
  · exact tagged_new h1
/-- The texts lie in a block, where there is one. -/
theorem row_shape {e : TypeId} {base : Nat} {v : Value} {xs : List Value} (h : w.ownsRow base e 1 v n xs) (hn : 0 < n) :
    ∃ g c, v = .slice (some ⟨g, 0, none⟩) n c ∧ base ≤ g ∧ g < w.heap.size ∧ n ≤ c ∧ (∀ j, w.frozen? ⟨g, j, none⟩ = false) ∧ ∀ j u, xs[j]? = some u → w.cell? ⟨g, j, none⟩ = some u := by
  rcases h.2 with ⟨_, h0⟩ | ⟨g, cap, cur, e1, hb, hc, hnc, r⟩
  · omega
  · subst e1
    exact ⟨g, cap, rfl, hb, (h.lt g rfl).2, hnc, fun j => World.ownsRow.frozenAt h j, fun j u hj => by
      have := h.cells rfl j u hj
      rwa [add_lit, Nat.zero_add] at this⟩
/-- Text i is another one, in its own block, and the list of the texts says so. -/
theorem RowInv.putText (h : RowInv w0 K r vh vt held n m G T U V w) {i g c : Nat} (hi : i < m) (hvt : vt = .slice (some ⟨g, 0, none⟩) m c) {v' : Value} {ys : List Nat}
    (ho : OwnU w1 w0.heap.size v' ys) (hg : w.grownBy w1 (V i).ownBlock) (hl : Lies w (V i) v') :
    RowInv w0 (tagged w K (4 + 2 * i)) r vh vt held n m G T (upd U i ys) (upd V i v') (w1.setCell ⟨g, i, none⟩ v') := by
  have h' := h.retag (4 + 2 * i)
  have hk2 : K g = 2 := h.kt g (by rw [hvt]; rfl)
  have hlt : w0.heap.size ≤ g ∧ g < w.heap.size := h.ot.lt g (by rw [hvt]; rfl)
  have hr := h.kv i hi
  have hr2 := tag1 hk2
  have hg2 := grown_setCell w1 (g := g) i v'
  have hot : w1.ownsRow w0.heap.size 26 1 vt m (vals V m) := h.ot.kept hg (tag_ne h.kt hr (by omega))
  exact {
    below := (h.below.grown hg h.below.size (fun k e => ((h.text i hi).lt k e).1)).grown hg2 (Nat.le_trans h.below.size hg.size) (fun k e => by injection e with e; rw [← e]; exact hlt.1)
    rlo := h.rlo
    blk := (h.blk.grown hg (tag_ne1 h.kr hr (by omega))).grown hg2 (tag_ne1 h.kr hr2 (by omega))
    kr := h'.kr
    oh := (h.oh.kept hg (tag_ne h.kh hr (by omega))).kept hg2 (tag_ne h.kh hr2 (by omega))
    kh := h'.kh
    ot := by
      rw [hvt] at hot ⊢
      have := (World.ownsRow.stored hot i v').1
      rwa [vals_set] at this
    kt := h'.kt
    lo := h.lo
    kg := h'.kg
    hash := fun j hj => ((h.hash j hj).grown hg (tag_ne1 (h.kg j hj) hr (by omega))).grown hg2 (tag_ne1 (h.kg j hj) hr2 (by omega))
    text := fun j hj => by
      by_cases e : j = i
      · subst e; rw [upd_same, upd_same]; exact ho.kept hg2 (lies_ne hl hr hlt.2 hk2 (by omega))
      · rw [upd_other _ _ e, upd_other _ _ e]
        exact ((h.text j hj).kept hg (tag_ne (h.kv j hj) hr (by omega))).kept hg2 (tag_ne (h.kv j hj) hr2 (by omega))
    kv := fun j hj => by
      by_cases e : j = i
      · subst e; rw [upd_same]; exact lies_tag hl hr (fun k hk => ((h.text j hj).lt k hk).2)
      · rw [upd_other _ _ e]; exact h'.kv j hj }
/-- One more hasher. -/
theorem RowInv.addHash (h : RowInv w0 K r vh vt held n m G T U V w) {g : Nat} (hlo : w0.heap.size ≤ g) (hkg : K g = 3 + 2 * n) {ys : List Nat} (hh : HashIs w g ys) {v' : Value}
    (ho : w1.ownsRow w0.heap.size 41 1 v' (n + 1) (vals (ptrs G) n ++ [ptr g])) (hg : w.grownBy w1 vh.ownBlock) (hl : Lies w vh v') :
    RowInv w0 (tagged w K 1) r v' vt held (n + 1) m (upd G n g) (upd T n ys) U V (w1.setCell ⟨r, 0, none⟩ v') := by
  have h' := h.retag 1
  have hr := h.kh
  have hr2 := tag1 h.kr
  have hg2 := grown_setCell w1 (g := r) 0 v'
  exact {
    below := (h.below.grown hg h.below.size (fun k e => (h.oh.lt k e).1)).grown hg2 (Nat.le_trans h.below.size hg.size) (fun k e => by injection e with e; rw [← e]; exact h.rlo)
    rlo := h.rlo
    blk := (h.blk.grown hg (tag_ne1 h.kr hr (by omega))).stored 0 _
    kr := h'.kr
    oh := by
      rw [ptrs_upd, ← vals_snoc]
      exact ho.kept hg2 (lies_ne hl hr h.blk.lt h.kr (by omega))
    kh := lies_tag hl hr (fun k hk => (h.oh.lt k hk).2)
    ot := (h.ot.kept hg (tag_ne h.kt hr (by omega))).kept hg2 (tag_ne h.kt hr2 (by omega))
    kt := h'.kt
    lo := fun j hj => by
      by_cases e : j = n
      · subst e; rw [upd_same]; exact hlo
      · rw [upd_other _ _ e]; exact h.lo j (by omega)
    kg := fun j hj => by
      by_cases e : j = n
      · subst e; rw [upd_same]; exact (tagged_old hh.lt).trans hkg
      · rw [upd_other _ _ e]; exact h'.kg j (by omega)
    hash := fun j hj => by
      by_cases e : j = n
      · subst e; rw [upd_same, upd_same]; exact (hh.grown hg (tag_ne1 hkg hr (by omega))).grown hg2 (tag_ne1 hkg hr2 (by omega))
      · rw [upd_other _ _ e, upd_other _ _ e]; exact ((h.hash j (by omega)).grown hg (tag_ne1 (h.kg j (by omega)) hr (by omega))).grown hg2 (tag_ne1 (h.kg j (by omega)) hr2 (by omega))
    text := fun j hj => ((h.text j hj).kept hg (tag_ne (h.kv j hj) hr (by omega))).kept hg2 (tag_ne (h.kv j hj) hr2 (by omega))
    kv := h'.kv }
/-- One more text. -/
theorem RowInv.addText (h : RowInv w0 K r vh vt held n m G T U V w) {u : Value} {ys : List Nat} (hu : OwnU w w0.heap.size u ys) (hku : ∀ k, u.ownBlock = some k → K k = 4 + 2 * m) {v' : Value}
    (ho : w1.ownsRow w0.heap.size 26 1 v' (m + 1) (vals V m ++ [u])) (hg : w.grownBy w1 vt.ownBlock) (hl : Lies w vt v') :
    RowInv w0 (tagged w K 2) r vh v' held n (m + 1) G T (upd U m ys) (upd V m u) (w1.setCell ⟨r, 1, none⟩ v') := by
  have h' := h.retag 2
  have hr := h.kt
  have hr2 := tag1 h.kr
  have hg2 := grown_setCell w1 (g := r) 1 v'
  exact {
    below := (h.below.grown hg h.below.size (fun k e => (h.ot.lt k e).1)).grown hg2 (Nat.le_trans h.below.size hg.size) (fun k e => by injection e with e; rw [← e]; exact h.rlo)
    rlo := h.rlo
    blk := (h.blk.grown hg (tag_ne1 h.kr hr (by omega))).stored 1 _
    kr := h'.kr
    oh := (h.oh.kept hg (tag_ne h.kh hr (by omega))).kept hg2 (tag_ne h.kh hr2 (by omega))
    kh := h'.kh
    ot := by
      rw [← vals_snoc]
      exact ho.kept hg2 (lies_ne hl hr h.blk.lt h.kr (by omega))
    kt := lies_tag hl hr (fun k hk => (h.ot.lt k hk).2)
    lo := h.lo
    kg := h'.kg
    hash := fun j hj => ((h.hash j hj).grown hg (tag_ne1 (h.kg j hj) hr (by omega))).grown hg2 (tag_ne1 (h.kg j hj) hr2 (by omega))
    text := fun j hj => by
      by_cases e : j = m
      · subst e; rw [upd_same, upd_same]; exact (hu.kept hg (tag_ne hku hr (by omega))).kept hg2 (tag_ne hku hr2 (by omega))
      · rw [upd_other _ _ e, upd_other _ _ e]
        exact ((h.text j (by omega)).kept hg (tag_ne (h.kv j (by omega)) hr (by omega))).kept hg2 (tag_ne (h.kv j (by omega)) hr2 (by omega))
    kv := fun j hj => by
      by_cases e : j = m
      · subst e
        rw [upd_same]
        exact fun k hk => (tagged_old (hu.lt k hk).2).trans (hku k hk)
      · rw [upd_other _ _ e]; exact h'.kv j (by omega) }
end
end Go.Proofs.YtadhjgopekekgaaDoor
