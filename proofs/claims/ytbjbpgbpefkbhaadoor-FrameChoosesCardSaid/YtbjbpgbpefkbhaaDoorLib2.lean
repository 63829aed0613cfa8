/- More plain facts on slices that the call itself made. No program is named here. -/
import Derived.Test.YtbjbpgbpefkbhaaDoorLib
import Derived.Deep.Draws
namespace Go.Proofs.YtbjbpgbpefkbhaaDoor
open Go.RowKit
theorem own_apart {v2 v3 : Value} {B : Nat} (h2 : ∀ k, v2.ownBlock = some k → k < B) (h3 : ∀ k, v3.ownBlock = some k → B ≤ k) : v2.ownBlock = none ∨ v2.ownBlock ≠ v3.ownBlock := by
  rcases h : v2.ownBlock with _ | k
  · exact .inl rfl
  · refine .inr fun e => ?_
    have a := h2 k h
    have b := h3 k e.symm
    omega
theorem below_grown {B : Nat} {a w w' : World} {v : Value} (h : Below B a w) (hg : w.grownBy w' v.ownBlock) (hB : B ≤ w.heap.size) (hr : ∀ k, v.ownBlock = some k → B ≤ k) : Below B a w' := h.grown hg hB hr
theorem sameB_eq {xs ys : List Nat} (h : xs = ys) : sameB xs ys = true := by subst h; simp [sameB]
theorem sameB_ne {xs ys : List Nat} (h : ¬ xs = ys) : sameB xs ys = false := by simp [sameB, h]
theorem lt_of_own {e : TypeId} {w w' : World} {base : Nat} {v : Value} {xs : List Nat} (h : Own e w base v xs) (hs : w.heap.size ≤ w'.heap.size) : ∀ k, v.ownBlock = some k → k < w'.heap.size :=
  fun k hk => Nat.lt_of_lt_of_le (h.lt k hk).2 hs
theorem drewN_below {B : Nat} {a w : World} (h : Below B a w) (n : Nat) : Below B a (w.drewN n) := ⟨h.os, h.tape, h.output, h.size, h.block⟩
theorem Own.reads' {e : TypeId} {w : World} {base c : Nat} {A : Option Addr} {n : Nat} {xs : List Nat} (h : Own e w base (.slice A n c) xs) : n = xs.length ∧ RB w A xs.length xs ∧ xs.length ≤ c ∧ (A = none → c = 0) := by
  obtain ⟨A', c', e', hr, _, hA, hc⟩ := h.form
  injection e' with e1 e2 e3
  subst e1 e3
  exact ⟨e2, hr, hc, hA⟩
theorem Own.reads {e : TypeId} {w : World} {base c : Nat} {A : Option Addr} {n : Nat} {xs : List Nat} (h : Own e w base (.slice A n c) xs) : RB w A xs.length xs := h.reads'.2.1
theorem Own.room {e : TypeId} {w : World} {base c : Nat} {A : Option Addr} {n : Nat} {xs : List Nat} (h : Own e w base (.slice A n c) xs) : xs.length ≤ c := h.reads'.2.2.1
/-- Block g is just these cells, none of them frozen. -/
def BlkIs (w : World) (g : Nat) (t : TypeId) (cs : Array Value) : Prop := w.heap[g]? = some (.cells cs t (0, 0))
section
variable {w w' : World} {g : Nat} {t : TypeId} {cs : Array Value}
theorem BlkIs.lt (h : BlkIs w g t cs) : g < w.heap.size := by
  rcases Nat.lt_or_ge g w.heap.size with h' | h'
  · exact h'
  · unfold BlkIs at h; rw [Array.getElem?_eq_none h'] at h; cases h
theorem BlkIs.cell (h : BlkIs w g t cs) (i : Nat) : w.cell? ⟨g, i, none⟩ = cs[i]? := cell_of_row w g i cs t (0, 0) h
theorem BlkIs.frozen (h : BlkIs w g t cs) (i : Nat) : w.frozen? ⟨g, i, none⟩ = false := frozen_of_row w g i cs t h
theorem BlkIs.new (w : World) (t : TypeId) (cs : Array Value) : BlkIs (w.alloc (.cells cs t)) w.heap.size t cs := heap_alloc_new w _
theorem BlkIs.drew (h : BlkIs w g t cs) : BlkIs w.drew g t cs := h
theorem BlkIs.drewN (h : BlkIs w g t cs) (n : Nat) : BlkIs (w.drewN n) g t cs := h
theorem BlkIs.alloc (h : BlkIs w g t cs) (o : Obj) : BlkIs (w.alloc o) g t cs := (Below.heap_alloc w o g h.lt).trans h
theorem BlkIs.below (h : BlkIs w g t cs) (hb : Below w.heap.size w w') : BlkIs w' g t cs := (hb.block g h.lt).trans h
theorem BlkIs.belowB {B : Nat} (h : BlkIs w g t cs) (hb : Below B w w') (hg : g < B) : BlkIs w' g t cs := (hb.block g hg).trans h
theorem BlkIs.grown {row : Option Nat} (h : BlkIs w g t cs) (hb : w.grownBy w' row) (hg : some g ≠ row) : BlkIs w' g t cs := (hb.block g h.lt hg).trans h
theorem BlkIs.stored (h : BlkIs w g t cs) (i : Nat) (u : Value) : BlkIs (w.setCell ⟨g, i, none⟩ u) g t (cs.setIfInBounds i u) := heap_setCell_same w g i cs t u h
theorem BlkIs.far (h : BlkIs w g t cs) {p : Addr} (hp : g ≠ p.block) (u : Value) : BlkIs (w.setCell p u) g t cs := (Below.heap_setCell w p u g hp).trans h
end
end Go.Proofs.YtbjbpgbpefkbhaaDoor
