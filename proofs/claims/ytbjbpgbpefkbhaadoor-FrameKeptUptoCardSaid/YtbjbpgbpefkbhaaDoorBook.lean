/- ledgerlaw5.Book: lists that were handed out, each with three that were grown out of it, in memory. No function of the program is named here. -/
import Derived.Test.YtbjbpgbpefkbhaaDoorMark
import Derived.Test.YtbjbpgbpefkbhaaDoorShort
import Derived.Laws.OwnMore
namespace Go.Proofs.YtbjbpgbpefkbhaaDoor
open Go.RowKit
/-- Nothing that stood outside U has changed. -/
structure Touch (U : Nat → Prop) (w w' : World) : Prop where
  os : w'.os = w.os
  tape : w'.tape = w.tape
  output : w'.output = w.output
  size : w.heap.size ≤ w'.heap.size
  block : ∀ k, k < w.heap.size → ¬ U k → w'.heap[k]? = w.heap[k]?
section
variable {U V : Nat → Prop} {w w' w'' : World}
theorem Touch.refl (U : Nat → Prop) (w : World) : Touch U w w := ⟨rfl, rfl, rfl, Nat.le_refl _, fun _ _ _ => rfl⟩
theorem Touch.mono (h : Touch U w w') (hv : ∀ k, k < w.heap.size → U k → V k) : Touch V w w' := ⟨h.os, h.tape, h.output, h.size, fun k hk hn => h.block k hk fun hu => hn (hv k hk hu)⟩
theorem Touch.trans (h : Touch U w w') (k : Touch U w' w'') : Touch U w w'' :=
  ⟨k.os.trans h.os, k.tape.trans h.tape, k.output.trans h.output, Nat.le_trans h.size k.size, fun i hi hn => (k.block i (Nat.lt_of_lt_of_le hi h.size) hn).trans (h.block i hi hn)⟩
theorem Touch.grown {row : Option Nat} (h : w.grownBy w' row) : Touch (fun k => some k = row) w w' := ⟨h.os, h.tape, h.output, h.size, fun k hk hn => h.block k hk hn⟩
theorem Touch.ofBelow (h : Below w.heap.size w w') : Touch (fun _ => False) w w' := ⟨h.os, h.tape, h.output, h.size, fun k hk _ => h.block k hk⟩
theorem Touch.toBelow {B : Nat} {w0 : World} (h : Touch U w w') (hb : Below B w0 w) (hB : B ≤ w.heap.size) (hu : ∀ k, U k → B ≤ k) : Below B w0 w' :=
  ⟨h.os.trans hb.os, h.tape.trans hb.tape, h.output.trans hb.output, Nat.le_trans hb.size h.size, fun k hk => (h.block k (by omega) (fun hu' => by have := hu k hu'; omega)).trans (hb.block k hk)⟩
theorem Touch.row {base : Nat} {e : TypeId} {size n : Nat} {v : Value} {xs : List Value} (ht : Touch U w w') (h : w.ownsRow base e size v n xs) (hn : ∀ k, v.ownBlock = some k → ¬ U k) : w'.ownsRow base e size v n xs := by
  refine ⟨h.1, ?_⟩
  rcases h.2 with h1 | ⟨g, cap, cur, rfl, h1, h2, h3⟩
  · exact .inl h1
  · refine .inr ⟨g, cap, cur, rfl, h1, ?_, h3⟩
    have hg : g < w.heap.size := by
      rcases Nat.lt_or_ge g w.heap.size with h' | h'
      · exact h'
      · rw [Array.getElem?_eq_none h'] at h2; cases h2
    exact (ht.block g hg (hn g rfl)).trans h2
theorem Touch.own {base : Nat} {e : TypeId} {v : Value} {xs : List Nat} (ht : Touch U w w') (h : Own e w base v xs) (hn : ∀ k, v.ownBlock = some k → ¬ U k) : Own e w' base v xs := ⟨ht.row h.1 hn, h.2⟩
theorem Touch.blk {g : Nat} {t : TypeId} {cs : Array Value} (ht : Touch U w w') (h : BlkIs w g t cs) (hn : ¬ U g) : BlkIs w' g t cs := (ht.block g h.lt hn).trans h
end
/-- A list that was handed out and the three that were grown out of it. -/
structure Quad where
  n : Nat
  l : Value
  g : Value
  h : Value
  k : Value
/-- The i-th list's mark. -/
def mkOf (i : Nat) : Nat := i % 250 + 1
theorem mkOf_lt (i : Nat) : mkOf i < 256 := by unfold mkOf; omega
/-- All four are full of the mark m, in blocks of C. -/
structure QuadIs (w : World) (base : Nat) (q : Quad) (m : Nat) (C : Nat → Prop) : Prop where
  l : OwnU w base q.l (mk q.n m)
  g : OwnU w base q.g (mk (q.n + 1) m)
  h : OwnU w base q.h (mk (q.n + 2) m)
  k : OwnU w base q.k (mk (q.n + 300) m)
  inC : ∀ B, q.l.ownBlock = some B ∨ q.g.ownBlock = some B ∨ q.h.ownBlock = some B ∨ q.k.ownBlock = some B → C B
  size : q.n ≤ 1073741824
theorem QuadIs.touch {w w' : World} {base : Nat} {q : Quad} {m : Nat} {C U : Nat → Prop} (h : QuadIs w base q m C) (ht : Touch U w w') (hd : ∀ B, C B → ¬ U B) : QuadIs w' base q m C :=
  ⟨ht.own h.l fun k hk => hd k (h.inC k (.inl hk)), ht.own h.g fun k hk => hd k (h.inC k (.inr (.inl hk))), ht.own h.h fun k hk => hd k (h.inC k (.inr (.inr (.inl hk)))), ht.own h.k fun k hk => hd k (h.inC k (.inr (.inr (.inr hk)))), h.inC, h.size⟩
theorem QuadIs.mono {w : World} {base : Nat} {q : Quad} {m : Nat} {C D : Nat → Prop} (h : QuadIs w base q m C) (hd : ∀ B, C B → D B) : QuadIs w base q m D := ⟨h.l, h.g, h.h, h.k, fun B hB => hd B (h.inC B hB), h.size⟩
abbrev RowB (w : World) (base : Nat) (v : Value) (xs : List Value) : Prop := w.ownsRow base 24 1 v xs.length xs
/-- The book's four lists, in blocks of H. -/
structure Heads (w : World) (gb base : Nat) (v0 v1 v2 v3 : Value) (x0 x1 x2 x3 : List Value) (H : Nat → Prop) : Prop where
  blk : BlkIs w gb 49 #[v0, v1, v2, v3]
  r0 : RowB w base v0 x0
  r1 : RowB w base v1 x1
  r2 : RowB w base v2 x2
  r3 : RowB w base v3 x3
  a01 : Apart v0 v1
  a02 : Apart v0 v2
  a03 : Apart v0 v3
  a12 : Apart v1 v2
  a13 : Apart v1 v3
  a23 : Apart v2 v3
  ne : v0.ownBlock ≠ some gb ∧ v1.ownBlock ≠ some gb ∧ v2.ownBlock ≠ some gb ∧ v3.ownBlock ≠ some gb
  inH : H gb ∧ ∀ B, v0.ownBlock = some B ∨ v1.ownBlock = some B ∨ v2.ownBlock = some B ∨ v3.ownBlock = some B → H B
  bnd : ∀ B, H B → base ≤ B ∧ B < w.heap.size
structure Book (w : World) (gb base : Nat) (Q : List Quad) (H C : Nat → Prop) : Prop where
  heads : ∃ v0 v1 v2 v3, Heads w gb base v0 v1 v2 v3 (Q.map Quad.l) (Q.map Quad.g) (Q.map Quad.h) (Q.map Quad.k) H
  quads : ∀ i q, Q[i]? = some q → QuadIs w base q (mkOf i) C
  dis : ∀ B, H B → ¬ C B
  bndC : ∀ B, C B → base ≤ B ∧ B < w.heap.size
theorem Heads.touch {w w' : World} {gb base : Nat} {v0 v1 v2 v3 : Value} {x0 x1 x2 x3 : List Value} {H U : Nat → Prop} (h : Heads w gb base v0 v1 v2 v3 x0 x1 x2 x3 H) (ht : Touch U w w') (hd : ∀ B, H B → ¬ U B) : Heads w' gb base v0 v1 v2 v3 x0 x1 x2 x3 H :=
  ⟨ht.blk h.blk (hd gb h.inH.1), ht.row h.r0 fun k hk => hd k (h.inH.2 k (.inl hk)), ht.row h.r1 fun k hk => hd k (h.inH.2 k (.inr (.inl hk))), ht.row h.r2 fun k hk => hd k (h.inH.2 k (.inr (.inr (.inl hk)))), ht.row h.r3 fun k hk => hd k (h.inH.2 k (.inr (.inr (.inr hk)))),
    h.a01, h.a02, h.a03, h.a12, h.a13, h.a23, h.ne, h.inH, fun B hB => ⟨(h.bnd B hB).1, Nat.lt_of_lt_of_le (h.bnd B hB).2 ht.size⟩⟩
theorem Book.touch {w w' : World} {gb base : Nat} {Q : List Quad} {H C U : Nat → Prop} (h : Book w gb base Q H C) (ht : Touch U w w') (hd : ∀ B, H B ∨ C B → ¬ U B) : Book w' gb base Q H C := by
  obtain ⟨v0, v1, v2, v3, hh⟩ := h.heads
  exact ⟨⟨v0, v1, v2, v3, hh.touch ht fun B hB => hd B (.inl hB)⟩, fun i q hq => (h.quads i q hq).touch ht fun B hB => hd B (.inr hB), h.dis, fun B hB => ⟨(h.bndC B hB).1, Nat.lt_of_lt_of_le (h.bndC B hB).2 ht.size⟩⟩
theorem Book.below {w w' : World} {gb base : Nat} {Q : List Quad} {H C : Nat → Prop} (h : Book w gb base Q H C) (hb : Below w.heap.size w w') : Book w' gb base Q H C := h.touch (Touch.ofBelow hb) fun _ _ h => h
end Go.Proofs.YtbjbpgbpefkbhaaDoor
