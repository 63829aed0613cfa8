/- ledgerlaw5.FrameTurns: what it holds in memory. -/
import Derived.Test.YtbjbpgbpefkbhaaSlot
import Derived.Test.YtbjbpgbpefkbhaaTurns
import Derived.Test.YtbjbpgbpefkbhaaTurned
import Derived.Laws.OwnMore
import Derived.Deep.OwnRows
namespace Go.Proofs.Ytbjbpgbpefkbhaa
open Go.RowKit
theorem RB.grownBy {w w' : World} {A : Option Addr} {n : Nat} {xs : List Nat} {row : Option Nat} (h : RB w A n xs) (hg : w.grownBy w' row) (hA : 0 < n → ∀ ad, A = some ad → some ad.block ≠ row) : RB w' A n xs := by
  refine ⟨h.1, h.2.1, fun hn => ?_⟩
  obtain ⟨ad, e, hb, hc⟩ := h.2.2 hn
  refine ⟨ad, e, Nat.lt_of_lt_of_le hb hg.size, fun j x hj => ?_⟩
  rw [World.cell?_of_block (w := w) (a := ad.add j) (by rw [block_add]; exact hg.block _ hb (hA hn ad e))]
  exact hc j x hj
theorem made_row (n : Nat) : madeCells #[(.int .u8 0 : Value)] n = zarr n := by
  apply Array.ext
  · simp [madeCells, zarr, bvs, zs]
  · intro i h1 h2
    simp [madeCells, zarr, bvs, bv, zs, Nat.mod_one]
theorem below_undrew {w w' : World} (h : Below w.drew.heap.size w.drew w') : Below w.heap.size w w' := ⟨h.os, h.tape, h.output, h.size, h.block⟩
/-- A page in memory. -/
def Pg (w : World) (b : Nat) (xs : List Nat) : Prop := RB w (some ⟨b, 0, none⟩) 256 xs
theorem Pg.lt {w : World} {b : Nat} {xs : List Nat} (h : Pg w b xs) : b < w.heap.size := by
  obtain ⟨ad, e, hb, _⟩ := h.2.2 (by omega)
  injection e with e
  subst e
  exact hb
theorem Pg.kept {w w' : World} {b g : Nat} {xs : List Nat} (h : Pg w b xs) (hg : w.grownBy w' (some g)) (hn : b ≠ g) : Pg w' b xs := RB.grownBy h hg fun _ ad e k => hn (by injection e with e; injection k with k; subst e; exact k)
abbrev supOf (s : Sup) : Array Value := supA s.width s.gen s.mark s.head s.pages
def slV (b c : Nat) : Value := .slice (some ⟨b, 0, none⟩) 256 c
structure TS (w wr : World) (ga gs gt b0 b1 c0 c1 : Nat) (s t : Sup) (x0 x1 : List Nat) : Prop where
  bel : Below w.heap.size w wr
  arr : BlkIs wr ga 48 #[slV b0 c0, slV b1 c1]
  sup : BlkIs wr gs 24 (supOf s)
  tup : BlkIs wr gt 24 (supOf t)
  p0 : Pg wr b0 x0
  p1 : Pg wr b1 x1
  ge : w.heap.size ≤ ga ∧ w.heap.size ≤ gs ∧ w.heap.size ≤ gt
  ne : ga ≠ gs ∧ ga ≠ gt ∧ gs ≠ gt
  n0 : b0 ≠ ga ∧ b0 ≠ gs ∧ b0 ≠ gt
  n1 : b1 ≠ ga ∧ b1 ≠ gs ∧ b1 ≠ gt
  room : 256 ≤ c0 ∧ 256 ≤ c1
theorem Pg.below {w w' : World} {b : Nat} {xs : List Nat} (h : Pg w b xs) (hb : Below w.heap.size w w') : Pg w' b xs := RB.below h hb
theorem Pg.of {w : World} {b : Nat} {t : TypeId} {cs : Array Value} (h : BlkIs w b t cs) (e : cs = zarr 256) : Pg w b (zs 256) := by
  subst e
  have h1 := BlkB.reads (xs := zs 256) h (zs_isB 256) (o := 0) (n := 256) (by rw [zs_length]; omega)
  rwa [List.drop_zero, List.take_of_length_le (by rw [zs_length]; omega)] at h1
section
variable {w wr w' : World} {ga gs gt b0 b1 c0 c1 : Nat} {s t : Sup} {x0 x1 : List Nat}
theorem TS.below (h : TS w wr ga gs gt b0 b1 c0 c1 s t x0 x1) (hb : Below wr.heap.size wr w') : TS w w' ga gs gt b0 b1 c0 c1 s t x0 x1 :=
  ⟨h.bel.trans (hb.mono h.bel.size), h.arr.below hb, h.sup.below hb, h.tup.below hb, RB.below h.p0 hb, RB.below h.p1 hb, h.ge, h.ne, h.n0, h.n1, h.room⟩
theorem TS.alloc (h : TS w wr ga gs gt b0 b1 c0 c1 s t x0 x1) (o : Obj) : TS w (wr.alloc o) ga gs gt b0 b1 c0 c1 s t x0 x1 := h.below ((Below.refl _ _).alloc (Nat.le_refl _) o)
theorem sup5_grown (w : World) (g : Nat) (a b c d p : Int) : w.grownBy (sup5 w g a b c d p) (some g) :=
  grown_trans (grown_trans (grown_trans (grown_trans (grown_setCell w 0 _) (grown_setCell _ 1 _)) (grown_setCell _ 2 _)) (grown_setCell _ 3 _)) (grown_setCell _ 4 _)
theorem sup5_size (w : World) (g : Nat) (a b c d p : Int) : (sup5 w g a b c d p).heap.size = w.heap.size := by simp [sup5, World.setCell]
theorem TS.setT (h : TS w wr ga gs gt b0 b1 c0 c1 s t x0 x1) (a b c d p : Int) : TS w (sup5 wr gt a b c d p) ga gs gt b0 b1 c0 c1 s ⟨a, b, c, d, p⟩ x0 x1 :=
  have hg := sup5_grown wr gt a b c d p
  ⟨sup5_below h.bel h.ge.2.2, h.arr.grown hg (fun e => h.ne.2.1 (by injection e)), h.sup.grown hg (fun e => h.ne.2.2 (by injection e)), sup5_is h.tup, h.p0.kept hg h.n0.2.2, h.p1.kept hg h.n1.2.2, h.ge, h.ne, h.n0, h.n1, h.room⟩
theorem TS.setS (h : TS w wr ga gs gt b0 b1 c0 c1 s t x0 x1) (a b c d p : Int) : TS w (sup5 wr gs a b c d p) ga gs gt b0 b1 c0 c1 ⟨a, b, c, d, p⟩ t x0 x1 :=
  have hg := sup5_grown wr gs a b c d p
  ⟨sup5_below h.bel h.ge.2.1, h.arr.grown hg (fun e => h.ne.1 (by injection e)), sup5_is h.sup, h.tup.grown hg (fun e => h.ne.2.2 (by injection e with e; exact e.symm)), h.p0.kept hg h.n0.2.1, h.p1.kept hg h.n1.2.1, h.ge, h.ne, h.n0, h.n1, h.room⟩
/-- The superblock's generation alone. -/
theorem TS.setG {a b c d p : Int} (h : TS w wr ga gs gt b0 b1 c0 c1 ⟨a, b, c, d, p⟩ t x0 x1) (b' : Int) : TS w (wr.setCell ⟨gs, 1, none⟩ (.int .i64 b')) ga gs gt b0 b1 c0 c1 ⟨a, b', c, d, p⟩ t x0 x1 :=
  have hg := grown_setCell wr (g := gs) 1 (.int .i64 b')
  ⟨h.bel.setCell (p := ⟨gs, 1, none⟩) h.ge.2.1 _, h.arr.grown hg (fun e => h.ne.1 (by injection e)), h.sup.stored 1 (.int .i64 b'), h.tup.grown hg (fun e => h.ne.2.2 (by injection e with e; exact e.symm)), h.p0.kept hg h.n0.2.1, h.p1.kept hg h.n1.2.1, h.ge, h.ne, h.n0, h.n1, h.room⟩
theorem TS.set0 (h : TS w wr ga gs gt b0 b1 c0 c1 s t x0 x1) {b c : Nat} {x : List Nat} (hp : Pg wr b x) (hn : b ≠ ga ∧ b ≠ gs ∧ b ≠ gt) (hc : 256 ≤ c) : TS w (wr.setCell ⟨ga, 0, none⟩ (slV b c)) ga gs gt b b1 c c1 s t x x1 :=
  have hg := grown_setCell wr (g := ga) 0 (slV b c)
  ⟨h.bel.setCell (p := ⟨ga, 0, none⟩) h.ge.1 _, h.arr.stored 0 (slV b c), h.sup.grown hg (fun e => h.ne.1 (by injection e with e; exact e.symm)), h.tup.grown hg (fun e => h.ne.2.1 (by injection e with e; exact e.symm)), hp.kept hg hn.1, h.p1.kept hg h.n1.1, h.ge, h.ne, hn, h.n1, ⟨hc, h.room.2⟩⟩
theorem TS.set1 (h : TS w wr ga gs gt b0 b1 c0 c1 s t x0 x1) {b c : Nat} {x : List Nat} (hp : Pg wr b x) (hn : b ≠ ga ∧ b ≠ gs ∧ b ≠ gt) (hc : 256 ≤ c) : TS w (wr.setCell ⟨ga, 1, none⟩ (slV b c)) ga gs gt b0 b c0 c s t x0 x :=
  have hg := grown_setCell wr (g := ga) 1 (slV b c)
  ⟨h.bel.setCell (p := ⟨ga, 1, none⟩) h.ge.1 _, h.arr.stored 1 (slV b c), h.sup.grown hg (fun e => h.ne.1 (by injection e with e; exact e.symm)), h.tup.grown hg (fun e => h.ne.2.1 (by injection e with e; exact e.symm)), h.p0.kept hg h.n0.1, hp.kept hg hn.1, h.ge, h.ne, h.n0, hn, ⟨h.room.1, hc⟩⟩
/-- A store elsewhere. -/
theorem TS.setFar (h : TS w wr ga gs gt b0 b1 c0 c1 s t x0 x1) {g : Nat} (hg : w.heap.size ≤ g) (hn : ga ≠ g ∧ gs ≠ g ∧ gt ≠ g ∧ b0 ≠ g ∧ b1 ≠ g) (i : Nat) (v : Value) : TS w (wr.setCell ⟨g, i, none⟩ v) ga gs gt b0 b1 c0 c1 s t x0 x1 :=
  have hk := grown_setCell wr (g := g) i v
  ⟨h.bel.setCell (p := ⟨g, i, none⟩) hg _, h.arr.grown hk (fun e => hn.1 (by injection e)), h.sup.grown hk (fun e => hn.2.1 (by injection e)), h.tup.grown hk (fun e => hn.2.2.1 (by injection e)), h.p0.kept hk hn.2.2.2.1, h.p1.kept hk hn.2.2.2.2, h.ge, h.ne, h.n0, h.n1, h.room⟩
theorem TS.lts (h : TS w wr ga gs gt b0 b1 c0 c1 s t x0 x1) : ga < wr.heap.size ∧ gs < wr.heap.size ∧ gt < wr.heap.size ∧ b0 < wr.heap.size ∧ b1 < wr.heap.size := ⟨h.arr.lt, h.sup.lt, h.tup.lt, h.p0.lt, h.p1.lt⟩
theorem TS.apart (h : TS w wr ga gs gt b0 b1 c0 c1 s t x0 x1) {b : Nat} (hb : wr.heap.size ≤ b) : b ≠ ga ∧ b ≠ gs ∧ b ≠ gt := by
  have h1 := h.arr.lt
  have h2 := h.sup.lt
  have h3 := h.tup.lt
  omega
theorem TS.cells (h : TS w wr ga gs gt b0 b1 c0 c1 s t x0 x1) : wr.cell? ⟨ga, 0, none⟩ = some (.slice (some ⟨b0, 0, none⟩) 256 c0) ∧ wr.cell? ⟨ga, 1, none⟩ = some (.slice (some ⟨b1, 0, none⟩) 256 c1) ∧ wr.frozen? ⟨ga, 0, none⟩ = false ∧ wr.frozen? ⟨ga, 1, none⟩ = false :=
  ⟨h.arr.cell 0, h.arr.cell 1, h.arr.frozen 0, h.arr.frozen 1⟩
end
theorem alloc3 (w : World) (a b c : Array Value) (ta tb tc : TypeId) : BlkIs (((w.alloc (.cells a ta)).alloc (.cells b tb)).alloc (.cells c tc)).drew w.heap.size ta a ∧ BlkIs (((w.alloc (.cells a ta)).alloc (.cells b tb)).alloc (.cells c tc)).drew (w.heap.size + 1) tb b ∧
    BlkIs (((w.alloc (.cells a ta)).alloc (.cells b tb)).alloc (.cells c tc)).drew (w.heap.size + 1 + 1) tc c ∧ Below w.heap.size w (((w.alloc (.cells a ta)).alloc (.cells b tb)).alloc (.cells c tc)).drew := by
  refine ⟨((BlkIs.new w ta a).alloc _).alloc _, ?_, blk3 w _ _ tc c, ?_⟩
  · have h := BlkIs.new (w.alloc (.cells a ta)) tb b
    rw [show (w.alloc (.cells a ta)).heap.size = w.heap.size + 1 by simp] at h
    exact h.alloc _
  · exact Below.drew ((((Below.refl _ _).alloc (Nat.le_refl _) _).alloc (by simp) _).alloc (by simp; omega) _)
theorem ts_start {w wc w1 : World} {ga b0 b1 : Nat} {s t : Sup} (hb : Below w.heap.size w wc) (ha : BlkIs wc ga 48 #[slV b0 256, slV b1 256]) (h0 : Pg wc b0 (zs 256)) (h1 : Pg wc b1 (zs 256)) (hg : w.heap.size ≤ ga) (n0 : b0 ≠ ga) (n1 : b1 ≠ ga)
    (hw : Below (wc.alloc (.cells (supOf s) 24)).heap.size (wc.alloc (.cells (supOf s) 24)) w1) : TS w (w1.alloc (.cells (supOf t) 24)) ga wc.heap.size w1.heap.size b0 b1 256 256 s t (zs 256) (zs 256) := by
  have hs := (BlkIs.new wc 24 (supOf s)).below hw
  have l1 := ha.lt
  have l2 := h0.lt
  have l3 := h1.lt
  have l4 := hb.size
  have l5 := hs.lt
  have hB : Below wc.heap.size wc w1 := ((Below.refl _ _).alloc (Nat.le_refl _) (.cells (supOf s) 24)).trans (hw.mono (by simp))
  have hB2 : Below wc.heap.size wc (w1.alloc (.cells (supOf t) 24)) := hB.alloc hB.size _
  exact ⟨hb.trans (hB2.mono hb.size), ha.below hB2, hs.alloc _, BlkIs.new _ _ _, h0.below hB2, h1.below hB2, ⟨hg, by omega, by omega⟩, ⟨by omega, by omega, by omega⟩, ⟨n0, by omega, by omega⟩, ⟨n1, by omega, by omega⟩, by omega, by omega⟩
theorem turn_cells {w : World} {b o : Nat} {x : TurnN} {A : Option Addr} {C : Nat} (h : w.rangeAt b o (turnC x A C)) : w.cell? ⟨b, o, none⟩ = some (.int .i64 x.rise) ∧ w.cell? ⟨b, o + 1, none⟩ = some (.int .i64 x.head) ∧ w.cell? ⟨b, o + 2, none⟩ = some (.bool x.crash) ∧
    w.cell? ⟨b, o + 3, none⟩ = some (.bool x.kept) ∧ w.cell? ⟨b, o + 4, none⟩ = some (.slice A x.tail.length C) :=
  ⟨h 0 _ rfl, h 1 _ rfl, h 2 _ rfl, h 3 _ rfl, h 4 _ rfl⟩
def turnA (ri hd : Int) (cr ke : Bool) (A : Option Addr) (n C : Nat) : Array Value := #[.int .i64 ri, .int .i64 hd, .bool cr, .bool ke, .slice A n C]
theorem turn_at {w : World} {g : Nat} {ri hd : Int} {cr ke : Bool} {A : Option Addr} {n C : Nat} (h : BlkIs w g 51 (turnA ri hd cr ke A n C)) : w.cell? ⟨g, 0, none⟩ = some (.int .i64 ri) ∧ w.cell? ⟨g, 1, none⟩ = some (.int .i64 hd) ∧ w.cell? ⟨g, 2, none⟩ = some (.bool cr) ∧
    w.cell? ⟨g, 3, none⟩ = some (.bool ke) ∧ w.cell? ⟨g, 4, none⟩ = some (.slice A n C) := ⟨h.cell 0, h.cell 1, h.cell 2, h.cell 3, h.cell 4⟩
/-- A page that a call has made. -/
theorem own_pg {w : World} {base : Nat} {v : Value} {xs : List Nat} (h : OwnU w base v xs) (hl : xs.length = 256) : ∃ b c, v = .slice (some ⟨b, 0, none⟩) 256 c ∧ base ≤ b ∧ Pg w b xs ∧ 256 ≤ c := by
  obtain ⟨b, c, rfl, h1, _, _⟩ := h.shape (by omega)
  have h2 := h.reads
  have h3 := h.room
  rw [hl] at h2 h3 ⊢
  exact ⟨b, c, rfl, h1, h2, h3⟩
/-- The two slots as they stand: which is the newer one tells the generation. -/
def Stand2 (s : Sup) (x0 x1 : List Nat) : Prop := if s.gen % 2 = 0 then Stands s x0 x1 else Stands s x1 x0
theorem Stand2.ok {s : Sup} {x0 x1 : List Nat} (h : Stand2 s x0 x1) : s.Ok := by
  unfold Stand2 at h
  split at h <;> exact h.1
theorem Stand2.choose {s : Sup} {x0 x1 : List Nat} (h : Stand2 s x0 x1) : chooseN x0 x1 = (s, 0) := by
  unfold Stand2 at h
  split at h
  · exact h.even (by assumption)
  · exact h.odd (by omega)
theorem Stand2.lost {s : Sup} {x0 x1 tail : List Nat} (h : Stand2 s x0 x1) (ht : IsB tail) : ((s.gen + 1) % 2 = 0 → Stand2 s (slotN x0 tail) x1) ∧ ((s.gen + 1) % 2 = 1 → Stand2 s x0 (slotN x1 tail)) := by
  unfold Stand2 at h ⊢
  refine ⟨fun e => ?_, fun e => ?_⟩
  · rw [if_neg (by omega)] at h ⊢
    exact h.lost ht
  · rw [if_pos (by omega)] at h ⊢
    exact h.lost ht
theorem Stand2.got {s u : Sup} {x0 x1 tail : List Nat} (h : Stand2 s x0 x1) (ht : IsB tail) (hu : u.Ok) (h1 : u.gen = s.gen + 1) (h2 : u.width = s.width) (h3 : u.pages = s.pages) (h4 : s.mark ≤ u.mark) :
    ((s.gen + 1) % 2 = 0 → Stand2 u (slotN (superN u) tail) x1) ∧ ((s.gen + 1) % 2 = 1 → Stand2 u x0 (slotN (superN u) tail)) := by
  unfold Stand2 at h ⊢
  refine ⟨fun e => ?_, fun e => ?_⟩
  · rw [if_neg (by omega)] at h
    rw [if_pos (by omega)]
    exact h.got ht hu h1 h2 h3 h4
  · rw [if_pos (by omega)] at h
    rw [if_neg (by omega)]
    exact h.got ht hu h1 h2 h3 h4
end Go.Proofs.Ytbjbpgbpefkbhaa
