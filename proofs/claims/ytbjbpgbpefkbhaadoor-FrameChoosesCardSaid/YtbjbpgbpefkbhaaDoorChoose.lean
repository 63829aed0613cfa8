/- frame.empty, newer, Choose. -/
import Derived.Test.YtbjbpgbpefkbhaaDoorUnpackSuper
import Derived.BigRegion
namespace Go.Proofs.YtbjbpgbpefkbhaaDoor
open Go.RowKit
def emptyN (xs : List Nat) : Bool := decide (xs.length = 256 ∧ cutZ xs 0 64)
/-- Of two superblocks that stand, a in slot 0 and b in slot 1: the one that holds. -/
def newerN (a b : Sup) : Sup × Nat :=
  if a.gen % 2 = 0 ∧ b.gen % 2 = 1 ∧ a.width = b.width ∧ a.pages = b.pages ∧ a.gen = b.gen + 1 ∧ b.mark ≤ a.mark then (a, 0)
  else if a.gen % 2 = 0 ∧ b.gen % 2 = 1 ∧ a.width = b.width ∧ a.pages = b.pages ∧ b.gen = a.gen + 1 ∧ a.mark ≤ b.mark then (b, 0)
  else (Sup.zero, 4)
def chooseN (xs ys : List Nat) : Sup × Nat :=
  if (unsupN xs).2 = 0 ∧ (unsupN ys).2 = 0 then newerN (unsupN xs).1 (unsupN ys).1
  else if emptyN ys = true ∧ (emptyN xs = true ∨ (unsupN xs).2 = 0 ∧ (unsupN xs).1.gen = 0) then (Sup.zero, 55)
  else (Sup.zero, 4)
def Chosen (s : Sup × Nat) (e : Ending) : Prop := e = .returned (.tuple #[supV s.1, .int .i64 (s.2 : Nat)])
theorem blk3 (w : World) (x y : Obj) (t : TypeId) (cs : Array Value) : BlkIs (((w.alloc x).alloc y).alloc (.cells cs t)) (w.heap.size + 1 + 1) t cs := by
  have h := BlkIs.new ((w.alloc x).alloc y) t cs
  rwa [show ((w.alloc x).alloc y).heap.size = w.heap.size + 1 + 1 by simp] at h
theorem newer_bad {a b : Sup} (h : newerN a b = (Sup.zero, 4)) : Chosen (newerN a b) (.returned (.tuple #[.agg (supA 0 0 0 0 0), .int .i64 4])) := by
  unfold Chosen
  rw [h]
  rfl
theorem newer_good {a b : Sup} {x y z u v : Int} (h : newerN a b = (⟨x, y, z, u, v⟩, 0)) : Chosen (newerN a b) (.returned (.tuple #[.agg (supA x y z u v), .int .i64 0])) := by
  unfold Chosen
  rw [h]
  rfl
theorem tmod2 {g : Int} (h : 0 ≤ g) : g.tmod 2 = g % 2 := Int.tmod_eq_emod_of_nonneg h
set_option maxHeartbeats 1000000 in
theorem newer_any (a b : Sup) (w : World) (ha : a.Ok) (hb : b.Ok) :
    Calls Tryd.prog 56 #[supV a, supV b] w fun e w' => Chosen (newerN a b) e ∧ Below w.heap.size w w' := by
  obtain ⟨a1, a2, a3, a4, a5⟩ := a
  obtain ⟨b1, b2, b3, b4, b5⟩ := b
  have h1 : 0 ≤ a2 ∧ a2 ≤ 1099511627776 := ha.2.1
  have h2 : 0 ≤ b2 ∧ b2 ≤ 1099511627776 := hb.2.1
  have t1 := tmod2 h1.1
  have t2 := tmod2 h2.1
  unfold supV
  dsimp only
  go_enter Tryd.func56, Tryd.ntmps56
  by_cases q1 : a2 % 2 = 0
  · have u1 : (a2 % 2 != 0) = false := by rw [q1]; rfl
    by_cases q2 : b2 % 2 = 1
    · have u2 : (b2 % 2 != 1) = false := by rw [q2]; rfl
      by_cases q3 : a2 < b2
      · go_wp2_with fail
        go_region
        go_wp2_with fail
        all_goals
          (try simp only [Exit.inBlock, Exit.then])
          first
            | refine sup_ret rfl rfl (blk3 _ _ _ _ _) rfl rfl ⟨newer_bad ?_, ?_⟩
            | refine sup_ret rfl rfl (BlkIs.drew (BlkIs.alloc (blk3 _ _ _ _ _) _)) rfl rfl ⟨newer_bad ?_, ?_⟩
            | refine sup_ret rfl rfl (BlkIs.drew (BlkIs.alloc (blk3 _ _ _ _ _) _)) rfl rfl ⟨newer_good ?_, ?_⟩
          · unfold newerN
            dsimp only
            (repeat' split) <;> first
              | rfl
              | (exfalso; omega)
              | (simp only [Prod.mk.injEq, Sup.mk.injEq, and_true]; omega)
          · (repeat' (first | exact Below.refl _ _ | refine Below.drew ?_ | refine Below.alloc ?_ (by simp <;> omega) _))
      · go_wp2_with fail
        go_region
        go_wp2_with fail
        all_goals
          (try simp only [Exit.inBlock, Exit.then])
          first
            | refine sup_ret rfl rfl (blk3 _ _ _ _ _) rfl rfl ⟨newer_bad ?_, ?_⟩
            | refine sup_ret rfl rfl (BlkIs.drew (BlkIs.alloc (blk3 _ _ _ _ _) _)) rfl rfl ⟨newer_bad ?_, ?_⟩
            | refine sup_ret rfl rfl (BlkIs.drew (BlkIs.alloc (blk3 _ _ _ _ _) _)) rfl rfl ⟨newer_good ?_, ?_⟩
          · unfold newerN
            dsimp only
            (repeat' split) <;> first
              | rfl
              | (exfalso; omega)
              | (simp only [Prod.mk.injEq, Sup.mk.injEq, and_true]; omega)
          · (repeat' (first | exact Below.refl _ _ | refine Below.drew ?_ | refine Below.alloc ?_ (by simp <;> omega) _))
    · have u2 : (b2 % 2 != 1) = true := by rw [bne_iff_ne]; exact q2
      go_wp2_with fail
      all_goals
        (try simp only [Exit.inBlock, Exit.then])
        first
          | refine sup_ret rfl rfl (blk3 _ _ _ _ _) rfl rfl ⟨newer_bad ?_, ?_⟩
          | refine sup_ret rfl rfl (BlkIs.drew (BlkIs.alloc (blk3 _ _ _ _ _) _)) rfl rfl ⟨newer_bad ?_, ?_⟩
          | refine sup_ret rfl rfl (BlkIs.drew (BlkIs.alloc (blk3 _ _ _ _ _) _)) rfl rfl ⟨newer_good ?_, ?_⟩
        · unfold newerN
          dsimp only
          (repeat' split) <;> first
            | rfl
            | (exfalso; omega)
            | (simp only [Prod.mk.injEq, Sup.mk.injEq, and_true]; omega)
        · (repeat' (first | exact Below.refl _ _ | refine Below.drew ?_ | refine Below.alloc ?_ (by simp <;> omega) _))
  · have u1 : (a2 % 2 != 0) = true := by rw [bne_iff_ne]; exact q1
    go_wp2_with fail
    all_goals
      (try simp only [Exit.inBlock, Exit.then])
      first
        | refine sup_ret rfl rfl (blk3 _ _ _ _ _) rfl rfl ⟨newer_bad ?_, ?_⟩
        | refine sup_ret rfl rfl (BlkIs.drew (BlkIs.alloc (blk3 _ _ _ _ _) _)) rfl rfl ⟨newer_bad ?_, ?_⟩
        | refine sup_ret rfl rfl (BlkIs.drew (BlkIs.alloc (blk3 _ _ _ _ _) _)) rfl rfl ⟨newer_good ?_, ?_⟩
      · unfold newerN
        dsimp only
        (repeat' split) <;> first
          | rfl
          | (exfalso; omega)
          | (simp only [Prod.mk.injEq, Sup.mk.injEq, and_true]; omega)
      · (repeat' (first | exact Below.refl _ _ | refine Below.drew ?_ | refine Below.alloc ?_ (by simp <;> omega) _))
end Go.Proofs.YtbjbpgbpefkbhaaDoor
