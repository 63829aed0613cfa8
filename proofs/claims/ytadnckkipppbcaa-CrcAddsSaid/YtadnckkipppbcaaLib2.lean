/- More plain facts on slices that the call itself made. No program is named here. -/
import Derived.Test.YtadnckkipppbcaaLib
import Derived.Deep.Draws
namespace Go.Proofs.Ytadnckkipppbcaa
open Go.RowKit
theorem own_apart {v2 v3 : Value} {B : Nat} (h2 : ∀ k, v2.ownBlock = some k → k < B) (h3 : ∀ k, v3.ownBlock = some k → B ≤ k) : v2.ownBlock = none ∨ v2.ownBlock ≠ v3.ownBlock := by
  rcases h : v2.ownBlock with _ | k
  · exact .inl rfl
  · refine .inr fun e => ?_
    have a := h2 k h
    have b := h3 k e.symm
    omega
theorem below_grown {B : Nat} {a w w' : World} {v : Value} (h : Below B a w) (hg : w.grownBy w' v.ownBlock) (hB : B ≤ w.heap.size) (hr : ∀ k, v.ownBlock = some k → B ≤ k) : Below B a w' := h.grown hg hB hr
theorem sameB_eq {xs ys : List Nat} (h : xs = ys) : sameB xs ys = true := by subst h; simp [sameB]
theorem sameB_ne {xs ys : List Nat} (h : ¬ xs = ys) : sameB xs ys = false := by simp [sameB, h]
theorem lt_of_own {e : TypeId} {w w' : World} {base : Nat} {v : Value} {xs : List Nat} (h : Own e w base v xs) (hs : w.heap.size ≤ w'.heap.size) : ∀ k, v.ownBlock = some k → k < w'.heap.size :=
  fun k hk => Nat.lt_of_lt_of_le (h.lt k hk).2 hs
theorem drewN_below {B : Nat} {a w : World} (h : Below B a w) (n : Nat) : Below B a (w.drewN n) := ⟨h.os, h.tape, h.output, h.size, h.block⟩
theorem Own.reads' {e : TypeId} {w : World} {base c : Nat} {A : Option Addr} {n : Nat} {xs : List Nat} (h : Own e w base (.slice A n c) xs) : n = xs.length ∧ RB w A xs.length xs ∧ xs.length ≤ c ∧ (A = none → c = 0) := by
  obtain ⟨A', c', e', hr, _, hA, hc⟩ := h.form
  injection e' with e1 e2 e3
  subst e1 e3
  exact ⟨e2, hr, hc, hA⟩
theorem Own.reads {e : TypeId} {w : World} {base c : Nat} {A : Option Addr} {n : Nat} {xs : List Nat} (h : Own e w base (.slice A n c) xs) : RB w A xs.length xs := h.reads'.2.1
theorem Own.room {e : TypeId} {w : World} {base c : Nat} {A : Option Addr} {n : Nat} {xs : List Nat} (h : Own e w base (.slice A n c) xs) : xs.length ≤ c := h.reads'.2.2.1
end Go.Proofs.Ytadnckkipppbcaa
