/- A list of lists of bytes that came in. -/
import Derived.Test.YtadnckkipppbcaaDoorOpen
namespace Go.Proofs.YtadnckkipppbcaaDoor
open Go.RowKit
/-- The list at P holds n lists; list number k reads; none is longer than lim. -/
def RBs (w : World) (P : Option Addr) (n lim : Nat) : Prop :=
  0 < n → ∃ a, P = some a ∧ a.block < w.heap.size ∧ ∀ k, k < n → ∃ A L C xs, w.cell? (a.add k) = some (.slice A L C) ∧ RB w A L xs ∧ L ≤ C ∧ L ≤ lim
theorem RBs.at_ {w : World} {P : Option Addr} {n lim k : Nat} (h : RBs w P n lim) (hk : k < n) : ∃ a A L C xs, P = some a ∧ a.block < w.heap.size ∧ w.cell? (a.add k) = some (.slice A L C) ∧ RB w A L xs ∧ L ≤ C ∧ L ≤ lim := by
  obtain ⟨a, h1, h2, h3⟩ := h (by omega)
  obtain ⟨A, L, C, xs, h4⟩ := h3 k hk
  exact ⟨a, A, L, C, xs, h1, h2, h4⟩
theorem RBs.below {w w' : World} {P : Option Addr} {n lim : Nat} (h : RBs w P n lim) (hb : Below w.heap.size w w') : RBs w' P n lim := fun hn => by
  obtain ⟨a, h1, h2, h3⟩ := h hn
  refine ⟨a, h1, Nat.lt_of_lt_of_le h2 hb.size, fun k hk => ?_⟩
  obtain ⟨A, L, C, xs, h4, h5, h6⟩ := h3 k hk
  exact ⟨A, L, C, xs, cell_later h2 hb h4, h5.below hb, h6⟩
end Go.Proofs.YtadnckkipppbcaaDoor
