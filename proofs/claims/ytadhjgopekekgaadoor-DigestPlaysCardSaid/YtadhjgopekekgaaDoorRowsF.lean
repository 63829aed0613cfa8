/- A list of lists of bytes that came in, its lists named. -/
import Derived.Test.YtadhjgopekekgaaDoorOpen
import Derived.Test.YtadhjgopekekgaaDoorLib2
import Derived.Deep.Matrix
import Derived.OpenShut
namespace Go.Proofs.YtadhjgopekekgaaDoor
open Go.ChangeShapes Go.WideShapes Go.RowKit
/-- The list at P holds N lists, number k of them the bytes X k. -/
def RBf (w : World) (P : Option Addr) (N : Nat) (X : Nat → List Nat) : Prop :=
  N ≤ maxLen ∧ ∀ k, k < N → ∃ a A C, P = some a ∧ a.block < w.heap.size ∧ w.cell? (a.add k) = some (.slice A (X k).length C) ∧ RB w A (X k).length (X k) ∧ (X k).length ≤ C ∧ C ≤ maxLen ∧ (A = none → C = 0)
theorem RBf.below {w w' : World} {P : Option Addr} {N : Nat} {X : Nat → List Nat} (h : RBf w P N X) (hb : Below w.heap.size w w') : RBf w' P N X := ⟨h.1, fun k hk => by
  obtain ⟨a, A, C, h1, h2, h3, h4, h5⟩ := h.2 k hk
  exact ⟨a, A, C, h1, Nat.lt_of_lt_of_le h2 hb.size, cell_later h2 hb h3, h4.below hb, h5⟩⟩
def sumL (X : Nat → List Nat) : Nat → Nat
  | 0 => 0
  | k + 1 => sumL X k + (X k).length + 1
def catL (X : Nat → List Nat) : Nat → List Nat
  | 0 => []
  | k + 1 => catL X k ++ X k
theorem catL_length (X : Nat → List Nat) (k : Nat) : (catL X k).length ≤ sumL X k := by
  induction k with
  | zero => exact Nat.le_refl _
  | succ k ih => simp only [catL, sumL, List.length_append]; omega
theorem sumL_mono (X : Nat → List Nat) {j k : Nat} (h : j ≤ k) : sumL X j ≤ sumL X k := by
  induction k with
  | zero => rw [show j = 0 by omega]; exact Nat.le_refl _
  | succ k ih =>
    rcases Nat.lt_or_ge j (k + 1) with h1 | h1
    · have := ih (by omega)
      simp only [sumL]; omega
    · rw [show j = k + 1 by omega]; exact Nat.le_refl _
section
variable {H : Type} {enc : TypeId × Value → H} {P : Program} {w : World} {base : Nat} {held : Bool}
theorem row_isRow' {A : Option Addr} {L C : Nat} {Z : List Int} (h1 : L ≤ C) (h2 : C ≤ maxLen) (h3 : Z.length = C) (h4 : ∀ n ∈ Z, (Lit.int .u8 n).wf = true) (h5 : A = none → C = 0) (h6 : ∀ a', A = some a' → ∀ c, c < C → w.cell? (a'.add c) = some (.int .u8 (Z.getD c 0))) : IsRow .u8 w A L C Z := by
  rcases A with _ | a
  · have := h5 rfl
    subst this
    exact .inl ⟨rfl, by omega, rfl, List.eq_nil_of_length_eq_zero h3⟩
  · exact .inr ⟨a, rfl, h1, h2, h3, fun i hi => h6 a rfl i (by omega), h4⟩
theorem open_rowsF {t e q : TypeId} {v : Value} {d : DataW H} {ps : List MemPlace} {a : Option Addr} {len cap : Nat} (ht : P.underlying t = some (.slice e)) (he : P.underlying e = some (.slice q)) (hq : P.underlying q = some (.int .u8))
    (ce : P.cellsOf e = 1) (cq : P.cellsOf q = 1) (hv : v = .slice a len cap) (h : DataW.Trod enc P w base (fun _ => true) held t v d ps) : ∃ X, RBf w a len X := by
  subst hv
  obtain ⟨fuel, hf⟩ := h
  rcases Deep.open_int_rows ht he hq ce cq hf with ⟨hcs, _⟩ | ⟨ad, l, c, A, L, C, Z, hcs, _, hl, hm, hx, hrow⟩
  · simp [Value.cells] at hcs
    exact ⟨fun _ => [], by omega, fun k hk => by omega⟩
  · simp [Value.cells] at hcs
    obtain ⟨rfl, rfl, rfl⟩ := hcs
    have hex : ∀ k, ∃ xs : List Nat, k < len → ∃ ad', some ad = some ad' ∧ ad'.block < w.heap.size ∧ w.cell? (ad'.add k) = some (.slice (A k) xs.length (C k)) ∧ RB w (A k) xs.length xs ∧ xs.length ≤ C k ∧ C k ≤ maxLen ∧ (A k = none → C k = 0) := fun k => by
      by_cases hk : k < len
      · obtain ⟨r0, r1, r2, r3, r4, r5, r6⟩ := hrow k (by omega)
        obtain ⟨xs, h1, h2, h3, h4⟩ := rb_of_row (row_isRow' r1 r2 r3 r4 r5 fun a' ha c hc => (r6 a' ha).2 c hc)
        refine ⟨xs, fun _ => ⟨ad, rfl, ?_, ?_, ?_, ?_, h4, h2⟩⟩
        · have := lt_of_cell r0
          rwa [block_add] at this
        · rw [h1.1]; exact r0
        · rw [h1.1]; exact h1
        · rw [h1.1]; exact r1
      · exact ⟨[], fun h => absurd h hk⟩
    refine ⟨fun k => Classical.choose (hex k), by omega, fun k hk => ?_⟩
    obtain ⟨ad', h1, h2⟩ := Classical.choose_spec (hex k) hk
    exact ⟨ad', A k, C k, h1, h2⟩
end
end Go.Proofs.YtadhjgopekekgaaDoor
