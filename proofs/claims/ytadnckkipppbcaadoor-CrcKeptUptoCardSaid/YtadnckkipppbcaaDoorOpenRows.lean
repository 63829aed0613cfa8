/- A list of lists of bytes that came in. -/
import Derived.Test.YtadnckkipppbcaaDoorRows2
import Derived.Deep.Matrix
import Derived.OpenShut
namespace Go.Proofs.YtadnckkipppbcaaDoor
open Go.ChangeShapes Go.WideShapes Go.RowKit
section
variable {H : Type} {enc : TypeId × Value → H} {P : Program} {w : World} {base : Nat} {held : Bool}
theorem row_isRow {A : Option Addr} {L C : Nat} {Z : List Int} (h1 : L ≤ C) (h2 : C ≤ maxLen) (h3 : Z.length = C) (h4 : ∀ n ∈ Z, (Lit.int .u8 n).wf = true) (h5 : A = none → C = 0) (h6 : ∀ a', A = some a' → ∀ c, c < C → w.cell? (a'.add c) = some (.int .u8 (Z.getD c 0))) : IsRow .u8 w A L C Z := by
  rcases A with _ | a
  · have := h5 rfl
    subst this
    exact .inl ⟨rfl, by omega, rfl, List.eq_nil_of_length_eq_zero h3⟩
  · exact .inr ⟨a, rfl, h1, h2, h3, fun i hi => h6 a rfl i (by omega), h4⟩
/-- What is known of a list of lists: each is read, and its letters are counted in its datum. -/
theorem open_rows {t e q : TypeId} {v : Value} {d : DataW H} {ps : List MemPlace} {a : Option Addr} {len cap : Nat} (ht : P.underlying t = some (.slice e)) (he : P.underlying e = some (.slice q)) (hq : P.underlying q = some (.int .u8))
    (ce : P.cellsOf e = 1) (cq : P.cellsOf q = 1) (hv : v = .slice a len cap) (h : DataW.Trod enc P w base (fun _ => true) held t v d ps) :
    len = 0 ∨ ∃ (elems spare : List (DataW H)) (ad : Addr), a = some ad ∧ d = .slice elems spare ∧ elems.length = len ∧ ad.block < w.heap.size ∧
      ∀ k, k < len → ∃ A L C xs, w.cell? (ad.add k) = some (.slice A L C) ∧ RB w A L xs ∧ L ≤ C ∧ (L = 0 ∨ ∃ e1 s1, DataW.slice e1 s1 ∈ elems ∧ L ≤ e1.length) := by
  subst hv
  obtain ⟨fuel, hf⟩ := h
  rcases Deep.open_int_rows ht he hq ce cq hf with ⟨hcs, _⟩ | ⟨ad, l, c, A, L, C, Z, hcs, _, hl, hm, hx, hrow⟩
  · simp [Value.cells] at hcs
    exact .inl hcs.2.1
  · simp [Value.cells] at hcs
    obtain ⟨rfl, rfl, rfl⟩ := hcs
    rcases Nat.eq_zero_or_pos len with h0 | h0
    · exact .inl h0
    · refine .inr ⟨_, _, ad, rfl, congrArg Prod.fst hx, by simp, ?_, fun k hk => ?_⟩
      · have := lt_of_cell (hrow 0 (by omega)).1
        rwa [block_add] at this
      · obtain ⟨r0, r1, r2, r3, r4, r5, r6⟩ := hrow k (by omega)
        obtain ⟨xs, h1, h2, h3, _⟩ := rb_of_row (row_isRow r1 r2 r3 r4 r5 fun a' ha c hc => (r6 a' ha).2 c hc)
        refine ⟨A k, L k, C k, xs, r0, h1, r1, ?_⟩
        cases hA : A k with
        | none => exact .inl (by have := r5 hA; omega)
        | some a' =>
          refine .inr ⟨lits .u8 ((Z k).take (L k)), lits .u8 ((Z k).drop (L k)), ?_, by simp [lits]; omega⟩
          refine List.mem_map.2 ⟨k, List.mem_range.2 hk, ?_⟩
          simp only [Deep.intRow, hA]
end
end Go.Proofs.YtadnckkipppbcaaDoor
