/- A superblock that came in by value: its five numbers, and that it reads the same afterwards. -/
import Derived.Test.YtbjbpgbpefkbhaaDoorChecked
import Derived.WalkKit
import Derived.ProofKit
import Derived.OpenShut
import Derived.ChangeSame
namespace Go.Proofs.YtbjbpgbpefkbhaaDoor
open Go.ChangeShapes Go.WideShapes Go.ChangeAt Go.RowKit
section
variable {H : Type} {enc : TypeId × Value → H} {P : Program} {w : World} {base : Nat} {spare : Nat → Bool} {held : Bool}
theorem open_five {r : Reach} {b0 : Nat} {t e : TypeId} {k : IntKind} {f0 f1 f2 f3 f4 : Field} {v : Value} {d : DataW H} {ps : List MemPlace} (hs : P.underlying t = some (.struct #[f0, f1, f2, f3, f4])) (he : P.underlying e = some (.int k))
    (h0 : f0.type = e ∧ f0.offset = 0) (h1 : f1.type = e ∧ f1.offset = 1) (h2 : f2.type = e ∧ f2.offset = 2) (h3 : f3.type = e ∧ f3.offset = 3) (h4 : f4.type = e ∧ f4.offset = 4) (hc : P.cellsOf e = 1) (hC : P.cellsOf t = 5)
    (hv : Value.okWide P w r b0 t v) (h : DataW.Trod enc P w base spare held t v d ps) :
    ∃ a b c g p : Int, v = .agg #[.int k a, .int k b, .int k c, .int k g, .int k p] ∧ d = .agg [.lit (.int k a), .lit (.int k b), .lit (.int k c), .lit (.int k g), .lit (.int k p)] ∧ ps = [] ∧
      (Lit.int k a).wf = true ∧ (Lit.int k b).wf = true ∧ (Lit.int k c).wf = true ∧ (Lit.int k g).wf = true ∧ (Lit.int k p).wf = true := by
  obtain ⟨cs, rfl, hsz⟩ := okWide_struct hs hv
  obtain ⟨l⟩ := cs
  match l, hsz.trans hC with
  | [x0, x1, x2, x3, x4], _ =>
    obtain ⟨fuel, hf⟩ := h
    obtain ⟨ys, n, _, hx, _, hlen, hg⟩ := DataW.trod_struct hs hf
    match ys, hlen with
    | [y0, y1, y2, y3, y4], _ =>
      have g0 := hg 0 f0 rfl
      have g1 := hg 1 f1 rfl
      have g2 := hg 2 f2 rfl
      have g3 := hg 3 f3 rfl
      have g4 := hg 4 f4 rfl
      rw [h0.1, h0.2, hc] at g0
      rw [h1.1, h1.2, hc] at g1
      rw [h2.1, h2.2, hc] at g2
      rw [h3.1, h3.2, hc] at g3
      rw [h4.1, h4.2, hc] at g4
      simp [Value.cells] at g0 g1 g2 g3 g4
      obtain ⟨a, e0, q0, wa⟩ := DataW.trod_int he g0
      obtain ⟨b, e1, q1, wb⟩ := DataW.trod_int he g1
      obtain ⟨c, e2, q2, wc⟩ := DataW.trod_int he g2
      obtain ⟨g, e3, q3, wg⟩ := DataW.trod_int he g3
      obtain ⟨p, e4, q4, wp⟩ := DataW.trod_int he g4
      simp at e0 e1 e2 e3 e4
      subst e0 e1 e2 e3 e4 q0 q1 q2 q3 q4
      simp only [Prod.mk.injEq] at hx
      exact ⟨a, b, c, g, p, rfl, by simpa using hx.1, by simpa using hx.2, wa, wb, wc, wg, wp⟩
theorem shut_five {t e : TypeId} {k : IntKind} {f0 f1 f2 f3 f4 : Field} {a b c g p : Int} (hs : P.underlying t = some (.struct #[f0, f1, f2, f3, f4])) (he : P.underlying e = some (.int k))
    (h0 : f0.type = e ∧ f0.offset = 0) (h1 : f1.type = e ∧ f1.offset = 1) (h2 : f2.type = e ∧ f2.offset = 2) (h3 : f3.type = e ∧ f3.offset = 3) (h4 : f4.type = e ∧ f4.offset = 4) (hc : P.cellsOf e = 1) (hC : P.cellsOf t = 5)
    (wa : (Lit.int k a).wf = true) (wb : (Lit.int k b).wf = true) (wc : (Lit.int k c).wf = true) (wg : (Lit.int k g).wf = true) (wp : (Lit.int k p).wf = true) :
    DataW.Trod enc P w base spare held t (.agg #[.int k a, .int k b, .int k c, .int k g, .int k p]) (.agg [.lit (.int k a), .lit (.int k b), .lit (.int k c), .lit (.int k g), .lit (.int k p)]) [] := by
  refine ⟨2, ?_⟩
  have := trod_struct_mk (enc := enc) (w := w) (base := base) (spare := spare) (held := held) (n := 1) (cs := [.int k a, .int k b, .int k c, .int k g, .int k p])
    (xs := [(.lit (.int k a), []), (.lit (.int k b), []), (.lit (.int k c), []), (.lit (.int k g), []), (.lit (.int k p), [])]) hs (by simp [hC]) (by
      simp [h0.1, h0.2, h1.1, h1.2, h2.1, h2.2, h3.1, h3.2, h4.1, h4.2, hc, trod_int_mk 0 he wa, trod_int_mk 0 he wb, trod_int_mk 0 he wc, trod_int_mk 0 he wg, trod_int_mk 0 he wp])
  simpa [Value.cells] using this
end
end Go.Proofs.YtbjbpgbpefkbhaaDoor
