/- An array of bytes that came in by value. -/
import Derived.Test.YtkpbeibcfaenhaaOpen
import Derived.Test.YtkpbeibcfaenhaaArr
import Derived.OpenShut
namespace Go.Proofs.Ytkpbeibcfaenhaa
open Go.ChangeShapes Go.WideShapes Go.RowKit
section
variable {H : Type} {enc : TypeId × Value → H} {P : Program} {w : World} {base : Nat} {spare : Nat → Bool} {held : Bool}
theorem bvs_of : ∀ (cs : List Value), (∀ v ∈ cs, ∃ a : Int, v = .int .u8 a ∧ (Lit.int .u8 a).wf = true) → ∃ ds : List Nat, cs = bvs ds ∧ IsB ds
  | [], _ => ⟨[], rfl, IsB.nil⟩
  | v :: r, h => by
    obtain ⟨ds, rfl, hd⟩ := bvs_of r fun u hu => h u (List.mem_cons_of_mem _ hu)
    obtain ⟨a, rfl, wa⟩ := h v List.mem_cons_self
    have hb := wf_u8_bounds wa
    refine ⟨a.toNat :: ds, ?_, fun x hx => ?_⟩
    · simp only [bvs, List.map_cons, bv]
      congr 2
      omega
    · rcases List.mem_cons.1 hx with rfl | hx
      · omega
      · exact hd x hx
theorem open_arrB {r : Reach} {b0 n : Nat} {t e : TypeId} {v : Value} {d : DataW H} {ps : List MemPlace} (ht : P.underlying t = some (.array n e)) (he : P.underlying e = some (.int .u8)) (hc : P.cellsOf e = 1) (hC : P.cellsOf t = n)
    (hv : Value.okWide P w r b0 t v) (h : DataW.Trod enc P w base spare held t v d ps) : ∃ ds : List Nat, v = .agg (bvs ds).toArray ∧ IsB ds ∧ ds.length = n ∧ ps = [] := by
  simp only [Value.okWide, ht] at hv
  obtain ⟨cs, rfl, hsz, _⟩ := hv
  obtain ⟨l⟩ := cs
  obtain ⟨fuel, hf⟩ := h
  obtain ⟨xs, m, _, hx, _, hlen, hg⟩ := DataW.trod_array ht hf
  have hll : l.length = n := hsz.trans hC
  have key : ∀ i, i < n → ∃ a : Int, l[i]? = some (.int .u8 a) ∧ (Lit.int .u8 a).wf = true ∧ ∃ dd, xs[i]? = some (dd, []) := fun i hi => by
    have g := hg i hi
    rw [hc, Nat.mul_one] at g
    obtain ⟨y, hy⟩ : ∃ y, xs[i]? = some y := ⟨_, List.getElem?_eq_getElem (by omega)⟩
    rw [hy] at g
    obtain ⟨a, e0, q0, wa⟩ := DataW.trod_int he g
    refine ⟨a, ?_, wa, ?_⟩
    · have e1 : ((l.drop i).take 1)[0]? = some (.int .u8 a) := by
        have : (Value.agg (List.toArray l)).cells.toList = l := by simp [Value.cells]
        simp only [Value.cells] at e0
        rw [e0]
        rfl
      rw [List.getElem?_take, if_pos (by omega), List.getElem?_drop] at e1
      simpa using e1
    · exact ⟨_, by rw [hy, q0]⟩
  obtain ⟨ds, hds, hB⟩ := bvs_of l fun v hv => by
    obtain ⟨i, hi, rfl⟩ := List.getElem_of_mem hv
    obtain ⟨a, h1, h2, _⟩ := key i (by omega)
    rw [List.getElem?_eq_getElem hi] at h1
    exact ⟨a, Option.some.inj h1, h2⟩
  subst hds
  refine ⟨ds, rfl, hB, by simpa [bvs] using hll, ?_⟩
  have hx2 : ps = xs.flatMap (·.2) := congrArg Prod.snd hx
  rw [hx2, List.flatMap_eq_nil_iff]
  intro y hy
  obtain ⟨i, hi, rfl⟩ := List.getElem_of_mem hy
  obtain ⟨_, _, _, dd, h3⟩ := key i (by omega)
  rw [List.getElem?_eq_getElem hi] at h3
  rw [Option.some.inj h3]
end
end Go.Proofs.Ytkpbeibcfaenhaa
