/- A list of keys that came in. -/
import Derived.Test.YtfnlhfaihoojfaaDoorOpenArr
import Derived.Test.YtfnlhfaihoojfaaDoorKeysL
import Derived.Deep.Slices
namespace Go.Proofs.YtfnlhfaihoojfaaDoor
open Go.ChangeShapes Go.WideShapes Go.RowKit
section
variable {H : Type} {enc : TypeId × Value → H} {P : Program} {w : World} {base : Nat} {spare : Nat → Bool} {held : Bool}
theorem arr_cells {n fuel : Nat} {t e : TypeId} {cs : List Value} {x : DataW H × List MemPlace} (ht : P.underlying t = some (.array n e)) (he : P.underlying e = some (.int .u8)) (hc : P.cellsOf e = 1) (hll : cs.length = n)
    (hf : DataW.trod enc P w base spare held fuel t cs = some x) : ∃ ds : List Nat, cs = bvs ds ∧ IsB ds ∧ ds.length = n := by
  obtain ⟨xs, m, _, hx, _, hlen, hg⟩ := DataW.trod_array ht hf
  obtain ⟨ds, rfl, hB⟩ := bvs_of cs fun v hv => by
    obtain ⟨i, hi, rfl⟩ := List.getElem_of_mem hv
    have g := hg i (by omega)
    rw [hc, Nat.mul_one, List.getElem?_eq_getElem (by omega)] at g
    obtain ⟨a, e0, q0, wa⟩ := DataW.trod_int he g
    have e1 : ((cs.drop i).take 1)[0]? = some (.int .u8 a) := by rw [e0]; rfl
    rw [List.getElem?_take, if_pos (by omega), List.getElem?_drop] at e1
    rw [Nat.add_zero, List.getElem?_eq_getElem hi] at e1
    exact ⟨a, Option.some.inj e1, wa⟩
  exact ⟨ds, rfl, hB, by simpa [bvs] using hll⟩
theorem open_keys {t e q : TypeId} {v : Value} {d : DataW H} {ps : List MemPlace} {a : Option Addr} {len cap : Nat} (ht : P.underlying t = some (.slice e)) (he : P.underlying e = some (.array 32 q)) (hq : P.underlying q = some (.int .u8))
    (ce : P.cellsOf e = 32) (cq : P.cellsOf q = 1) (hv : v = .slice a len cap) (h : DataW.Trod enc P w base (fun _ => true) held t v d ps) :
    ∃ X, KBs w a len X ∧ (a = none → len = 0 ∧ cap = 0) ∧ (len = 0 ∨ ∃ elems rest, d = .slice elems rest ∧ elems.length = len) := by
  subst hv
  obtain ⟨fuel, hf⟩ := h
  rcases Deep.open_slice ht hf with ⟨hcs, _⟩ | ⟨ad, l, c, m, n, D, Pl, hcs, _, hl, hm, hmm, hx, hrow⟩
  · simp [Value.cells] at hcs
    obtain ⟨rfl, rfl, rfl⟩ := hcs
    exact ⟨fun _ => [], fun k hk => by omega, fun _ => ⟨rfl, rfl⟩, .inl rfl⟩
  · simp [Value.cells] at hcs
    obtain ⟨rfl, rfl, rfl⟩ := hcs
    simp only [if_true] at hmm
    subst hmm
    rw [ce] at hrow
    have each : ∀ k, k < len → ∃ ds, IsB ds ∧ ds.length = 32 ∧ RB w (some (ad.add (k * 32))) 32 ds := fun k hk => by
      obtain ⟨cs, h1, h2⟩ := hrow k (by omega)
      obtain ⟨_, h3, h4⟩ := World.cells?_some h1
      obtain ⟨ds, rfl, hB, hdl⟩ := arr_cells he hq cq h3 h2
      refine ⟨ds, hB, hdl, hdl, hB, fun _ => ⟨_, rfl, ?_, fun j y hj => ?_⟩⟩
      · have h5 := h4 0 (by omega)
        rw [show (bvs ds)[0]? = some (bv (ds.getD 0 0)) by simp [bvs, List.getD, show 0 < ds.length by omega]] at h5
        have := lt_of_cell h5
        rwa [block_add] at this
      · have hj2 : j < 32 := by
          have := (List.getElem?_eq_some_iff.1 hj).1
          omega
        rw [h4 j hj2]
        simp [bvs, hj, bv]
    obtain ⟨X, hX⟩ := Deep.choose_lt each
    refine ⟨X, fun k hk => ?_, fun e => (by cases e), .inr ⟨_, _, congrArg Prod.fst hx, by simp⟩⟩
    obtain ⟨h1, h2, h3⟩ := hX k hk
    obtain ⟨b, o, s⟩ := ad
    have hs : s = none := by
      obtain ⟨_, _, h6⟩ := hX 0 (by omega)
      obtain ⟨ad', e1, _, h7⟩ := h6.2.2 (by omega)
      injection e1 with e1
      subst e1
      have h8 := h7 0 _ (getD_of_lt (by rw [h6.1]; omega))
      cases s with
      | none => rfl
      | some z =>
        simp [Addr.add, World.cell?] at h8
        split at h8 <;> simp at h8
    subst hs
    refine ⟨h1, h2, b, o, rfl, ?_⟩
    rwa [add_lit] at h3
end
end Go.Proofs.YtfnlhfaihoojfaaDoor
