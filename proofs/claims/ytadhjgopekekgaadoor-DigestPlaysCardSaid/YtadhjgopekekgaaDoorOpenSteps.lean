/- A list of structs of two integers and a list of bytes that came in. -/
import Derived.Test.YtadhjgopekekgaaDoorRowsF
import Derived.Deep.Slices
namespace Go.Proofs.YtadhjgopekekgaaDoor
open Go.ChangeShapes Go.WideShapes Go.RowKit
/-- The list at P holds N steps: number k is of kind kd k, means hd k, and brings the bytes X k. -/
def StepsAt (w : World) (P : Option Addr) (N : Nat) (kd hd : Nat → Int) (X : Nat → List Nat) : Prop :=
  N ≤ maxLen ∧ ∀ k, k < N → ∃ b o A C, P = some ⟨b, o, none⟩ ∧ b < w.heap.size ∧ w.cell? ⟨b, o + k * 3, none⟩ = some (.int .i64 (kd k)) ∧ w.cell? ⟨b, o + k * 3 + 1, none⟩ = some (.int .i64 (hd k)) ∧ w.cell? ⟨b, o + k * 3 + 2, none⟩ = some (.slice A (X k).length C) ∧
    RB w A (X k).length (X k) ∧ (X k).length ≤ C ∧ C ≤ maxLen ∧ (A = none → C = 0) ∧ -9223372036854775808 ≤ hd k ∧ hd k ≤ 9223372036854775807
theorem StepsAt.below {w w' : World} {P : Option Addr} {N : Nat} {kd hd : Nat → Int} {X : Nat → List Nat} (h : StepsAt w P N kd hd X) (hb : Below w.heap.size w w') : StepsAt w' P N kd hd X := ⟨h.1, fun k hk => by
  obtain ⟨b, o, A, C, h1, h2, h3, h4, h5, h6, h7⟩ := h.2 k hk
  have hc : ∀ j v, w.cell? ⟨b, j, none⟩ = some v → w'.cell? ⟨b, j, none⟩ = some v := fun j v hv => by
    exact (hb.cell (p := ⟨b, j, none⟩) h2).trans hv
  exact ⟨b, o, A, C, h1, Nat.lt_of_lt_of_le h2 hb.size, hc _ _ h3, hc _ _ h4, hc _ _ h5, h6.below hb, h7⟩⟩
section
variable {H : Type} {enc : TypeId × Value → H} {P : Program} {w : World} {base : Nat} {held : Bool}
theorem plain_addr {w : World} {ad : Addr} {k : IntKind} {n : Int} (h : w.cell? ad = some (.int k n)) : ∃ b o, ad = ⟨b, o, none⟩ := by
  obtain ⟨b, o, s⟩ := ad
  cases s with
  | none => exact ⟨b, o, rfl⟩
  | some z =>
    simp [World.cell?] at h
    split at h <;> simp at h
theorem open_steps {t e q : TypeId} {v : Value} {d : DataW H} {ps : List MemPlace} {a : Option Addr} {len cap : Nat} {fs : Array Field} {f0 f1 f2 : Field} (ht : P.underlying t = some (.slice e)) (he : P.underlying e = some (.struct fs))
    (h0 : fs[0]? = some f0) (h1 : fs[1]? = some f1) (h2 : fs[2]? = some f2) (o0 : f0.offset = 0) (o1 : f1.offset = 1) (o2 : f2.offset = 2) (k0 : P.cellsOf f0.type = 1) (k1 : P.cellsOf f1.type = 1) (k2 : P.cellsOf f2.type = 1)
    (u0 : P.underlying f0.type = some (.int .i64)) (u1 : P.underlying f1.type = some (.int .i64)) (u2 : P.underlying f2.type = some (.slice q)) (hq : P.underlying q = some (.int .u8))
    (ce : P.cellsOf e = 3) (cq : P.cellsOf q = 1) (hv : v = .slice a len cap) (h : DataW.Trod enc P w base (fun _ => true) held t v d ps) : ∃ kd hd X, StepsAt w a len kd hd X := by
  subst hv
  obtain ⟨fuel, hf⟩ := h
  rcases Deep.open_slice ht hf with ⟨hcs, _⟩ | ⟨ad, l, c, m, n, D, Pl, hcs, _, hl, hm, hmm, hx, hrow⟩
  · simp [Value.cells] at hcs
    obtain ⟨rfl, rfl, rfl⟩ := hcs
    exact ⟨fun _ => 0, fun _ => 0, fun _ => [], by omega, fun k hk => by omega⟩
  · simp [Value.cells] at hcs
    obtain ⟨rfl, rfl, rfl⟩ := hcs
    simp only [if_true] at hmm
    subst hmm
    rw [ce] at hrow
    rcases Nat.eq_zero_or_pos len with hz0 | hpos
    · subst hz0
      exact ⟨fun _ => 0, fun _ => 0, fun _ => [], by omega, fun k hk => by omega⟩
    obtain ⟨b, o, eb⟩ : ∃ b o, ad = ⟨b, o, none⟩ := by
      obtain ⟨cs, g1, g2⟩ := hrow 0 (by omega)
      obtain ⟨_, g3, g4⟩ := World.cells?_some g1
      obtain ⟨xs, n', _, _, _, hxl, hg⟩ := DataW.trod_struct he g2
      have hfs : 2 < fs.size := (Array.getElem?_eq_some_iff.1 h2).1
      have e0 := hg 0 f0 h0
      rw [o0, k0, List.getElem?_eq_getElem (by omega)] at e0
      obtain ⟨a0, q0, _, w0⟩ := DataW.trod_int u0 e0
      have h5 := g4 0 (by omega)
      have h6 : ((cs.drop 0).take 1)[0]? = some (.int .i64 a0) := by rw [q0]; rfl
      rw [List.getElem?_take, if_pos (by omega), List.getElem?_drop, Nat.add_zero] at h6
      rw [h6] at h5
      rw [show ad.add (0 * 3) = ad by simp [Addr.add], show ad.add 0 = ad by simp [Addr.add]] at h5
      exact plain_addr h5
    subst eb
    have each : ∀ k, k < len → ∃ y : Int × Int × List Nat, ∃ b' o' A C, (some ⟨b, o, none⟩ : Option Addr) = some ⟨b', o', none⟩ ∧ b' < w.heap.size ∧ w.cell? ⟨b', o' + k * 3, none⟩ = some (.int .i64 y.1) ∧ w.cell? ⟨b', o' + k * 3 + 1, none⟩ = some (.int .i64 y.2.1) ∧ w.cell? ⟨b', o' + k * 3 + 2, none⟩ = some (.slice A y.2.2.length C) ∧
        RB w A y.2.2.length y.2.2 ∧ y.2.2.length ≤ C ∧ C ≤ maxLen ∧ (A = none → C = 0) ∧ -9223372036854775808 ≤ y.2.1 ∧ y.2.1 ≤ 9223372036854775807 := fun k hk => by
      obtain ⟨cs, g1, g2⟩ := hrow k (by omega)
      obtain ⟨_, g3, g4⟩ := World.cells?_some g1
      obtain ⟨xs, n', _, _, _, hxl, hg⟩ := DataW.trod_struct he g2
      have hfs : 2 < fs.size := (Array.getElem?_eq_some_iff.1 h2).1
      have e0 := hg 0 f0 h0
      have e1 := hg 1 f1 h1
      have e2 := hg 2 f2 h2
      rw [o0, k0, List.getElem?_eq_getElem (by omega)] at e0
      rw [o1, k1, List.getElem?_eq_getElem (by omega)] at e1
      rw [o2, k2, List.getElem?_eq_getElem (by omega)] at e2
      obtain ⟨a0, q0, _, w0⟩ := DataW.trod_int u0 e0
      obtain ⟨a1, q1, _, w1⟩ := DataW.trod_int u1 e1
      have at_ : ∀ j u, j < 3 → (cs.drop j).take 1 = [u] → w.cell? (((⟨b, o, none⟩ : Addr).add (k * 3)).add j) = some u := fun j u hj hu => by
        rw [g4 j hj]
        have : ((cs.drop j).take 1)[0]? = some u := by rw [hu]; rfl
        rwa [List.getElem?_take, if_pos (by omega), List.getElem?_drop, Nat.add_zero] at this
      have c0 := at_ 0 _ (by omega) q0
      have c1 := at_ 1 _ (by omega) q1
      rw [add_lit, add_lit, Nat.add_zero] at c0
      rw [add_lit, add_lit] at c1
      have hblk : b < w.heap.size := lt_of_cell c0
      have row : ∃ A L C, (cs.drop 2).take 1 = [.slice A L C] ∧ ∃ zs, IsRow .u8 w A L C zs := by
        rcases open_ints u2 hq cq e2 with ⟨hcs, _⟩ | ⟨x, l, c, zs, hcs, _, hl, hm, hz, hxx, hcell, hwz⟩
        · exact ⟨none, 0, 0, hcs, [], .inl ⟨rfl, rfl, rfl, rfl⟩⟩
        · exact ⟨some x, l, c, hcs, zs, .inr ⟨x, rfl, hl, hm, by simpa using hz, hcell, hwz⟩⟩
      obtain ⟨A, L, C, q2, zs, hzs⟩ := row
      obtain ⟨xs', r1, r2, r3, r4⟩ := rb_of_row hzs
      have c2 := at_ 2 _ (by omega) q2
      rw [add_lit, add_lit] at c2
      obtain rfl : xs'.length = L := r1.1
      have hb1 := wf_i64_bounds w1
      exact ⟨(a0, a1, xs'), b, o, A, C, rfl, hblk, c0, c1, c2, r1, r3, r4, r2, hb1.1, hb1.2⟩
    obtain ⟨y, hy⟩ := Deep.choose_lt each
    exact ⟨fun k => (y k).1, fun k => (y k).2.1, fun k => (y k).2.2, by omega, hy⟩
end
end Go.Proofs.YtadhjgopekekgaaDoor
