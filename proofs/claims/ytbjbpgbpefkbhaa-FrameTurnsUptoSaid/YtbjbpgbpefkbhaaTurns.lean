/- Lists of turns that came in. -/
import Derived.Test.YtbjbpgbpefkbhaaOpen
import Derived.Test.YtbjbpgbpefkbhaaLib2
import Derived.Deep.Slices
import Derived.Deep.MidRow
import Derived.ChangeSame
import Derived.SizedLaws
namespace Go.Proofs.Ytbjbpgbpefkbhaa
open Go.ChangeShapes Go.WideShapes Go.RowKit
structure TurnN where
  rise : Int
  head : Int
  crash : Bool
  kept : Bool
  tail : List Nat
instance : Inhabited TurnN := ⟨⟨0, 0, false, false, []⟩⟩
/-- The cells of a turn whose tail lies at A. -/
def turnC (x : TurnN) (A : Option Addr) (C : Nat) : List Value := [.int .i64 x.rise, .int .i64 x.head, .bool x.crash, .bool x.kept, .slice A x.tail.length C]
def TurnsAt (w : World) (P : Option Addr) (N : Nat) (X : Nat → TurnN) : Prop :=
  N ≤ maxLen ∧ ∀ k, k < N → ∃ b o A C, P = some ⟨b, o, none⟩ ∧ b < w.heap.size ∧ w.rangeAt b (o + k * 5) (turnC (X k) A C) ∧ RB w A (X k).tail.length (X k).tail ∧ (X k).tail.length ≤ C ∧ (Lit.int .i64 (X k).rise).wf = true ∧ (Lit.int .i64 (X k).head).wf = true
theorem range_below {w w' : World} {b o : Nat} {cs : List Value} (hb : Below w.heap.size w w') (h1 : b < w.heap.size) (h : w.rangeAt b o cs) : w'.rangeAt b o cs := fun j v hj => (hb.cell (p := ⟨b, o + j, none⟩) h1).trans (h j v hj)
theorem TurnsAt.below {w w' : World} {P : Option Addr} {N : Nat} {X : Nat → TurnN} (h : TurnsAt w P N X) (hb : Below w.heap.size w w') : TurnsAt w' P N X := ⟨h.1, fun k hk => by
  obtain ⟨b, o, A, C, h1, h2, h3, h4, h5⟩ := h.2 k hk
  exact ⟨b, o, A, C, h1, Nat.lt_of_lt_of_le h2 hb.size, range_below hb h2 h3, h4.below hb, h5⟩⟩
theorem plain_addr {w : World} {ad : Addr} {v : Value} (h : w.cell? ad = some v) : ∃ b o, ad = ⟨b, o, none⟩ := by
  obtain ⟨b, o, s⟩ := ad
  cases s with
  | none => exact ⟨b, o, rfl⟩
  | some z =>
    simp [World.cell?] at h
    split at h <;> simp at h
/-- The rows of a list of structs lie at a plain address. -/
theorem rows_plain {w : World} {ad : Addr} {cs : List Value} {n : Nat} (h0 : 0 < n) (hl : cs.length = n) (h : ∀ i, i < n → w.cell? ((ad.add 0).add i) = cs[i]?) : ∃ b o, ad = ⟨b, o, none⟩ := by
  have h5 := h 0 h0
  rw [List.getElem?_eq_getElem (by omega), show ad.add 0 = ad by simp [Addr.add], show ad.add 0 = ad by simp [Addr.add]] at h5
  exact plain_addr h5
section
variable {H : Type} {enc : TypeId × Value → H} {P : Program} {w : World} {base : Nat} {held : Bool}
/-- Each weight of the datum is at most M. -/
def SizedBy (P : Program) (t : TypeId) (d : DataW H) (M : Nat) : Prop := ∀ y ∈ d.weights P t, y ≤ M
theorem bytes_of {t q : TypeId} {fuel : Nat} {cs : List Value} {x : DataW H × List MemPlace} (ht : P.underlying t = some (.slice q)) (hq : P.underlying q = some (.int .u8)) (cq : P.cellsOf q = 1) (h : DataW.trod enc P w base (fun _ => true) held fuel t cs = some x) :
    ∃ A C xs, cs = [.slice A xs.length C] ∧ RB w A xs.length xs ∧ xs.length ≤ C ∧ C ≤ maxLen ∧ (A = none → C = 0) ∧ ∀ M, SizedBy P t x.1 M → xs.length * P.bytesOf q ≤ M := by
  have row : ∃ A L C, cs = [.slice A L C] ∧ (∃ zs, IsRow .u8 w A L C zs) ∧ ∀ M, SizedBy P t x.1 M → L * P.bytesOf q ≤ M := by
    rcases open_ints ht hq cq h with ⟨hcs, hxx⟩ | ⟨a, l, c, zs, hcs, _, hl, hm, hz, hxx, hcell, hwz⟩
    · exact ⟨none, 0, 0, hcs, ⟨[], .inl ⟨rfl, rfl, rfl, rfl⟩⟩, fun M _ => by omega⟩
    · refine ⟨some a, l, c, hcs, ⟨zs, .inr ⟨a, rfl, hl, hm, by simpa using hz, hcell, hwz⟩⟩, fun M hM => ?_⟩
      have h1 := hM (((zs.take l).length + (zs.drop l).length) * P.bytesOf q) (by rw [hxx]; simp [DataW.weights, ht, lits])
      simp only [if_true] at hz
      refine Nat.le_trans (Nat.mul_le_mul_right _ ?_) h1
      rw [List.length_take, List.length_drop]
      omega
  obtain ⟨A, L, C, hcs, ⟨zs, hzs⟩, hsz⟩ := row
  obtain ⟨xs, r1, r2, r3, r4⟩ := rb_of_row hzs
  obtain rfl : xs.length = L := r1.1
  exact ⟨A, C, xs, hcs, r1, r3, r4, r2, hsz⟩
theorem bool_of {t : TypeId} {fuel : Nat} {cs : List Value} {x : DataW H × List MemPlace} {spare : Nat → Bool} (ht : P.underlying t = some .bool) (h : DataW.trod enc P w base spare held fuel t cs = some x) : ∃ b, cs = [.bool b] := by
  cases fuel with
  | zero => simp [DataW.trod] at h
  | succ n =>
    unfold DataW.trod at h
    rw [ht] at h
    split at h <;> simp_all
/-- A list of turns, opened. -/
theorem turns_of {t e q : TypeId} {fuel : Nat} {cs : List Value} {x : DataW H × List MemPlace} {fs : Array Field} {f0 f1 f2 f3 f4 : Field} (ht : P.underlying t = some (.slice e)) (he : P.underlying e = some (.struct fs))
    (h0 : fs[0]? = some f0) (h1 : fs[1]? = some f1) (h2 : fs[2]? = some f2) (h3 : fs[3]? = some f3) (h4 : fs[4]? = some f4) (o0 : f0.offset = 0) (o1 : f1.offset = 1) (o2 : f2.offset = 2) (o3 : f3.offset = 3) (o4 : f4.offset = 4)
    (k0 : P.cellsOf f0.type = 1) (k1 : P.cellsOf f1.type = 1) (k2 : P.cellsOf f2.type = 1) (k3 : P.cellsOf f3.type = 1) (k4 : P.cellsOf f4.type = 1)
    (u0 : P.underlying f0.type = some (.int .i64)) (u1 : P.underlying f1.type = some (.int .i64)) (u2 : P.underlying f2.type = some .bool) (u3 : P.underlying f3.type = some .bool) (u4 : P.underlying f4.type = some (.slice q)) (hq : P.underlying q = some (.int .u8))
    (ce : P.cellsOf e = 5) (cq : P.cellsOf q = 1) (hf : DataW.trod enc P w base (fun _ => true) held fuel t cs = some x) : ∃ A N C X, cs = [.slice A N C] ∧ TurnsAt w A N X ∧ N ≤ C := by
  rcases Deep.open_slice ht hf with ⟨hcs, _⟩ | ⟨ad, len, cap, m, n, D, Pl, hcs, _, hl, hm, hmm, hx, hrow⟩
  · exact ⟨none, 0, 0, fun _ => default, hcs, ⟨by omega, fun k hk => by omega⟩, Nat.le_refl _⟩
  · simp only [if_true] at hmm
    subst hmm
    rw [ce] at hrow
    rcases Nat.eq_zero_or_pos len with hz0 | hpos
    · subst hz0
      exact ⟨some ad, 0, m, fun _ => default, hcs, ⟨by omega, fun k hk => by omega⟩, hl⟩
    obtain ⟨b, o, eb⟩ : ∃ b o, ad = ⟨b, o, none⟩ := by
      obtain ⟨cs, g1, g2⟩ := hrow 0 (by omega)
      obtain ⟨_, g3, g4⟩ := World.cells?_some g1
      rw [show (0 : Nat) * 5 = 0 from rfl] at g4
      exact rows_plain (by omega) g3 g4
    subst eb
    have each : ∀ k, k < len → ∃ y : TurnN, ∃ b' o' A C, (some ⟨b, o, none⟩ : Option Addr) = some ⟨b', o', none⟩ ∧ b' < w.heap.size ∧ w.rangeAt b' (o' + k * 5) (turnC y A C) ∧
        RB w A y.tail.length y.tail ∧ y.tail.length ≤ C ∧ (Lit.int .i64 y.rise).wf = true ∧ (Lit.int .i64 y.head).wf = true := fun k hk => by
      obtain ⟨cs, g1, g2⟩ := hrow k (by omega)
      obtain ⟨_, g3, g4⟩ := World.cells?_some g1
      obtain ⟨xs, n', _, hDk, _, hxl, hg⟩ := DataW.trod_struct he g2
      have hfs : 4 < fs.size := (Array.getElem?_eq_some_iff.1 h4).1
      have e0 := hg 0 f0 h0
      have e1 := hg 1 f1 h1
      have e2 := hg 2 f2 h2
      have e3 := hg 3 f3 h3
      have e4 := hg 4 f4 h4
      rw [o0, k0, List.getElem?_eq_getElem (by omega)] at e0
      rw [o1, k1, List.getElem?_eq_getElem (by omega)] at e1
      rw [o2, k2, List.getElem?_eq_getElem (by omega)] at e2
      rw [o3, k3, List.getElem?_eq_getElem (by omega)] at e3
      rw [o4, k4, List.getElem?_eq_getElem (by omega)] at e4
      obtain ⟨a0, q0, _, w0⟩ := DataW.trod_int u0 e0
      obtain ⟨a1, q1, _, w1⟩ := DataW.trod_int u1 e1
      obtain ⟨b2, q2⟩ := bool_of u2 e2
      obtain ⟨b3, q3⟩ := bool_of u3 e3
      obtain ⟨A, C, vs, q4, r1, r2, r3, r4, _⟩ := bytes_of u4 hq cq e4
      have hcs : cs = turnC ⟨a0, a1, b2, b3, vs⟩ A C := by
        have a1 : cs = cs.take 1 ++ ((cs.drop 1).take 1 ++ ((cs.drop 2).take 1 ++ ((cs.drop 3).take 1 ++ (cs.drop 4).take 1))) := by
          rw [show cs.drop 4 = (cs.drop 3).drop 1 by rw [List.drop_drop], List.take_of_length_le (l := (cs.drop 3).drop 1) (by simp; omega), List.take_append_drop,
            show cs.drop 3 = (cs.drop 2).drop 1 by rw [List.drop_drop], List.take_append_drop, show cs.drop 2 = (cs.drop 1).drop 1 by rw [List.drop_drop], List.take_append_drop, List.take_append_drop]
        rw [List.drop_zero] at q0
        rw [a1, q0, q1, q2, q3, q4]
        rfl
      have hblk : b < w.heap.size := by
        have h5 := g4 0 (by omega)
        rw [List.getElem?_eq_getElem (by omega)] at h5
        have := lt_of_cell h5
        rwa [block_add, block_add] at this
      refine ⟨⟨a0, a1, b2, b3, vs⟩, b, o, A, C, rfl, hblk, fun j v hj => ?_, r1, r2, w0, w1⟩
      have hjl : j < 5 := by
        have := (List.getElem?_eq_some_iff.1 hj).1
        rw [← hcs] at this
        omega
      have h5 := g4 j hjl
      rw [add_lit, add_lit] at h5
      rw [h5, hcs]
      exact hj
    obtain ⟨X, hX⟩ := Deep.choose_lt each
    exact ⟨some ⟨b, o, none⟩, len, m, X, hcs, ⟨by omega, hX⟩, hl⟩
end
end Go.Proofs.Ytbjbpgbpefkbhaa
