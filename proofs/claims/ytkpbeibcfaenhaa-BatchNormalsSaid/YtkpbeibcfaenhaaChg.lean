/- Lists of changes that came in. -/
import Derived.Test.YtkpbeibcfaenhaaMem
import Derived.Test.YtkpbeibcfaenhaaOpen
import Derived.Test.YtkpbeibcfaenhaaOpenArr
import Derived.Deep.Slices
import Derived.ChangeSame
import Derived.SizedLaws
namespace Go.Proofs.Ytkpbeibcfaenhaa
open Go.ChangeShapes Go.WideShapes Go.RowKit
structure Chg where
  key : List Nat
  del : Bool
  val : List Nat
instance : Inhabited Chg := ⟨⟨[], false, []⟩⟩
/-- The cells of a change whose value lies at A. -/
def chC (x : Chg) (A : Option Addr) (C : Nat) : List Value := bvs x.key ++ [.bool x.del, .slice A x.val.length C]
/-- The list at P holds N changes. -/
def ChsAt (w : World) (P : Option Addr) (N : Nat) (X : Nat → Chg) : Prop :=
  N ≤ maxLen ∧ ∀ k, k < N → ∃ b o A C, P = some ⟨b, o, none⟩ ∧ b < w.heap.size ∧ w.rangeAt b (o + k * 34) (chC (X k) A C) ∧ IsB (X k).key ∧ (X k).key.length = 32 ∧
    RB w A (X k).val.length (X k).val ∧ (X k).val.length ≤ C ∧ C ≤ maxLen ∧ (A = none → C = 0)
theorem range_below {w w' : World} {b o : Nat} {cs : List Value} (hb : Below w.heap.size w w') (h1 : b < w.heap.size) (h : w.rangeAt b o cs) : w'.rangeAt b o cs := fun j v hj => (hb.cell (p := ⟨b, o + j, none⟩) h1).trans (h j v hj)
theorem ChsAt.below {w w' : World} {P : Option Addr} {N : Nat} {X : Nat → Chg} (h : ChsAt w P N X) (hb : Below w.heap.size w w') : ChsAt w' P N X := ⟨h.1, fun k hk => by
  obtain ⟨b, o, A, C, h1, h2, h3, h4, h5, h6, h7⟩ := h.2 k hk
  exact ⟨b, o, A, C, h1, Nat.lt_of_lt_of_le h2 hb.size, range_below hb h2 h3, h4, h5, h6.below hb, h7⟩⟩
theorem plain_addr {w : World} {ad : Addr} {v : Value} (h : w.cell? ad = some v) : ∃ b o, ad = ⟨b, o, none⟩ := by
  obtain ⟨b, o, s⟩ := ad
  cases s with
  | none => exact ⟨b, o, rfl⟩
  | some z =>
    simp [World.cell?] at h
    split at h <;> simp at h
/-- The rows of a list of structs lie at a plain address. -/
theorem rows_plain {w : World} {ad : Addr} {cs : List Value} {n : Nat} (h0 : 0 < n) (hl : cs.length = n) (h : ∀ i, i < n → w.cell? ((ad.add 0).add i) = cs[i]?) : ∃ b o, ad = ⟨b, o, none⟩ := by
  have h5 := h 0 h0
  rw [List.getElem?_eq_getElem (by omega), show ad.add 0 = ad by simp [Addr.add], show ad.add 0 = ad by simp [Addr.add]] at h5
  exact plain_addr h5
section
variable {H : Type} {enc : TypeId × Value → H} {P : Program} {w : World} {base : Nat} {held : Bool}
theorem arr_of {spare : Nat → Bool} {n fuel : Nat} {t e : TypeId} {cs : List Value} {x : DataW H × List MemPlace} (ht : P.underlying t = some (.array n e)) (he : P.underlying e = some (.int .u8)) (hc : P.cellsOf e = 1) (hll : cs.length = n)
    (hf : DataW.trod enc P w base spare held fuel t cs = some x) : ∃ ds : List Nat, cs = bvs ds ∧ IsB ds ∧ ds.length = n := by
  obtain ⟨xs, m, _, hx, _, hlen, hg⟩ := DataW.trod_array ht hf
  obtain ⟨ds, rfl, hB⟩ := bvs_of cs fun v hv => by
    obtain ⟨i, hi, rfl⟩ := List.getElem_of_mem hv
    have g := hg i (by omega)
    rw [hc, Nat.mul_one, List.getElem?_eq_getElem (by omega)] at g
    obtain ⟨a, e0, q0, wa⟩ := DataW.trod_int he g
    have e1 : ((cs.drop i).take 1)[0]? = some (.int .u8 a) := by rw [e0]; rfl
    rw [List.getElem?_take, if_pos (by omega), List.getElem?_drop] at e1
    rw [Nat.add_zero, List.getElem?_eq_getElem hi] at e1
    exact ⟨a, Option.some.inj e1, wa⟩
  exact ⟨ds, rfl, hB, by simpa [bvs] using hll⟩
theorem weights_all {P : Program} {e : TypeId} {d : DataW H} : ∀ {l : List (DataW H)}, d ∈ l → ∀ y ∈ d.weights P e, y ∈ DataW.weightsAll P e l
  | [], h, _, _ => by cases h
  | a :: r, h, y, hy => by
    simp only [DataW.weightsAll, List.mem_append]
    rcases List.mem_cons.1 h with rfl | h
    · exact .inl hy
    · exact .inr (weights_all h y hy)
/-- Each weight of the datum is at most M. -/
def SizedBy (P : Program) (t : TypeId) (d : DataW H) (M : Nat) : Prop := ∀ y ∈ d.weights P t, y ≤ M
theorem bytes_of {t q : TypeId} {fuel : Nat} {cs : List Value} {x : DataW H × List MemPlace} (ht : P.underlying t = some (.slice q)) (hq : P.underlying q = some (.int .u8)) (cq : P.cellsOf q = 1) (h : DataW.trod enc P w base (fun _ => true) held fuel t cs = some x) :
    ∃ A C xs, cs = [.slice A xs.length C] ∧ RB w A xs.length xs ∧ xs.length ≤ C ∧ C ≤ maxLen ∧ (A = none → C = 0) ∧ ∀ M, SizedBy P t x.1 M → xs.length * P.bytesOf q ≤ M := by
  have row : ∃ A L C, cs = [.slice A L C] ∧ (∃ zs, IsRow .u8 w A L C zs) ∧ ∀ M, SizedBy P t x.1 M → L * P.bytesOf q ≤ M := by
    rcases open_ints ht hq cq h with ⟨hcs, hxx⟩ | ⟨a, l, c, zs, hcs, _, hl, hm, hz, hxx, hcell, hwz⟩
    · exact ⟨none, 0, 0, hcs, ⟨[], .inl ⟨rfl, rfl, rfl, rfl⟩⟩, fun M _ => by omega⟩
    · refine ⟨some a, l, c, hcs, ⟨zs, .inr ⟨a, rfl, hl, hm, by simpa using hz, hcell, hwz⟩⟩, fun M hM => ?_⟩
      have h1 := hM (((zs.take l).length + (zs.drop l).length) * P.bytesOf q) (by rw [hxx]; simp [DataW.weights, ht, lits])
      simp only [if_true] at hz
      refine Nat.le_trans (Nat.mul_le_mul_right _ ?_) h1
      rw [List.length_take, List.length_drop]
      omega
  obtain ⟨A, L, C, hcs, ⟨zs, hzs⟩, hsz⟩ := row
  obtain ⟨xs, r1, r2, r3, r4⟩ := rb_of_row hzs
  obtain rfl : xs.length = L := r1.1
  exact ⟨A, C, xs, hcs, r1, r3, r4, r2, hsz⟩
theorem bool_of {t : TypeId} {fuel : Nat} {cs : List Value} {x : DataW H × List MemPlace} {spare : Nat → Bool} (ht : P.underlying t = some .bool) (h : DataW.trod enc P w base spare held fuel t cs = some x) : ∃ b, cs = [.bool b] := by
  cases fuel with
  | zero => simp [DataW.trod] at h
  | succ n =>
    unfold DataW.trod at h
    rw [ht] at h
    split at h <;> simp_all
/-- A list of changes, opened. -/
theorem chs_of {t e q : TypeId} {fuel : Nat} {cs : List Value} {x : DataW H × List MemPlace} {fs : Array Field} {f0 f1 f2 : Field} {tb : TypeId} (ht : P.underlying t = some (.slice e)) (he : P.underlying e = some (.struct fs))
    (h0 : fs[0]? = some f0) (h1 : fs[1]? = some f1) (h2 : fs[2]? = some f2) (o0 : f0.offset = 0) (o1 : f1.offset = 32) (o2 : f2.offset = 33) (k0 : P.cellsOf f0.type = 32) (k1 : P.cellsOf f1.type = 1) (k2 : P.cellsOf f2.type = 1)
    (u0 : P.underlying f0.type = some (.array 32 tb)) (u1 : P.underlying f1.type = some .bool) (u2 : P.underlying f2.type = some (.slice q)) (hb : P.underlying tb = some (.int .u8)) (cb : P.cellsOf tb = 1) (hq : P.underlying q = some (.int .u8))
    (ce : P.cellsOf e = 34) (cq : P.cellsOf q = 1) (hf : DataW.trod enc P w base (fun _ => true) held fuel t cs = some x) : ∃ A N C X, cs = [.slice A N C] ∧ ChsAt w A N X ∧ N ≤ C ∧ C ≤ maxLen ∧ (A = none → C = 0) ∧ ∀ M, SizedBy P t x.1 M → N * P.bytesOf e ≤ M ∧ ∀ k, k < N → (X k).val.length * P.bytesOf q ≤ M := by
  rcases Deep.open_slice ht hf with ⟨hcs, _⟩ | ⟨ad, len, cap, m, n, D, Pl, hcs, _, hl, hm, hmm, hx, hrow⟩
  · exact ⟨none, 0, 0, fun _ => ⟨[], false, []⟩, hcs, ⟨by omega, fun k hk => by omega⟩, Nat.le_refl _, by simp [maxLen], fun _ => rfl, fun M _ => ⟨by omega, fun k hk => by omega⟩⟩
  · simp only [if_true] at hmm
    subst hmm
    rw [ce] at hrow
    rcases Nat.eq_zero_or_pos len with hz0 | hpos
    · subst hz0
      exact ⟨some ad, 0, m, fun _ => ⟨[], false, []⟩, hcs, ⟨by omega, fun k hk => by omega⟩, hl, hm, (fun h => by cases h), fun M _ => ⟨by omega, fun k hk => by omega⟩⟩
    obtain ⟨b, o, eb⟩ : ∃ b o, ad = ⟨b, o, none⟩ := by
      obtain ⟨cs, g1, g2⟩ := hrow 0 (by omega)
      obtain ⟨_, g3, g4⟩ := World.cells?_some g1
      rw [show (0 : Nat) * 34 = 0 from rfl] at g4
      exact rows_plain (by omega) g3 g4
    subst eb
    have each : ∀ k, k < len → ∃ y : Chg, ∃ b' o' A C, (some ⟨b, o, none⟩ : Option Addr) = some ⟨b', o', none⟩ ∧ b' < w.heap.size ∧ w.rangeAt b' (o' + k * 34) (chC y A C) ∧ IsB y.key ∧ y.key.length = 32 ∧
        RB w A y.val.length y.val ∧ y.val.length ≤ C ∧ C ≤ maxLen ∧ (A = none → C = 0) ∧ ∀ M, SizedBy P e (D k) M → y.val.length * P.bytesOf q ≤ M := fun k hk => by
      obtain ⟨cs, g1, g2⟩ := hrow k (by omega)
      obtain ⟨_, g3, g4⟩ := World.cells?_some g1
      obtain ⟨xs, n', _, hDk, _, hxl, hg⟩ := DataW.trod_struct he g2
      have hfs : 2 < fs.size := (Array.getElem?_eq_some_iff.1 h2).1
      have e0 := hg 0 f0 h0
      have e1 := hg 1 f1 h1
      have e2 := hg 2 f2 h2
      rw [o0, k0, List.getElem?_eq_getElem (by omega)] at e0
      rw [o1, k1, List.getElem?_eq_getElem (by omega)] at e1
      rw [o2, k2, List.getElem?_eq_getElem (by omega)] at e2
      obtain ⟨ds, q0, hB, hdl⟩ := arr_of u0 hb cb (by rw [List.length_take, List.length_drop]; omega) e0
      obtain ⟨bl, q1⟩ := bool_of u1 e1
      obtain ⟨A, C, vs, q2, r1, r2, r3, r4, r5⟩ := bytes_of u2 hq cq e2
      have hszk : ∀ M, SizedBy P e (D k) M → vs.length * P.bytesOf q ≤ M := fun M hM => r5 M fun y hy => hM y (by
        rw [show D k = .agg (xs.map (·.1)) from congrArg Prod.fst hDk]
        simp only [DataW.weights, he]
        refine DataW.weights_mem_each (j := 2) (t := f2.type) (d := xs[2].1) ?_ ?_ y hy
        · rw [List.getElem?_map, Array.getElem?_toList, h2]
          rfl
        · rw [List.getElem?_map, List.getElem?_eq_getElem (by omega)]
          rfl)
      have hcs : cs = chC ⟨ds, bl, vs⟩ A C := by
        have a1 : cs = cs.take 32 ++ ((cs.drop 32).take 1 ++ (cs.drop 33).take 1) := by
          rw [show (cs.drop 33) = (cs.drop 32).drop 1 by rw [List.drop_drop], List.take_of_length_le (l := (cs.drop 32).drop 1) (by simp; omega), List.take_append_drop, List.take_append_drop]
        rw [List.drop_zero] at q0
        rw [a1, q0, q1, q2]
        rfl
      have hblk : b < w.heap.size := by
        have h5 := g4 0 (by omega)
        rw [List.getElem?_eq_getElem (by omega)] at h5
        have := lt_of_cell h5
        rwa [block_add, block_add] at this
      refine ⟨⟨ds, bl, vs⟩, b, o, A, C, rfl, hblk, fun j v hj => ?_, hB, hdl, r1, r2, r3, r4, hszk⟩
      have hjl : j < 34 := by
        have := (List.getElem?_eq_some_iff.1 hj).1
        rw [← hcs] at this
        omega
      have h5 := g4 j hjl
      rw [add_lit, add_lit] at h5
      rw [h5, hcs]
      exact hj
    obtain ⟨X, hX⟩ := Deep.choose_lt each
    refine ⟨some ⟨b, o, none⟩, len, m, X, hcs, ⟨by omega, fun k hk => ?_⟩, hl, hm, (fun h => by cases h), fun M hM => ⟨?_, fun k hk => ?_⟩⟩
    · obtain ⟨b', o', A, C, g1, g2, g3, g4, g5, g6, g7, g8, g9, _⟩ := hX k hk
      exact ⟨b', o', A, C, g1, g2, g3, g4, g5, g6, g7, g8, g9⟩
    · have h1 := hM ((((List.range len).map D).length + ((List.range (m - len)).map fun j => D (len + j)).length) * P.bytesOf e) (by rw [hx]; simp [DataW.weights, ht])
      refine Nat.le_trans (Nat.mul_le_mul_right _ ?_) h1
      rw [List.length_map, List.length_range]
      omega
    · obtain ⟨b', o', A, C, _, _, _, _, _, _, _, _, _, g10⟩ := hX k hk
      refine g10 M fun y hy => hM y ?_
      rw [hx]
      simp only [DataW.weights, ht, List.mem_cons, List.mem_append]
      exact .inr (.inl (weights_all (List.mem_map.2 ⟨k, List.mem_range.2 hk, rfl⟩) y hy))
end
end Go.Proofs.Ytkpbeibcfaenhaa
