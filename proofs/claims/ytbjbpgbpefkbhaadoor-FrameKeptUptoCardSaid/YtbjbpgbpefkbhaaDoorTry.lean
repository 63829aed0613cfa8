/- Lists of tries (ledgerlaw5.Try) that came in. -/
import Derived.Test.YtbjbpgbpefkbhaaDoorOpen
import Derived.Test.YtbjbpgbpefkbhaaDoorLib2
import Derived.Test.YtbjbpgbpefkbhaaDoorPack
import Derived.Deep.Slices
import Derived.Deep.MidRow
import Derived.ChangeSame
import Derived.OpenShut
namespace Go.Proofs.YtbjbpgbpefkbhaaDoor
open Go.ChangeShapes Go.WideShapes Go.RowKit
structure TryN where
  call : Int
  kind : Int
  page : Int
  a : List Nat
  b : List Nat
  s : Sup
instance : Inhabited TryN := ⟨⟨0, 0, 0, [], [], ⟨0, 0, 0, 0, 0⟩⟩⟩
/-- The cells of a try whose texts lie at A and B. -/
def tryC (x : TryN) (A : Option Addr) (c : Nat) (B : Option Addr) (d : Nat) : List Value :=
  [.int .i64 x.call, .int .i64 x.kind, .int .i64 x.page, .slice A x.a.length c, .slice B x.b.length d, .int .i64 x.s.width, .int .i64 x.s.gen, .int .i64 x.s.mark, .int .i64 x.s.head, .int .i64 x.s.pages]
def TryAt (w : World) (P : Option Addr) (N : Nat) (X : Nat → TryN) : Prop :=
  ∀ k, k < N → ∃ b o A c B d, P = some ⟨b, o, none⟩ ∧ b < w.heap.size ∧ w.rangeAt b (o + k * 10) (tryC (X k) A c B d) ∧ RB w A (X k).a.length (X k).a ∧ (X k).a.length ≤ c ∧ RB w B (X k).b.length (X k).b ∧ (X k).b.length ≤ d
theorem range_below {w w' : World} {b o : Nat} {cs : List Value} (hb : Below w.heap.size w w') (h1 : b < w.heap.size) (h : w.rangeAt b o cs) : w'.rangeAt b o cs := fun j v hj => (hb.cell (p := ⟨b, o + j, none⟩) h1).trans (h j v hj)
theorem TryAt.below {w w' : World} {P : Option Addr} {N : Nat} {X : Nat → TryN} (h : TryAt w P N X) (hb : Below w.heap.size w w') : TryAt w' P N X := fun k hk => by
  obtain ⟨b, o, A, c, B, d, h1, h2, h3, h4, h5, h6, h7⟩ := h k hk
  exact ⟨b, o, A, c, B, d, h1, Nat.lt_of_lt_of_le h2 hb.size, range_below hb h2 h3, h4.below hb, h5, h6.below hb, h7⟩
theorem plain_addr {w : World} {ad : Addr} {v : Value} (h : w.cell? ad = some v) : ∃ b o, ad = ⟨b, o, none⟩ := by
  obtain ⟨b, o, s⟩ := ad
  cases s with
  | none => exact ⟨b, o, rfl⟩
  | some z =>
    simp [World.cell?] at h
    split at h <;> simp at h
theorem rows_plain {w : World} {ad : Addr} {cs : List Value} {n : Nat} (h0 : 0 < n) (hl : cs.length = n) (h : ∀ i, i < n → w.cell? ((ad.add 0).add i) = cs[i]?) : ∃ b o, ad = ⟨b, o, none⟩ := by
  have h5 := h 0 h0
  rw [List.getElem?_eq_getElem (by omega), show ad.add 0 = ad by simp [Addr.add], show ad.add 0 = ad by simp [Addr.add]] at h5
  exact plain_addr h5
section
variable {H : Type} {enc : TypeId × Value → H} {P : Program} {w : World} {base : Nat} {held : Bool}
/-- A text's datum counts its letters. -/
def Counts (L : Nat) (ps : List (DataW H)) : Prop := L = 0 ∨ ∃ e1 s1, DataW.slice e1 s1 ∈ ps ∧ L ≤ e1.length
theorem text_of {t q : TypeId} {fuel : Nat} {cs : List Value} {x : DataW H × List MemPlace} (ht : P.underlying t = some (.slice q)) (hq : P.underlying q = some (.int .u8)) (cq : P.cellsOf q = 1) (h : DataW.trod enc P w base (fun _ => true) held fuel t cs = some x) :
    ∃ A C xs, cs = [.slice A xs.length C] ∧ RB w A xs.length xs ∧ xs.length ≤ C ∧ (xs.length = 0 ∨ ∃ e1 s1, x.1 = DataW.slice e1 s1 ∧ xs.length ≤ e1.length) := by
  rcases open_ints ht hq cq h with ⟨hcs, hxx⟩ | ⟨a, l, c, zs, hcs, _, hl, hm, hz, hxx, hcell, hwz⟩
  · exact ⟨none, 0, [], hcs, RB.nil _ _, Nat.le_refl _, .inl rfl⟩
  · obtain ⟨xs, r1, r2, r3, r4⟩ := rb_of_row (.inr ⟨a, rfl, hl, hm, by simpa using hz, hcell, hwz⟩ : IsRow .u8 w (some a) l c zs)
    obtain rfl : xs.length = l := r1.1
    refine ⟨some a, c, xs, hcs, r1, r3, .inr ⟨_, _, congrArg Prod.fst hxx, ?_⟩⟩
    simp only [if_true] at hz
    simp only [lits, List.length_map, List.length_take]
    omega
theorem five_of {t e : TypeId} {fuel : Nat} {cs : List Value} {x : DataW H × List MemPlace} {f0 f1 f2 f3 f4 : Field} (hs : P.underlying t = some (.struct #[f0, f1, f2, f3, f4])) (he : P.underlying e = some (.int .i64))
    (h0 : f0.type = e ∧ f0.offset = 0) (h1 : f1.type = e ∧ f1.offset = 1) (h2 : f2.type = e ∧ f2.offset = 2) (h3 : f3.type = e ∧ f3.offset = 3) (h4 : f4.type = e ∧ f4.offset = 4) (hc : P.cellsOf e = 1) (hl : cs.length = 5)
    (h : DataW.trod enc P w base (fun _ => true) held fuel t cs = some x) : ∃ a b c d p : Int, cs = [.int .i64 a, .int .i64 b, .int .i64 c, .int .i64 d, .int .i64 p] := by
  obtain ⟨ys, n, _, hx, _, hlen, hg⟩ := DataW.trod_struct hs h
  match cs, hl with
  | [x0, x1, x2, x3, x4], _ =>
    match ys, hlen with
    | [y0, y1, y2, y3, y4], _ =>
      have g0 := hg 0 f0 rfl
      have g1 := hg 1 f1 rfl
      have g2 := hg 2 f2 rfl
      have g3 := hg 3 f3 rfl
      have g4 := hg 4 f4 rfl
      rw [h0.1, h0.2, hc] at g0
      rw [h1.1, h1.2, hc] at g1
      rw [h2.1, h2.2, hc] at g2
      rw [h3.1, h3.2, hc] at g3
      rw [h4.1, h4.2, hc] at g4
      simp at g0 g1 g2 g3 g4
      obtain ⟨a, e0, _, _⟩ := DataW.trod_int he g0
      obtain ⟨b, e1, _, _⟩ := DataW.trod_int he g1
      obtain ⟨c, e2, _, _⟩ := DataW.trod_int he g2
      obtain ⟨g, e3, _, _⟩ := DataW.trod_int he g3
      obtain ⟨p, e4, _, _⟩ := DataW.trod_int he g4
      simp at e0 e1 e2 e3 e4
      subst e0 e1 e2 e3 e4
      exact ⟨a, b, c, g, p, rfl⟩
/-- A list of tries, opened: each is read, and the letters of its texts are counted in its datum. -/
theorem tries_of {t e q i su t4' : TypeId} {v : Value} {d : DataW H} {ps : List MemPlace} {a : Option Addr} {N cap : Nat} {fs : Array Field} {f0 f1 f2 f3 f4 f5 g0 g1 g2 g3 g4 : Field} (ht : P.underlying t = some (.slice e)) (he : P.underlying e = some (.struct fs))
    (h0 : fs[0]? = some f0) (h1 : fs[1]? = some f1) (h2 : fs[2]? = some f2) (h3 : fs[3]? = some f3) (h4 : fs[4]? = some f4) (h5 : fs[5]? = some f5) (o0 : f0.offset = 0) (o1 : f1.offset = 1) (o2 : f2.offset = 2) (o3 : f3.offset = 3) (o4 : f4.offset = 4) (o5 : f5.offset = 5)
    (t0 : f0.type = i) (t1 : f1.type = i) (t2 : f2.type = i) (t3 : f3.type = t4') (t4 : f4.type = t4') (t5 : f5.type = su) (ui : P.underlying i = some (.int .i64)) (ci : P.cellsOf i = 1) (ut : P.underlying t4' = some (.slice q)) (ct : P.cellsOf t4' = 1) (hq : P.underlying q = some (.int .u8)) (cq : P.cellsOf q = 1)
    (us : P.underlying su = some (.struct #[g0, g1, g2, g3, g4])) (cs5 : P.cellsOf su = 5) (k0 : g0.type = i ∧ g0.offset = 0) (k1 : g1.type = i ∧ g1.offset = 1) (k2 : g2.type = i ∧ g2.offset = 2) (k3 : g3.type = i ∧ g3.offset = 3) (k4 : g4.type = i ∧ g4.offset = 4)
    (ce : P.cellsOf e = 10) (hv : v = .slice a N cap) (h : DataW.Trod enc P w base (fun _ => true) held t v d ps) :
    N = 0 ∨ ∃ (elems spare : List (DataW H)) (X : Nat → TryN), d = .slice elems spare ∧ elems.length = N ∧ TryAt w a N X ∧ ∀ k, k < N → ∃ parts : List (DataW H), DataW.agg parts ∈ elems ∧ Counts (X k).a.length parts ∧ Counts (X k).b.length parts := by
  subst hv
  obtain ⟨fuel, hf⟩ := h
  rcases Deep.open_slice ht hf with ⟨hcs, _⟩ | ⟨ad, len, cap', m, n, D, Pl, hcs, _, hl, hm, hmm, hx, hrow⟩
  · simp [Value.cells] at hcs
    exact .inl hcs.2.1
  · simp [Value.cells] at hcs
    obtain ⟨rfl, rfl, rfl⟩ := hcs
    simp only [if_true] at hmm
    subst hmm
    rw [ce] at hrow
    rcases Nat.eq_zero_or_pos N with hz0 | hpos
    · exact .inl hz0
    obtain ⟨b, o, eb⟩ : ∃ b o, ad = ⟨b, o, none⟩ := by
      obtain ⟨cs, g1, g2⟩ := hrow 0 (by omega)
      obtain ⟨_, g3, g4⟩ := World.cells?_some g1
      rw [show (0 : Nat) * 10 = 0 from rfl] at g4
      exact rows_plain (by omega) g3 g4
    subst eb
    have each : ∀ k, k < N → ∃ y : TryN, (∃ b' o' A c B dd, (some ⟨b, o, none⟩ : Option Addr) = some ⟨b', o', none⟩ ∧ b' < w.heap.size ∧ w.rangeAt b' (o' + k * 10) (tryC y A c B dd) ∧ RB w A y.a.length y.a ∧ y.a.length ≤ c ∧ RB w B y.b.length y.b ∧ y.b.length ≤ dd) ∧
        ∃ parts : List (DataW H), D k = DataW.agg parts ∧ Counts y.a.length parts ∧ Counts y.b.length parts := fun k hk => by
      obtain ⟨cs, g1, g2⟩ := hrow k (by omega)
      obtain ⟨_, g3, g4⟩ := World.cells?_some g1
      obtain ⟨xs, n', _, hDk, _, hxl, hg⟩ := DataW.trod_struct he g2
      have hfs : 5 < fs.size := (Array.getElem?_eq_some_iff.1 h5).1
      have e0 := hg 0 f0 h0
      have e1 := hg 1 f1 h1
      have e2 := hg 2 f2 h2
      have e3 := hg 3 f3 h3
      have e4 := hg 4 f4 h4
      have e5 := hg 5 f5 h5
      rw [o0, t0, ci, List.getElem?_eq_getElem (by omega)] at e0
      rw [o1, t1, ci, List.getElem?_eq_getElem (by omega)] at e1
      rw [o2, t2, ci, List.getElem?_eq_getElem (by omega)] at e2
      rw [o3, t3, ct, List.getElem?_eq_getElem (by omega)] at e3
      rw [o4, t4, ct, List.getElem?_eq_getElem (by omega)] at e4
      rw [o5, t5, cs5, List.getElem?_eq_getElem (by omega)] at e5
      obtain ⟨a0, q0, _, _⟩ := DataW.trod_int ui e0
      obtain ⟨a1, q1, _, _⟩ := DataW.trod_int ui e1
      obtain ⟨a2, q2, _, _⟩ := DataW.trod_int ui e2
      obtain ⟨A, c, va, q3, r1, r2, z1⟩ := text_of ut hq cq e3
      obtain ⟨B, dd, vb, q4, s1, s2, z2⟩ := text_of ut hq cq e4
      obtain ⟨x0, x1, x2, x3, x4, q5⟩ := five_of us ui k0 k1 k2 k3 k4 ci (by rw [List.length_take, List.length_drop]; omega) e5
      have hcs : cs = tryC ⟨a0, a1, a2, va, vb, ⟨x0, x1, x2, x3, x4⟩⟩ A c B dd := by
        have a1 : cs = cs.take 1 ++ ((cs.drop 1).take 1 ++ ((cs.drop 2).take 1 ++ ((cs.drop 3).take 1 ++ ((cs.drop 4).take 1 ++ (cs.drop 5).take 5)))) := by
          rw [show cs.drop 5 = (cs.drop 4).drop 1 by rw [List.drop_drop], List.take_of_length_le (l := (cs.drop 4).drop 1) (by simp; omega), List.take_append_drop,
            show cs.drop 4 = (cs.drop 3).drop 1 by rw [List.drop_drop], List.take_append_drop, show cs.drop 3 = (cs.drop 2).drop 1 by rw [List.drop_drop], List.take_append_drop,
            show cs.drop 2 = (cs.drop 1).drop 1 by rw [List.drop_drop], List.take_append_drop, List.take_append_drop]
        rw [List.drop_zero] at q0
        rw [a1, q0, q1, q2, q3, q4, q5]
        rfl
      have hblk : b < w.heap.size := by
        have h5 := g4 0 (by omega)
        rw [List.getElem?_eq_getElem (by omega)] at h5
        have := lt_of_cell h5
        rwa [block_add, block_add] at this
      refine ⟨⟨a0, a1, a2, va, vb, ⟨x0, x1, x2, x3, x4⟩⟩, ⟨b, o, A, c, B, dd, rfl, hblk, fun j v hj => ?_, r1, r2, s1, s2⟩, xs.map (·.1), congrArg Prod.fst hDk, ?_, ?_⟩
      · have hjl : j < 10 := by
          have := (List.getElem?_eq_some_iff.1 hj).1
          rw [← hcs] at this
          omega
        have h5 := g4 j hjl
        rw [add_lit, add_lit] at h5
        rw [h5, hcs]
        exact hj
      · rcases z1 with z | ⟨e1, s1, z, zz⟩
        · exact .inl z
        · exact .inr ⟨e1, s1, by rw [← z]; exact List.mem_map.2 ⟨_, List.getElem_mem (by omega), rfl⟩, zz⟩
      · rcases z2 with z | ⟨e1, s1, z, zz⟩
        · exact .inl z
        · exact .inr ⟨e1, s1, by rw [← z]; exact List.mem_map.2 ⟨_, List.getElem_mem (by omega), rfl⟩, zz⟩
    obtain ⟨X, hX⟩ := Deep.choose_lt each
    refine .inr ⟨_, _, X, congrArg Prod.fst hx, by simp, fun k hk => (hX k hk).1, fun k hk => ?_⟩
    obtain ⟨parts, z1, z2, z3⟩ := (hX k hk).2
    exact ⟨parts, by rw [← z1]; exact List.mem_map.2 ⟨k, List.mem_range.2 hk, rfl⟩, z2, z3⟩
end
end Go.Proofs.YtbjbpgbpefkbhaaDoor
