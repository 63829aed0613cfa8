/- Lists of lists of changes that came in. -/
import Derived.Test.YtkpbeibcfaenhaaLawFresh
import Derived.Test.YtkpbeibcfaenhaaOpenChs
namespace Go.Proofs.Ytkpbeibcfaenhaa
open Go.ChangeShapes Go.WideShapes Go.RowKit
section
variable {H : Type} {enc : TypeId × Value → H} {P : Program} {w : World} {base : Nat} {held : Bool} {μ : DataW H → Nat}
/-- A measure of data that grows with their parts. -/
structure Meas (μ : DataW H → Nat) : Prop where
  len : ∀ e s : List (DataW H), e.length ≤ μ (.slice e s)
  elem : ∀ (e s : List (DataW H)) (d : DataW H), d ∈ e → μ d ≤ μ (.slice e s)
  part : ∀ (l : List (DataW H)) (d : DataW H), d ∈ l → μ d ≤ μ (.agg l)
theorem bytes_ofM (hμ : Meas μ) {t q : TypeId} {fuel : Nat} {cs : List Value} {x : DataW H × List MemPlace} (ht : P.underlying t = some (.slice q)) (hq : P.underlying q = some (.int .u8)) (cq : P.cellsOf q = 1) (h : DataW.trod enc P w base (fun _ => true) held fuel t cs = some x) :
    ∃ A C xs, cs = [.slice A xs.length C] ∧ RB w A xs.length xs ∧ xs.length ≤ C ∧ C ≤ maxLen ∧ (A = none → C = 0) ∧ xs.length ≤ μ x.1 := by
  have row : ∃ A L C, cs = [.slice A L C] ∧ (∃ zs, IsRow .u8 w A L C zs) ∧ L ≤ μ x.1 := by
    rcases open_ints ht hq cq h with ⟨hcs, hxx⟩ | ⟨a, l, c, zs, hcs, _, hl, hm, hz, hxx, hcell, hwz⟩
    · exact ⟨none, 0, 0, hcs, ⟨[], .inl ⟨rfl, rfl, rfl, rfl⟩⟩, Nat.zero_le _⟩
    · refine ⟨some a, l, c, hcs, ⟨zs, .inr ⟨a, rfl, hl, hm, by simpa using hz, hcell, hwz⟩⟩, ?_⟩
      simp only [if_true] at hz
      have h1 := hμ.len (lits .u8 (zs.take l)) (lits .u8 (zs.drop l))
      rw [show x.1 = .slice (lits .u8 (zs.take l)) (lits .u8 (zs.drop l)) from congrArg Prod.fst hxx]
      refine Nat.le_trans ?_ h1
      simp only [lits, List.length_map, List.length_take]
      omega
  obtain ⟨A, L, C, hcs, ⟨zs, hzs⟩, hsz⟩ := row
  obtain ⟨xs, r1, r2, r3, r4⟩ := rb_of_row hzs
  obtain rfl : xs.length = L := r1.1
  exact ⟨A, C, xs, hcs, r1, r3, r4, r2, hsz⟩
/-- A list of changes, opened. -/
theorem chs_ofM (hμ : Meas μ) {t e q : TypeId} {fuel : Nat} {cs : List Value} {x : DataW H × List MemPlace} {fs : Array Field} {f0 f1 f2 : Field} {tb : TypeId} (ht : P.underlying t = some (.slice e)) (he : P.underlying e = some (.struct fs))
    (h0 : fs[0]? = some f0) (h1 : fs[1]? = some f1) (h2 : fs[2]? = some f2) (o0 : f0.offset = 0) (o1 : f1.offset = 32) (o2 : f2.offset = 33) (k0 : P.cellsOf f0.type = 32) (k1 : P.cellsOf f1.type = 1) (k2 : P.cellsOf f2.type = 1)
    (u0 : P.underlying f0.type = some (.array 32 tb)) (u1 : P.underlying f1.type = some .bool) (u2 : P.underlying f2.type = some (.slice q)) (hb : P.underlying tb = some (.int .u8)) (cb : P.cellsOf tb = 1) (hq : P.underlying q = some (.int .u8))
    (ce : P.cellsOf e = 34) (cq : P.cellsOf q = 1) (hf : DataW.trod enc P w base (fun _ => true) held fuel t cs = some x) : ∃ A N C X, cs = [.slice A N C] ∧ ChsAt w A N X ∧ N ≤ C ∧ C ≤ maxLen ∧ (A = none → C = 0) ∧ N ≤ μ x.1 ∧ ∀ k, k < N → (X k).val.length ≤ μ x.1 := by
  rcases Deep.open_slice ht hf with ⟨hcs, _⟩ | ⟨ad, len, cap, m, n, D, Pl, hcs, _, hl, hm, hmm, hx, hrow⟩
  · exact ⟨none, 0, 0, fun _ => ⟨[], false, []⟩, hcs, ⟨by omega, fun k hk => by omega⟩, Nat.le_refl _, by simp [maxLen], fun _ => rfl, Nat.zero_le _, fun k hk => by omega⟩
  · simp only [if_true] at hmm
    subst hmm
    rw [ce] at hrow
    rcases Nat.eq_zero_or_pos len with hz0 | hpos
    · subst hz0
      exact ⟨some ad, 0, m, fun _ => ⟨[], false, []⟩, hcs, ⟨by omega, fun k hk => by omega⟩, hl, hm, (fun h => by cases h), Nat.zero_le _, fun k hk => by omega⟩
    obtain ⟨b, o, eb⟩ : ∃ b o, ad = ⟨b, o, none⟩ := by
      obtain ⟨cs, g1, g2⟩ := hrow 0 (by omega)
      obtain ⟨_, g3, g4⟩ := World.cells?_some g1
      rw [show (0 : Nat) * 34 = 0 from rfl] at g4
      exact rows_plain (by omega) g3 g4
    subst eb
    have each : ∀ k, k < len → ∃ y : Chg, ∃ b' o' A C, (some ⟨b, o, none⟩ : Option Addr) = some ⟨b', o', none⟩ ∧ b' < w.heap.size ∧ w.rangeAt b' (o' + k * 34) (chC y A C) ∧ IsB y.key ∧ y.key.length = 32 ∧
        RB w A y.val.length y.val ∧ y.val.length ≤ C ∧ C ≤ maxLen ∧ (A = none → C = 0) ∧ y.val.length ≤ μ (D k) := fun k hk => by
      obtain ⟨cs, g1, g2⟩ := hrow k (by omega)
      obtain ⟨_, g3, g4⟩ := World.cells?_some g1
      obtain ⟨xs, n', _, hDk, _, hxl, hg⟩ := DataW.trod_struct he g2
      have hfs : 2 < fs.size := (Array.getElem?_eq_some_iff.1 h2).1
      have e0 := hg 0 f0 h0
      have e1 := hg 1 f1 h1
      have e2 := hg 2 f2 h2
      rw [o0, k0, List.getElem?_eq_getElem (by omega)] at e0
      rw [o1, k1, List.getElem?_eq_getElem (by omega)] at e1
      rw [o2, k2, List.getElem?_eq_getElem (by omega)] at e2
      obtain ⟨ds, q0, hB, hdl⟩ := arr_of u0 hb cb (by rw [List.length_take, List.length_drop]; omega) e0
      obtain ⟨bl, q1⟩ := bool_of u1 e1
      obtain ⟨A, C, vs, q2, r1, r2, r3, r4, r5⟩ := bytes_ofM hμ u2 hq cq e2
      have hszk : vs.length ≤ μ (D k) := Nat.le_trans r5 (by
        rw [show D k = .agg (xs.map (·.1)) from congrArg Prod.fst hDk]
        exact hμ.part _ _ (List.mem_map.2 ⟨xs[2], List.getElem_mem _, rfl⟩))
      have hcs : cs = chC ⟨ds, bl, vs⟩ A C := by
        have a1 : cs = cs.take 32 ++ ((cs.drop 32).take 1 ++ (cs.drop 33).take 1) := by
          rw [show (cs.drop 33) = (cs.drop 32).drop 1 by rw [List.drop_drop], List.take_of_length_le (l := (cs.drop 32).drop 1) (by simp; omega), List.take_append_drop, List.take_append_drop]
        rw [List.drop_zero] at q0
        rw [a1, q0, q1, q2]
        rfl
      have hblk : b < w.heap.size := by
        have h5 := g4 0 (by omega)
        rw [List.getElem?_eq_getElem (by omega)] at h5
        have := lt_of_cell h5
        rwa [block_add, block_add] at this
      refine ⟨⟨ds, bl, vs⟩, b, o, A, C, rfl, hblk, fun j v hj => ?_, hB, hdl, r1, r2, r3, r4, hszk⟩
      have hjl : j < 34 := by
        have := (List.getElem?_eq_some_iff.1 hj).1
        rw [← hcs] at this
        omega
      have h5 := g4 j hjl
      rw [add_lit, add_lit] at h5
      rw [h5, hcs]
      exact hj
    obtain ⟨X, hX⟩ := Deep.choose_lt each
    have hd1 : x.1 = .slice ((List.range len).map D) ((List.range (m - len)).map fun j => D (len + j)) := congrArg Prod.fst hx
    refine ⟨some ⟨b, o, none⟩, len, m, X, hcs, ⟨by omega, fun k hk => ?_⟩, hl, hm, (fun h => by cases h), ?_, fun k hk => ?_⟩
    · obtain ⟨b', o', A, C, g1, g2, g3, g4, g5, g6, g7, g8, g9, _⟩ := hX k hk
      exact ⟨b', o', A, C, g1, g2, g3, g4, g5, g6, g7, g8, g9⟩
    · rw [hd1]
      have := hμ.len ((List.range len).map D) ((List.range (m - len)).map fun j => D (len + j))
      rwa [List.length_map, List.length_range] at this
    · obtain ⟨b', o', A, C, _, _, _, _, _, _, _, _, _, g10⟩ := hX k hk
      refine Nat.le_trans g10 ?_
      rw [hd1]
      exact hμ.elem _ _ _ (List.mem_map.2 ⟨k, List.mem_range.2 hk, rfl⟩)
end
section
variable {H : Type} {enc : TypeId × Value → H} {w : World} {base : Nat} {held : Bool} {μ : DataW H → Nat}
theorem chs_openM (hμ : Meas μ) {fuel : Nat} {cs : List Value} {x : DataW H × List MemPlace} (hf : DataW.trod enc Try.prog w base (fun _ => true) held fuel 30 cs = some x) : ∃ A N C X, cs = [.slice A N C] ∧ ChsAt w A N X ∧ N ≤ C ∧ C ≤ maxLen ∧ (A = none → C = 0) ∧ N ≤ μ x.1 ∧ ∀ k, k < N → (X k).val.length ≤ μ x.1 :=
  chs_ofM hμ und_chs Try.underlying45 rfl rfl rfl rfl rfl rfl (by kernel_rfl) (by kernel_rfl) (by kernel_rfl) und_key (by kernel_rfl) und_raw und_u8 (by kernel_rfl) und_u8 (by kernel_rfl) (by kernel_rfl) hf
theorem lsts_open (hμ : Meas μ) {fuel : Nat} {cs : List Value} {x : DataW H × List MemPlace} (hf : DataW.trod enc Try.prog w base (fun _ => true) held fuel 55 cs = some x) (hb : μ x.1 ≤ 1048576) : ∃ A M C NN XX, cs = [.slice A M C] ∧ LstsAt w A M NN XX ∧ M ≤ 1048576 := by
  rcases Deep.open_slice und_chls hf with ⟨hcs, _⟩ | ⟨ad, len, cap, m, n, D, Pl, hcs, _, hl, hm, hmm, hx, hrow⟩
  · exact ⟨none, 0, 0, fun _ => 0, fun _ _ => default, hcs, fun i hi => by omega, by omega⟩
  · simp only [if_true] at hmm
    subst hmm
    have ce : Try.prog.cellsOf 30 = 1 := by kernel_rfl
    rw [ce] at hrow
    have hd1 : x.1 = .slice ((List.range len).map D) ((List.range (m - len)).map fun j => D (len + j)) := congrArg Prod.fst hx
    have hlen : len ≤ 1048576 := by
      have := hμ.len ((List.range len).map D) ((List.range (m - len)).map fun j => D (len + j))
      rw [← hd1, List.length_map, List.length_range] at this
      omega
    have each : ∀ i, i < len → ∃ y : Nat × (Nat → Chg), ∃ A C, ad.block < w.heap.size ∧ w.cell? (ad.add i) = some (.slice A y.1 C) ∧ ChsAt w A y.1 y.2 ∧ y.1 ≤ C ∧ y.1 ≤ 1048576 ∧ ∀ k, k < y.1 → (y.2 k).val.length ≤ 1048576 := fun i hi => by
      obtain ⟨cs, g1, g2⟩ := hrow i (by omega)
      obtain ⟨_, g3, g4⟩ := World.cells?_some g1
      obtain ⟨A, N, C, X, rfl, h1, h2, h3, h4, h5, h6⟩ := chs_openM hμ g2
      have hle : μ (D i) ≤ 1048576 := by
        have := hμ.elem _ ((List.range (m - len)).map fun j => D (len + j)) (D i) (List.mem_map.2 ⟨i, List.mem_range.2 hi, rfl⟩)
        rw [← hd1] at this
        omega
      have hc := g4 0 (by simp)
      rw [Nat.mul_one, add_add, Nat.add_zero] at hc
      have hc' : w.cell? (ad.add i) = some (.slice A N C) := hc
      refine ⟨(N, X), A, C, ?_, hc', h1, h2, ?_, fun k hk => ?_⟩
      · have := World.block_lt_of_cell? w _ hc'
        rwa [block_add] at this
      · have : N ≤ μ (D i) := h5
        show N ≤ _
        omega
      · have : (X k).val.length ≤ μ (D i) := h6 k hk
        show (X k).val.length ≤ _
        omega
    obtain ⟨Y, hY⟩ := Deep.choose_lt each
    refine ⟨some ad, len, m, fun i => (Y i).1, fun i => (Y i).2, hcs, fun i hi => ?_, hlen⟩
    obtain ⟨A, C, h1, h2, h3, h4, h5, h6⟩ := hY i hi
    exact ⟨ad, A, C, rfl, h1, h2, h3, h4, h5, h6⟩
end
end Go.Proofs.Ytkpbeibcfaenhaa
