/- Lists of changes with room behind them and behind their values: what they are in memory. -/
import Derived.Test.YtkpbeibcfaenhaaSpare
import Derived.Laws.MakeOwn
import Derived.Laws.CopyRow
namespace Go.Proofs.Ytkpbeibcfaenhaa
open Go.RowKit
theorem splice_in {α : Type} {L M cs : List α} {o : Nat} (h : o + cs.length ≤ L.length) : splice (L ++ M) o cs = splice L o cs ++ M := by
  unfold splice
  rw [List.take_append_of_le_length (by omega), List.drop_append_of_le_length h]
  simp [List.append_assoc]
theorem flat_splice {X : Nat → Chg} {Ad : Nat → Option Addr} {Cp : Nat → Nat} {n i : Nat} (h : ∀ k, k < n → (X k).key.length = 32) (hi : i < n) {x : Chg} (hx : x.key.length = 32) (A : Option Addr) (C : Nat) :
    splice (flat X Ad Cp n) (i * 34) (chC x A C) = flat (upd X i x) (upd Ad i A) (upd Cp i C) n := by
  induction n with
  | zero => omega
  | succ n ih =>
    have hl := flat_length (Ad := Ad) (Cp := Cp) (n := n) (fun k hk => h k (by omega))
    rw [flat]
    by_cases e : i = n
    · subst e
      unfold splice
      rw [List.take_left' hl, List.drop_of_length_le (by rw [List.length_append, hl, chC_length hx, chC_length (h i (by omega))]; exact Nat.le_refl _), List.append_nil, flat_upd]
    · rw [splice_in (by rw [hl, chC_length hx]; omega), ih (fun k hk => h k (by omega)) (by omega), flat, upd_other _ _ (Ne.symm e), upd_other _ _ (Ne.symm e), upd_other _ _ (Ne.symm e)]
section
variable {P : Program}
theorem storeMid_run {w : World} {o : Oper} {a : Act} (ty : TypeId) (x y : Operand) (ho : o.op = .store ty x y)
    (g off : Nat) (cs L : List Value) (t : TypeId) (hx : a.eval x = .pointer (some ⟨g, off, none⟩)) (hy : a.eval y = .agg cs.toArray) (hL : BlkIs w g t L.toArray) (hi : (P.info? ty).map (·.size) = some cs.length) (hfit : off + cs.length ≤ L.length)
    (h1 : ∀ v ∈ cs, v.oneCell' = true) : ∃ w', (execOp a.eval o).run P w = .ok .skip w' ∧ BlkIs w' g t (splice L off cs).toArray ∧ w.grownBy w' (some g) ∧ w'.heap.size = w.heap.size := by
  have hst := run_storeCells_at P g off t cs 0 L.toArray w hL (by simpa using hfit) h1
  simp only [Nat.add_zero] at hst
  refine ⟨w.setRow g (splice L off cs).toArray, ?_, setRow_heap w g _ _ t (0, 0) hL, grown_setRow _, by simp [World.setRow]⟩
  cases hq : P.info? ty with
  | none => simp [hq] at hi
  | some i =>
    have hs : cs.length = i.size := by simp [hq] at hi; omega
    have h2 : (storeVar ty ⟨g, off, none⟩ (.agg cs.toArray)).run P w = .ok () (w.setRow g (splice L off cs).toArray) := by
      have : splice L off cs = List.take off L ++ cs ++ List.drop (off + cs.length) L := by simp [splice]
      rw [this]
      simp [storeVar, sizeOf, typeInfo, hq, Value.cells, hs]
      simpa [hs] using hst
    unfold execOp
    simp only [ho, hx, hy, Instr.storeAt, Instr.sureAddr, Sem.run_bind, Sem.run_pure, Result.andThen_ok, h2]
theorem storeMid {w : World} {ops : Array Oper} {rest : List Oper} {o : Oper} {a : Act} {Q : Exit → Act → World → Prop} (hgd : o.guard = none) (ty : TypeId) (x y : Operand) (ho : o.op = .store ty x y)
    (g off : Nat) (cs L : List Value) (t : TypeId) (hx : a.eval x = .pointer (some ⟨g, off, none⟩)) (hy : a.eval y = .agg cs.toArray) (hL : BlkIs w g t L.toArray) (hi : (P.info? ty).map (·.size) = some cs.length) (hfit : off + cs.length ≤ L.length)
    (h1 : ∀ v ∈ cs, v.oneCell' = true) (h : ∀ w', Hid (BlkIs w' g t (splice L off cs).toArray) → Hid (w.grownBy w' (some g)) → Hid (w'.heap.size = w.heap.size) → wpList P ops Q rest (a.put o.dst undef) w') : wpList P ops Q (o :: rest) a w := by
  obtain ⟨w', hr, a1, a2, a3⟩ := storeMid_run (P := P) (o := o) ty x y ho g off cs L t hx hy hL hi hfit h1
  refine wpList_plain hgd fun K hK => ?_
  unfold Oper.wp
  rw [hr]
  exact hK _ _ (h w' a1 a2 a3)
theorem wpOp_storeMid {w : World} {ops : Array Oper} {Q : Exit → Act → World → Prop} {K : Act → World → Prop} {o : Oper} {a : Act} (hw : Region.wanted o (yielded ops a.tmps) = true) (ty : TypeId) (x y : Operand) (ho : o.op = .store ty x y)
    (g off : Nat) (cs L : List Value) (t : TypeId) (hx : a.eval x = .pointer (some ⟨g, off, none⟩)) (hy : a.eval y = .agg cs.toArray) (hL : BlkIs w g t L.toArray) (hi : (P.info? ty).map (·.size) = some cs.length) (hfit : off + cs.length ≤ L.length)
    (h1 : ∀ v ∈ cs, v.oneCell' = true) (h : ∀ w', Hid (BlkIs w' g t (splice L off cs).toArray) → Hid (w.grownBy w' (some g)) → Hid (w'.heap.size = w.heap.size) → K (a.put o.dst undef) w') :
    if Region.wanted o (yielded ops a.tmps) = true then o.wp P a w K Q else K (a.put o.dst undef) w := by
  obtain ⟨w', hr, a1, a2, a3⟩ := storeMid_run (P := P) (o := o) ty x y ho g off cs L t hx hy hL hi hfit h1
  rw [if_pos hw]
  unfold Oper.wp
  rw [hr]
  exact h w' a1 a2 a3
end
def zeroC : Chg := ⟨zs 32, false, []⟩
theorem made_flat (n : Nat) : madeCells ((zarr 32) ++ #[(.bool false : Value), .slice none 0 0]) (n * 34) = (flat (fun _ => zeroC) (fun _ => none) (fun _ => 0) n).toArray := by
  have hl := flat_length (X := fun _ => zeroC) (Ad := fun _ => none) (Cp := fun _ => 0) (n := n) (fun _ _ => zs_length 32)
  apply Array.ext_getElem?
  intro j
  simp only [List.getElem?_toArray]
  by_cases h : j < n * 34
  · have hq : j / 34 < n := by omega
    have e := flat_at (Ad := fun _ => none) (Cp := fun _ => 0) (X := fun _ => zeroC) (n := n) (i := j / 34) (j := j % 34) (fun _ _ => zs_length 32) hq (Nat.mod_lt _ (by omega))
    rw [show j / 34 * 34 + j % 34 = j by omega] at e
    rw [e]
    have hz : (((zarr 32) ++ #[(.bool false : Value), .slice none 0 0])).size = 34 := by simp [zarr, bvs, zs]
    have hc : (chC zeroC none 0).toArray = (zarr 32) ++ #[(.bool false : Value), .slice none 0 0] := by simp [chC, zeroC, zarr]
    have hm : j % 34 < 34 := Nat.mod_lt _ (by omega)
    unfold madeCells
    rw [Array.getElem?_map, Array.getElem?_range]
    rw [if_pos h, hz]
    simp only [Option.map_some]
    rw [← List.getElem?_toArray, hc, Array.getElem?_eq_getElem (by omega), getElem!_pos _ _ (by omega)]
  · rw [List.getElem?_eq_none (by omega), Array.getElem?_eq_none (by rw [size_madeCells]; omega)]
/-- 'make([]api.Change, n)'. -/
theorem makeC {ops : Array Oper} {rest : List Oper} {o : Oper} {a : Act} {w : World} {Q : Exit → Act → World → Prop} (hgd : o.guard = none) (l c : Operand) (hop : o.op = Op.makeSlice 30 l c) (L : Int) (n : Nat) (hl : a.eval l = .int .i64 L) (hc : a.eval c = .int .i64 L) (hL : L = (n : Int)) (hn : n * 64 ≤ 281474976710656)
    (h : ∀ w', Hid (BlkIs w' w.heap.size 45 (flat (fun _ => zeroC) (fun _ => none) (fun _ => 0) n).toArray) → Hid (Below w.heap.size w w') → Hid (w'.heap.size = w.heap.size + 1) → wpList Try.prog ops Q rest (a.put o.dst (.slice (some ⟨w.heap.size, 0, none⟩) n n)) w') : wpList Try.prog ops Q (o :: rest) a w := by
  subst hL
  obtain ⟨i, hi, hz0, hz1, hz2⟩ := info_parts info_chg3
  refine wpList_plain hgd fun K hK => ?_
  have hrun := run_make (P := Try.prog) w 30 45 i _ und_chl hi hz0 .i64 .i64 (n : Int) (n : Int) (by omega) (by omega) (by rw [hz2]; omega) (by omega)
  rw [hz1, Int.toNat_natCast] at hrun
  have hm : madeCells (Value.agg ((zarr 32) ++ #[(.bool false : Value), .slice none 0 0])).cells (n * 34) = (flat (fun _ => zeroC) (fun _ => none) (fun _ => 0) n).toArray := made_flat n
  rw [hm] at hrun
  have h2 := h _ (BlkIs.new w 45 _) ((Below.refl _ _).alloc (Nat.le_refl _) _) (by show _ = _; simp)
  unfold Oper.wp execOp
  simp only [hop, hl, hc, Sem.run_bind, hrun, Result.andThen_ok, Sem.run_pure]
  exact hK _ _ h2
theorem roo_front {w : World} {g : Nat} {t : TypeId} {xs : List Nat} (h : BlkB w g t (rooN xs)) (hB : IsB xs) : RB w (some ⟨g, 0, none⟩) xs.length xs := by
  have h1 := (h.rb hB rfl).take (k := xs.length) (by omega)
  rwa [rooN_take] at h1
/-- A list of changes with two behind it, each value with bytes behind it; the values' lists at V. All its blocks lie from base on, below top. -/
structure Roo (w : World) (base top g N : Nat) (X : Nat → Chg) (Gv : Nat → Nat) (V : Option Addr) : Prop where
  blk : ∃ Z Ad Cp, BlkIs w g 45 (flat Z Ad Cp (N + 2)).toArray ∧ (∀ i, i < N → Z i = X i ∧ Ad i = some ⟨Gv i, 0, none⟩ ∧ Cp i = (X i).val.length + 100) ∧ Z N = sp0 ∧ Ad N = some ⟨Gv N, 0, none⟩ ∧ Cp N = 1 ∧ Z (N + 1) = sp1 ∧ Ad (N + 1) = none ∧ Cp (N + 1) = 0
  key : ∀ i, i < N → IsB (X i).key ∧ (X i).key.length = 32
  isB : ∀ i, i < N → IsB (X i).val
  val : ∀ i, i < N → BlkB w (Gv i) 5 (rooN (X i).val)
  spv : BlkB w (Gv N) 5 [202]
  ng : ∀ i, i ≤ N → Gv i ≠ g
  inj : ∀ i j, i ≤ N → j ≤ N → Gv i = Gv j → i = j
  lo : base ≤ g ∧ g < top ∧ ∀ i, i ≤ N → base ≤ Gv i ∧ Gv i < top
  len : ∀ i, i < N → (X i).val.length + 100 ≤ 140737488355328
  room : N + 2 ≤ maxLen ∧ top ≤ w.heap.size
  vals : ∀ i, i < N → ∃ b, V = some ⟨b, 0, none⟩ ∧ base ≤ b ∧ b < top ∧ b ≠ g ∧ (∀ j, j ≤ N → b ≠ Gv j) ∧ w.cell? ⟨b, i, none⟩ = some (.slice (some ⟨Gv i, 0, none⟩) ((X i).val.length + 100) ((X i).val.length + 100))
section
variable {w w' : World} {base top g N : Nat} {X : Nat → Chg} {Gv : Nat → Nat} {V : Option Addr}
theorem Roo.same (h : Roo w base top g N X Gv V) (hs : w.heap.size ≤ w'.heap.size) (hk : ∀ k, base ≤ k → k < top → w'.heap[k]? = w.heap[k]?) : Roo w' base top g N X Gv V := by
  obtain ⟨Z, Ad, Cp, hb, hr⟩ := h.blk
  exact { h with
    blk := ⟨Z, Ad, Cp, (hk g h.lo.1 h.lo.2.1).trans hb, hr⟩
    val := fun i hi => (hk _ (h.lo.2.2 i (by omega)).1 (h.lo.2.2 i (by omega)).2).trans (h.val i hi)
    spv := (hk _ (h.lo.2.2 N (by omega)).1 (h.lo.2.2 N (by omega)).2).trans h.spv
    room := ⟨h.room.1, Nat.le_trans h.room.2 hs⟩
    vals := fun i hi => by
      obtain ⟨b, e, h1, h2, h3, h4, h5⟩ := h.vals i hi
      exact ⟨b, e, h1, h2, h3, h4, (World.cell?_of_block (a := ⟨b, i, none⟩) (hk b h1 h2)).trans h5⟩ }
theorem Roo.below (h : Roo w base top g N X Gv V) (hb : Below w.heap.size w w') : Roo w' base top g N X Gv V :=
  h.same hb.size fun k _ hk => hb.block k (by have := h.room.2; omega)
theorem BlkIs.rangeMid {t : TypeId} {cs : List Value} (h : BlkIs w g t cs.toArray) {o : Nat} {ds : List Value} (hd : ∀ j v, ds[j]? = some v → cs[o + j]? = some v) : w.rangeAt g o ds := fun j v hj => by
  rw [BlkIs.cell h, List.getElem?_toArray]
  exact hd j v hj
theorem flat_range {Z : Nat → Chg} {Ad : Nat → Option Addr} {Cp : Nat → Nat} {n i : Nat} {t : TypeId} (h : BlkIs w g t (flat Z Ad Cp n).toArray) (hk : ∀ i, i < n → (Z i).key.length = 32) (hi : i < n) : w.rangeAt g (i * 34) (chC (Z i) (Ad i) (Cp i)) :=
  BlkIs.rangeMid h fun j v hj => by
    have hj34 : j < 34 := by
      have := (List.getElem?_eq_some_iff.1 hj).1
      rwa [chC_length (hk i hi)] at this
    rw [flat_at hk hi hj34]
    exact hj
theorem Roo.keys (h : Roo w base top g N X Gv V) {Z : Nat → Chg} (hz : (∀ i, i < N → Z i = X i) ∧ Z N = sp0 ∧ Z (N + 1) = sp1) : ∀ i, i < N + 2 → (Z i).key.length = 32 := fun i hi => by
  by_cases h1 : i < N
  · rw [hz.1 i h1]; exact (h.key i h1).2
  · by_cases h2 : i = N
    · rw [h2, hz.2.1]; exact spKey_length _
    · rw [show i = N + 1 by omega, hz.2.2]; exact spKey_length _
/-- The list itself. -/
theorem Roo.front (h : Roo w base top g N X Gv V) : ChsAt w (some ⟨g, 0, none⟩) N X := by
  obtain ⟨Z, Ad, Cp, hb, hr, h0, h1, h2, h3, h4, h5⟩ := h.blk
  have hk := h.keys ⟨fun i hi => (hr i hi).1, h0, h3⟩
  refine ⟨by have := h.room.1; omega, fun i hi => ⟨g, 0, some ⟨Gv i, 0, none⟩, (X i).val.length + 100, rfl, BlkIs.lt hb, ?_, (h.key i hi).1, (h.key i hi).2, ?_, by omega, by have := h.len i hi; unfold maxLen; omega, fun e => by cases e⟩⟩
  · have h6 := flat_range hb hk (i := i) (by omega)
    obtain ⟨e1, e2, e3⟩ := hr i hi
    rwa [e1, e2, e3, show i * 34 = 0 + i * 34 by omega] at h6
  · exact roo_front (h.val i hi) (h.isB i hi)
/-- The two behind it. -/
theorem Roo.back (h : Roo w base top g N X Gv V) : ChsAt w (some ⟨g, N * 34, none⟩) 2 spX := by
  obtain ⟨Z, Ad, Cp, hb, hr, h0, h1, h2, h3, h4, h5⟩ := h.blk
  have hk := h.keys ⟨fun i hi => (hr i hi).1, h0, h3⟩
  refine ⟨by simp [maxLen], fun i hi => ?_⟩
  have hi2 : i = 0 ∨ i = 1 := by omega
  rcases hi2 with rfl | rfl
  · have h6 := flat_range hb hk (i := N) (by omega)
    rw [h0, h1, h2] at h6
    refine ⟨g, N * 34, some ⟨Gv N, 0, none⟩, 1, rfl, BlkIs.lt hb, ?_, spKey_isB (by omega), spKey_length _, ?_, Nat.le_refl _, by simp [maxLen], fun e => by cases e⟩
    · rwa [Nat.zero_mul, Nat.add_zero]
    · exact h.spv.whole (n := 1) (IsB.one (by omega)) rfl
  · have h6 := flat_range hb hk (i := N + 1) (by omega)
    rw [h3, h4, h5] at h6
    refine ⟨g, N * 34, none, 0, rfl, BlkIs.lt hb, ?_, spKey_isB (by omega), spKey_length _, RB.nil _ _, Nat.le_refl _, Nat.zero_le _, fun _ => rfl⟩
    rwa [show N * 34 + 1 * 34 = (N + 1) * 34 by omega]
/-- A value with what stands behind it. -/
theorem Roo.whole (h : Roo w base top g N X Gv V) {i : Nat} (hi : i < N) : RB w (some ⟨Gv i, 0, none⟩) ((X i).val.length + 100) (rooN (X i).val) := (h.val i hi).rb (h.isB i hi) rfl
end
end Go.Proofs.Ytkpbeibcfaenhaa
