/- Spare, Roo, RoomyC (merged by merge_k.py) -/
import Derived.Test.YtkpbeibcfaenhaaGd
import Derived.Test.YtkpbeibcfaenhaaRoomyB
import Derived.Laws.MakeOwn
import Derived.Laws.CopyRow
/- ledgerlaw3.spare. -/
namespace Go.Proofs.Ytkpbeibcfaenhaa
open Go.RowKit
def spKey (a : Nat) : List Nat := a :: zs 31
theorem spKey_length (a : Nat) : (spKey a).length = 32 := by simp [spKey, zs]
theorem spKey_isB {a : Nat} (h : a < 256) : IsB (spKey a) := fun x hx => by
  simp only [spKey, List.mem_cons] at hx
  rcases hx with rfl | hx
  · exact h
  · exact zs_isB 31 x hx
def sp0 : Chg := ⟨spKey 201, false, [202]⟩
def sp1 : Chg := ⟨spKey 203, true, []⟩
def spX (i : Nat) : Chg := if i = 0 then sp0 else sp1
def SparePost (w : World) (e : Ending) (w' : World) : Prop := ∃ g gs, e = .returned (.slice (some ⟨g, 0, none⟩) 2 2) ∧ w.heap.size ≤ g ∧ w.heap.size ≤ gs ∧ gs ≠ g ∧ BlkIs w' g 45 (chC sp0 (some ⟨gs, 0, none⟩) 1 ++ chC sp1 none 0).toArray ∧ BlkB w' gs 5 [202] ∧ Below w.heap.size w w'
set_option maxRecDepth 100000 in
set_option maxHeartbeats 1000000 in
theorem spare_any (w : World) : Calls Try.prog 52 #[] w (SparePost w) := by
  go_enter Try.func52, Try.ntmps52
  go_wp2_with fail
  go_ret
  refine start2 ?_
  intro w1 HB1 HB2 HW _
  exact ⟨w.heap.size + 1, w.heap.size, rfl, by omega, Nat.le_refl _, by omega, HB2.out, HB1.out, HW.out⟩
end Go.Proofs.Ytkpbeibcfaenhaa

/- Lists of changes with room behind them and behind their values: what they are in memory. -/
namespace Go.Proofs.Ytkpbeibcfaenhaa
open Go.RowKit
theorem splice_in {α : Type} {L M cs : List α} {o : Nat} (h : o + cs.length ≤ L.length) : splice (L ++ M) o cs = splice L o cs ++ M := by
  unfold splice
  rw [List.take_append_of_le_length (by omega), List.drop_append_of_le_length h]
  simp [List.append_assoc]
theorem flat_splice {X : Nat → Chg} {Ad : Nat → Option Addr} {Cp : Nat → Nat} {n i : Nat} (h : ∀ k, k < n → (X k).key.length = 32) (hi : i < n) {x : Chg} (hx : x.key.length = 32) (A : Option Addr) (C : Nat) :
    splice (flat X Ad Cp n) (i * 34) (chC x A C) = flat (upd X i x) (upd Ad i A) (upd Cp i C) n := by
  induction n with
  | zero => omega
  | succ n ih =>
    have hl := flat_length (Ad := Ad) (Cp := Cp) (n := n) (fun k hk => h k (by omega))
    rw [flat]
    by_cases e : i = n
    · subst e
      unfold splice
      rw [List.take_left' hl, List.drop_of_length_le (by rw [List.length_append, hl, chC_length hx, chC_length (h i (by omega))]; exact Nat.le_refl _), List.append_nil, flat_upd]
    · rw [splice_in (by rw [hl, chC_length hx]; omega), ih (fun k hk => h k (by omega)) (by omega), flat, upd_other _ _ (Ne.symm e), upd_other _ _ (Ne.symm e), upd_other _ _ (Ne.symm e)]
section
variable {P : Program}
theorem storeMid_run {w : World} {o : Oper} {a : Act} (ty : TypeId) (x y : Operand) (ho : o.op = .store ty x y)
    (g off : Nat) (cs L : List Value) (t : TypeId) (hx : a.eval x = .pointer (some ⟨g, off, none⟩)) (hy : a.eval y = .agg cs.toArray) (hL : BlkIs w g t L.toArray) (hi : (P.info? ty).map (·.size) = some cs.length) (hfit : off + cs.length ≤ L.length)
    (h1 : ∀ v ∈ cs, v.oneCell' = true) : ∃ w', (execOp a.eval o).run P w = .ok .skip w' ∧ BlkIs w' g t (splice L off cs).toArray ∧ w.grownBy w' (some g) ∧ w'.heap.size = w.heap.size := by
  have hst := run_storeCells_at P g off t cs 0 L.toArray w hL (by simpa using hfit) h1
  simp only [Nat.add_zero] at hst
  refine ⟨w.setRow g (splice L off cs).toArray, ?_, setRow_heap w g _ _ t (0, 0) hL, grown_setRow _, by simp [World.setRow]⟩
  cases hq : P.info? ty with
  | none => simp [hq] at hi
  | some i =>
    have hs : cs.length = i.size := by simp [hq] at hi; omega
    have h2 : (storeVar ty ⟨g, off, none⟩ (.agg cs.toArray)).run P w = .ok () (w.setRow g (splice L off cs).toArray) := by
      have : splice L off cs = List.take off L ++ cs ++ List.drop (off + cs.length) L := by simp [splice]
      rw [this]
      simp [storeVar, sizeOf, typeInfo, hq, Value.cells, hs]
      simpa [hs] using hst
    unfold execOp
    simp only [ho, hx, hy, Instr.storeAt, Instr.sureAddr, Sem.run_bind, Sem.run_pure, Result.andThen_ok, h2]
theorem storeMid {w : World} {ops : Array Oper} {rest : List Oper} {o : Oper} {a : Act} {Q : Exit → Act → World → Prop} (hgd : o.guard = none) (ty : TypeId) (x y : Operand) (ho : o.op = .store ty x y)
    (g off : Nat) (cs L : List Value) (t : TypeId) (hx : a.eval x = .pointer (some ⟨g, off, none⟩)) (hy : a.eval y = .agg cs.toArray) (hL : BlkIs w g t L.toArray) (hi : (P.info? ty).map (·.size) = some cs.length) (hfit : off + cs.length ≤ L.length)
    (h1 : ∀ v ∈ cs, v.oneCell' = true) (h : ∀ w', Hid (BlkIs w' g t (splice L off cs).toArray) → Hid (w.grownBy w' (some g)) → Hid (w'.heap.size = w.heap.size) → wpList P ops Q rest (a.put o.dst undef) w') : wpList P ops Q (o :: rest) a w := by
  obtain ⟨w', hr, a1, a2, a3⟩ := storeMid_run (P := P) (o := o) ty x y ho g off cs L t hx hy hL hi hfit h1
  refine wpList_plain hgd fun K hK => ?_
  unfold Oper.wp
  rw [hr]
  exact hK _ _ (h w' a1 a2 a3)
theorem wpOp_storeMid {w : World} {ops : Array Oper} {Q : Exit → Act → World → Prop} {K : Act → World → Prop} {o : Oper} {a : Act} (hw : Region.wanted o (yielded ops a.tmps) = true) (ty : TypeId) (x y : Operand) (ho : o.op = .store ty x y)
    (g off : Nat) (cs L : List Value) (t : TypeId) (hx : a.eval x = .pointer (some ⟨g, off, none⟩)) (hy : a.eval y = .agg cs.toArray) (hL : BlkIs w g t L.toArray) (hi : (P.info? ty).map (·.size) = some cs.length) (hfit : off + cs.length ≤ L.length)
    (h1 : ∀ v ∈ cs, v.oneCell' = true) (h : ∀ w', Hid (BlkIs w' g t (splice L off cs).toArray) → Hid (w.grownBy w' (some g)) → Hid (w'.heap.size = w.heap.size) → K (a.put o.dst undef) w') :
    if Region.wanted o (yielded ops a.tmps) = true then o.wp P a w K Q else K (a.put o.dst undef) w := by
  obtain ⟨w', hr, a1, a2, a3⟩ := storeMid_run (P := P) (o := o) ty x y ho g off cs L t hx hy hL hi hfit h1
  rw [if_pos hw]
  unfold Oper.wp
  rw [hr]
  exact h w' a1 a2 a3
end
def zeroC : Chg := ⟨zs 32, false, []⟩
theorem made_flat (n : Nat) : madeCells ((zarr 32) ++ #[(.bool false : Value), .slice none 0 0]) (n * 34) = (flat (fun _ => zeroC) (fun _ => none) (fun _ => 0) n).toArray := by
  have hl := flat_length (X := fun _ => zeroC) (Ad := fun _ => none) (Cp := fun _ => 0) (n := n) (fun _ _ => zs_length 32)
  apply Array.ext_getElem?
  intro j
  simp only [List.getElem?_toArray]
  by_cases h : j < n * 34
  · have hq : j / 34 < n := by omega
    have e := flat_at (Ad := fun _ => none) (Cp := fun _ => 0) (X := fun _ => zeroC) (n := n) (i := j / 34) (j := j % 34) (fun _ _ => zs_length 32) hq (Nat.mod_lt _ (by omega))
    rw [show j / 34 * 34 + j % 34 = j by omega] at e
    rw [e]
    have hz : (((zarr 32) ++ #[(.bool false : Value), .slice none 0 0])).size = 34 := by simp [zarr, bvs, zs]
    have hc : (chC zeroC none 0).toArray = (zarr 32) ++ #[(.bool false : Value), .slice none 0 0] := by simp [chC, zeroC, zarr]
    have hm : j % 34 < 34 := Nat.mod_lt _ (by omega)
    unfold madeCells
    rw [Array.getElem?_map, Array.getElem?_range]
    rw [if_pos h, hz]
    simp only [Option.map_some]
    rw [← List.getElem?_toArray, hc, Array.getElem?_eq_getElem (by omega), getElem!_pos _ _ (by omega)]
  · rw [List.getElem?_eq_none (by omega), Array.getElem?_eq_none (by rw [size_madeCells]; omega)]
/-- 'make([]api.Change, n)'. -/
theorem makeC {ops : Array Oper} {rest : List Oper} {o : Oper} {a : Act} {w : World} {Q : Exit → Act → World → Prop} (hgd : o.guard = none) (l c : Operand) (hop : o.op = Op.makeSlice 30 l c) (L : Int) (n : Nat) (hl : a.eval l = .int .i64 L) (hc : a.eval c = .int .i64 L) (hL : L = (n : Int)) (hn : n * 64 ≤ 281474976710656)
    (h : ∀ w', Hid (BlkIs w' w.heap.size 45 (flat (fun _ => zeroC) (fun _ => none) (fun _ => 0) n).toArray) → Hid (Below w.heap.size w w') → Hid (w'.heap.size = w.heap.size + 1) → wpList Try.prog ops Q rest (a.put o.dst (.slice (some ⟨w.heap.size, 0, none⟩) n n)) w') : wpList Try.prog ops Q (o :: rest) a w := by
  subst hL
  obtain ⟨i, hi, hz0, hz1, hz2⟩ := info_parts info_chg3
  refine wpList_plain hgd fun K hK => ?_
  have hrun := run_make (P := Try.prog) w 30 45 i _ und_chl hi hz0 .i64 .i64 (n : Int) (n : Int) (by omega) (by omega) (by rw [hz2]; omega) (by omega)
  rw [hz1, Int.toNat_natCast] at hrun
  have hm : madeCells (Value.agg ((zarr 32) ++ #[(.bool false : Value), .slice none 0 0])).cells (n * 34) = (flat (fun _ => zeroC) (fun _ => none) (fun _ => 0) n).toArray := made_flat n
  rw [hm] at hrun
  have h2 := h _ (BlkIs.new w 45 _) ((Below.refl _ _).alloc (Nat.le_refl _) _) (by show _ = _; simp)
  unfold Oper.wp execOp
  simp only [hop, hl, hc, Sem.run_bind, hrun, Result.andThen_ok, Sem.run_pure]
  exact hK _ _ h2
theorem roo_front {w : World} {g : Nat} {t : TypeId} {xs : List Nat} (h : BlkB w g t (rooN xs)) (hB : IsB xs) : RB w (some ⟨g, 0, none⟩) xs.length xs := by
  have h1 := (h.rb hB rfl).take (k := xs.length) (by omega)
  rwa [rooN_take] at h1
/-- A list of changes with two behind it, each value with bytes behind it; the values' lists at V. All its blocks lie from base on, below top. -/
structure Roo (w : World) (base top g N : Nat) (X : Nat → Chg) (Gv : Nat → Nat) (V : Option Addr) : Prop where
  blk : ∃ Z Ad Cp, BlkIs w g 45 (flat Z Ad Cp (N + 2)).toArray ∧ (∀ i, i < N → Z i = X i ∧ Ad i = some ⟨Gv i, 0, none⟩ ∧ Cp i = (X i).val.length + 100) ∧ Z N = sp0 ∧ Ad N = some ⟨Gv N, 0, none⟩ ∧ Cp N = 1 ∧ Z (N + 1) = sp1 ∧ Ad (N + 1) = none ∧ Cp (N + 1) = 0
  key : ∀ i, i < N → IsB (X i).key ∧ (X i).key.length = 32
  isB : ∀ i, i < N → IsB (X i).val
  val : ∀ i, i < N → BlkB w (Gv i) 5 (rooN (X i).val)
  spv : BlkB w (Gv N) 5 [202]
  ng : ∀ i, i ≤ N → Gv i ≠ g
  inj : ∀ i j, i ≤ N → j ≤ N → Gv i = Gv j → i = j
  lo : base ≤ g ∧ g < top ∧ ∀ i, i ≤ N → base ≤ Gv i ∧ Gv i < top
  len : ∀ i, i < N → (X i).val.length + 100 ≤ 140737488355328
  room : N + 2 ≤ maxLen ∧ top ≤ w.heap.size
  vals : ∀ i, i < N → ∃ b, V = some ⟨b, 0, none⟩ ∧ base ≤ b ∧ b < top ∧ b ≠ g ∧ (∀ j, j ≤ N → b ≠ Gv j) ∧ w.cell? ⟨b, i, none⟩ = some (.slice (some ⟨Gv i, 0, none⟩) ((X i).val.length + 100) ((X i).val.length + 100))
section
variable {w w' : World} {base top g N : Nat} {X : Nat → Chg} {Gv : Nat → Nat} {V : Option Addr}
theorem Roo.same (h : Roo w base top g N X Gv V) (hs : w.heap.size ≤ w'.heap.size) (hk : ∀ k, base ≤ k → k < top → w'.heap[k]? = w.heap[k]?) : Roo w' base top g N X Gv V := by
  obtain ⟨Z, Ad, Cp, hb, hr⟩ := h.blk
  exact { h with
    blk := ⟨Z, Ad, Cp, (hk g h.lo.1 h.lo.2.1).trans hb, hr⟩
    val := fun i hi => (hk _ (h.lo.2.2 i (by omega)).1 (h.lo.2.2 i (by omega)).2).trans (h.val i hi)
    spv := (hk _ (h.lo.2.2 N (by omega)).1 (h.lo.2.2 N (by omega)).2).trans h.spv
    room := ⟨h.room.1, Nat.le_trans h.room.2 hs⟩
    vals := fun i hi => by
      obtain ⟨b, e, h1, h2, h3, h4, h5⟩ := h.vals i hi
      exact ⟨b, e, h1, h2, h3, h4, (World.cell?_of_block (a := ⟨b, i, none⟩) (hk b h1 h2)).trans h5⟩ }
theorem Roo.below (h : Roo w base top g N X Gv V) (hb : Below w.heap.size w w') : Roo w' base top g N X Gv V :=
  h.same hb.size fun k _ hk => hb.block k (by have := h.room.2; omega)
theorem BlkIs.rangeMid {t : TypeId} {cs : List Value} (h : BlkIs w g t cs.toArray) {o : Nat} {ds : List Value} (hd : ∀ j v, ds[j]? = some v → cs[o + j]? = some v) : w.rangeAt g o ds := fun j v hj => by
  rw [BlkIs.cell h, List.getElem?_toArray]
  exact hd j v hj
theorem flat_range {Z : Nat → Chg} {Ad : Nat → Option Addr} {Cp : Nat → Nat} {n i : Nat} {t : TypeId} (h : BlkIs w g t (flat Z Ad Cp n).toArray) (hk : ∀ i, i < n → (Z i).key.length = 32) (hi : i < n) : w.rangeAt g (i * 34) (chC (Z i) (Ad i) (Cp i)) :=
  BlkIs.rangeMid h fun j v hj => by
    have hj34 : j < 34 := by
      have := (List.getElem?_eq_some_iff.1 hj).1
      rwa [chC_length (hk i hi)] at this
    rw [flat_at hk hi hj34]
    exact hj
theorem Roo.keys (h : Roo w base top g N X Gv V) {Z : Nat → Chg} (hz : (∀ i, i < N → Z i = X i) ∧ Z N = sp0 ∧ Z (N + 1) = sp1) : ∀ i, i < N + 2 → (Z i).key.length = 32 := fun i hi => by
  by_cases h1 : i < N
  · rw [hz.1 i h1]; exact (h.key i h1).2
  · by_cases h2 : i = N
    · rw [h2, hz.2.1]; exact spKey_length _
    · rw [show i = N + 1 by omega, hz.2.2]; exact spKey_length _
/-- The list itself. -/
theorem Roo.front (h : Roo w base top g N X Gv V) : ChsAt w (some ⟨g, 0, none⟩) N X := by
  obtain ⟨Z, Ad, Cp, hb, hr, h0, h1, h2, h3, h4, h5⟩ := h.blk
  have hk := h.keys ⟨fun i hi => (hr i hi).1, h0, h3⟩
  refine ⟨by have := h.room.1; omega, fun i hi => ⟨g, 0, some ⟨Gv i, 0, none⟩, (X i).val.length + 100, rfl, BlkIs.lt hb, ?_, (h.key i hi).1, (h.key i hi).2, ?_, by omega, by have := h.len i hi; unfold maxLen; omega, fun e => by cases e⟩⟩
  · have h6 := flat_range hb hk (i := i) (by omega)
    obtain ⟨e1, e2, e3⟩ := hr i hi
    rwa [e1, e2, e3, show i * 34 = 0 + i * 34 by omega] at h6
  · exact roo_front (h.val i hi) (h.isB i hi)
/-- The two behind it. -/
theorem Roo.back (h : Roo w base top g N X Gv V) : ChsAt w (some ⟨g, N * 34, none⟩) 2 spX := by
  obtain ⟨Z, Ad, Cp, hb, hr, h0, h1, h2, h3, h4, h5⟩ := h.blk
  have hk := h.keys ⟨fun i hi => (hr i hi).1, h0, h3⟩
  refine ⟨by simp [maxLen], fun i hi => ?_⟩
  have hi2 : i = 0 ∨ i = 1 := by omega
  rcases hi2 with rfl | rfl
  · have h6 := flat_range hb hk (i := N) (by omega)
    rw [h0, h1, h2] at h6
    refine ⟨g, N * 34, some ⟨Gv N, 0, none⟩, 1, rfl, BlkIs.lt hb, ?_, spKey_isB (by omega), spKey_length _, ?_, Nat.le_refl _, by simp [maxLen], fun e => by cases e⟩
    · rwa [Nat.zero_mul, Nat.add_zero]
    · exact h.spv.whole (n := 1) (IsB.one (by omega)) rfl
  · have h6 := flat_range hb hk (i := N + 1) (by omega)
    rw [h3, h4, h5] at h6
    refine ⟨g, N * 34, none, 0, rfl, BlkIs.lt hb, ?_, spKey_isB (by omega), spKey_length _, RB.nil _ _, Nat.le_refl _, Nat.zero_le _, fun _ => rfl⟩
    rwa [show N * 34 + 1 * 34 = (N + 1) * 34 by omega]
/-- A value with what stands behind it. -/
theorem Roo.whole (h : Roo w base top g N X Gv V) {i : Nat} (hi : i < N) : RB w (some ⟨Gv i, 0, none⟩) ((X i).val.length + 100) (rooN (X i).val) := (h.val i hi).rb (h.isB i hi) rfl
end
end Go.Proofs.Ytkpbeibcfaenhaa

/- ledgerlaw3.roomyChanges. -/
namespace Go.Proofs.Ytkpbeibcfaenhaa
open Go.RowKit
def valsL (X : Nat → Chg) (Gv : Nat → Nat) (i : Nat) : List Value := (List.range i).map fun k => .slice (some ⟨Gv k, 0, none⟩) ((X k).val.length + 100) ((X k).val.length + 100)
theorem valsL_succ (X : Nat → Chg) (Gv : Nat → Nat) (i : Nat) : valsL X Gv (i + 1) = valsL X Gv i ++ [.slice (some ⟨Gv i, 0, none⟩) ((X i).val.length + 100) ((X i).val.length + 100)] := by simp [valsL, List.range_succ]
theorem valsL_congr {X : Nat → Chg} {Gv Gv' : Nat → Nat} {i : Nat} (h : ∀ k, k < i → Gv k = Gv' k) : valsL X Gv i = valsL X Gv' i := by
  unfold valsL
  exact List.map_congr_left fun k hk => by rw [h k (List.mem_range.1 hk)]
/-- How far roomyChanges is. -/
structure RooI (w0 : World) (g N : Nat) (X : Nat → Chg) (i : Nat) (v : Value) (Z : Nat → Chg) (Ad : Nat → Option Addr) (Cp : Nat → Nat) (Gv : Nat → Nat) (w : World) : Prop where
  below : Below w0.heap.size w0 w
  ge : w0.heap.size ≤ g
  blk : BlkIs w g 45 (flat Z Ad Cp (N + 2)).toArray
  key : ∀ k, k < N + 2 → (Z k).key.length = 32
  done : ∀ k, k < i → Z k = X k ∧ Ad k = some ⟨Gv k, 0, none⟩ ∧ Cp k = (X k).val.length + 100
  val : ∀ k, k < i → BlkB w (Gv k) 5 (rooN (X k).val) ∧ g < Gv k
  inj : ∀ k l, k < i → l < i → Gv k = Gv l → k = l
  row : w.ownsRow (g + 1) 31 1 v i (valsL X Gv i)
  ne : ∀ k, k < i → v.ownBlock ≠ some (Gv k)
section
variable {w0 w1 w2 w3 w : World} {g N i : Nat} {X Z : Nat → Chg} {v v' : Value} {Ad : Nat → Option Addr} {Cp Gv : Nat → Nat}
theorem RooI.row_ge (h : RooI w0 g N X i v Z Ad Cp Gv w) : ∀ k, v.ownBlock = some k → g + 1 ≤ k ∧ k < w.heap.size := h.row.lt
/-- Behind a value's copy and its append. -/
theorem RooI.app (h : RooI w0 g N X i v Z Ad Cp Gv w) (hb : Below w.heap.size w w1) (hg : w1.grownBy w2 v.ownBlock) : Below w0.heap.size w0 w2 ∧ BlkIs w2 g 45 (flat Z Ad Cp (N + 2)).toArray := by
  have h1 : Below w0.heap.size w0 w1 := h.below.trans (hb.mono h.below.size)
  refine ⟨h1.grown hg h1.size fun k hk => by have := h.row_ge k hk; have := h.ge; omega, ?_⟩
  exact BlkIs.grown (BlkIs.below h.blk hb) hg fun e => by have := h.row_ge _ e.symm; omega
/-- One more change is laid. -/
theorem RooI.step (h : RooI w0 g N X i v Z Ad Cp Gv w) (hi : i < N) (hk : (X i).key.length = 32) {gv : Nat} (hb : Below w.heap.size w w1) (hgv : w.heap.size ≤ gv) (hB : BlkB w1 gv 5 (rooN (X i).val))
    (ho : w2.ownsRow (g + 1) 31 1 v' (i + 1) (valsL X Gv i ++ [.slice (some ⟨gv, 0, none⟩) ((X i).val.length + 100) ((X i).val.length + 100)])) (hg : w1.grownBy w2 v.ownBlock) (hl : Lies w1 v v')
    (hs : BlkIs w3 g 45 (splice (flat Z Ad Cp (N + 2)) (i * 34) (chC (X i) (some ⟨gv, 0, none⟩) ((X i).val.length + 100))).toArray) (hg3 : w2.grownBy w3 (some g)) :
    RooI w0 g N X (i + 1) v' (upd Z i (X i)) (upd Ad i (some ⟨gv, 0, none⟩)) (upd Cp i ((X i).val.length + 100)) (upd Gv i gv) w3 := by
  have h2 := h.app hb hg
  have hlt := BlkIs.lt h.blk
  have hold : ∀ k, k < i → Gv k < w.heap.size := fun k hk => BlkIs.lt (h.val k hk).1
  have hv' : ∀ k, v'.ownBlock = some k → v.ownBlock = some k ∨ w1.heap.size ≤ k := hl
  have hgv1 := BlkIs.lt hB
  have hvb : ∀ {b : Nat} {xs : List Nat}, BlkB w1 b 5 xs → v.ownBlock ≠ some b → b ≠ g → BlkB w3 b 5 xs := fun hx hne hng => BlkIs.grown (BlkIs.grown hx hg (fun e => hne e.symm)) hg3 (fun e => hng (by injection e))
  refine { below := h2.1.grown hg3 h2.1.size fun k hk => by injection hk with hk; rw [← hk]; exact h.ge, ge := h.ge, blk := ?_, key := ?_, done := ?_, val := ?_, inj := ?_, row := ?_, ne := ?_ }
  · rw [← flat_splice h.key (by omega) hk]
    exact hs
  · intro k hk'
    by_cases e : k = i
    · rw [e, upd_same]; exact hk
    · rw [upd_other _ _ e]; exact h.key k hk'
  · intro k hk'
    by_cases e : k = i
    · rw [e, upd_same, upd_same, upd_same, upd_same]; exact ⟨rfl, rfl, rfl⟩
    · rw [upd_other _ _ e, upd_other _ _ e, upd_other _ _ e, upd_other _ _ e]; exact h.done k (by omega)
  · intro k hk'
    by_cases e : k = i
    · rw [e, upd_same]
      exact ⟨hvb hB (fun e => by have := h.row_ge _ e; omega) (by omega), by omega⟩
    · rw [upd_other _ _ e]
      have hk2 : k < i := by omega
      exact ⟨hvb (BlkIs.below (h.val k hk2).1 hb) (h.ne k hk2) (by have := (h.val k hk2).2; omega), (h.val k hk2).2⟩
  · intro k l hk' hl' he
    by_cases e1 : k = i <;> by_cases e2 : l = i
    · omega
    · rw [e1, upd_same, upd_other _ _ e2] at he
      have := hold l (by omega)
      omega
    · rw [e2, upd_same, upd_other _ _ e1] at he
      have := hold k (by omega)
      omega
    · rw [upd_other _ _ e1, upd_other _ _ e2] at he
      exact h.inj k l (by omega) (by omega) he
  · rw [valsL_succ, upd_same, valsL_congr (Gv' := Gv) fun k hk => upd_other _ _ (by omega)]
    refine ho.kept hg3 ?_
    rcases hq : v'.ownBlock with _ | k
    · exact .inl rfl
    · refine .inr fun e => ?_
      injection e with e
      have := (ho.lt k hq).1
      omega
  · intro k hk' e
    by_cases e1 : k = i
    · rw [e1, upd_same] at e
      rcases hv' _ e with h1 | h1
      · have := h.row_ge _ h1; omega
      · omega
    · rw [upd_other _ _ e1] at e
      rcases hv' _ e with h1 | h1
      · exact h.ne k (by omega) h1
      · have := hold k (by omega)
        have := hb.size
        omega
end
theorem RooI.finish {w0 w1 w2 w3 w : World} {g N : Nat} {X Z : Nat → Chg} {v : Value} {Ad : Nat → Option Addr} {Cp Gv : Nat → Nat} (h : RooI w0 g N X N v Z Ad Cp Gv w) (hk : ∀ i, i < N → IsB (X i).key ∧ (X i).key.length = 32) (hv : ∀ i, i < N → IsB (X i).val) (hl : ∀ i, i < N → (X i).val.length + 100 ≤ 140737488355328) (hr : N + 2 ≤ maxLen) {gs : Nat} (hb : Below w.heap.size w w1) (hgs : w.heap.size ≤ gs) (hB : BlkB w1 gs 5 [202])
    (hg2 : w1.grownBy w2 (some g)) (hs2 : BlkIs w3 g 45 (splice (splice (flat Z Ad Cp (N + 2)) (N * 34) (chC sp0 (some ⟨gs, 0, none⟩) 1)) ((N + 1) * 34) (chC sp1 none 0)).toArray) (hg3 : w2.grownBy w3 (some g)) :
    ∃ V C, v = .slice V N C ∧ Roo w3 w0.heap.size w3.heap.size g N X (upd Gv N gs) V ∧ N ≤ C ∧ Below w0.heap.size w0 w3 := by
  have hlt := BlkIs.lt h.blk
  have hold : ∀ k, k < N → Gv k < w.heap.size := fun k hk => BlkIs.lt (h.val k hk).1
  have hgl := BlkIs.lt hB
  have hg : w1.grownBy w3 (some g) := grown_trans hg2 hg3
  have h1 : Below w0.heap.size w0 w1 := h.below.trans (hb.mono h.below.size)
  have h3 : Below w0.heap.size w0 w3 := h1.grown hg h1.size fun k hk => by injection hk with hk; rw [← hk]; exact h.ge
  have hsz : w1.heap.size ≤ w3.heap.size := hg.size
  have hvb : ∀ {b : Nat} {xs : List Nat}, BlkB w1 b 5 xs → b ≠ g → BlkB w3 b 5 xs := fun hx hng => BlkIs.grown hx hg (fun e => hng (by injection e))
  have hrow : w3.ownsRow (g + 1) 31 1 v N (valsL X Gv N) := (h.row.kept (grown_of_below hb none) (by cases v.ownBlock <;> simp)).kept hg (by
    rcases hq : v.ownBlock with _ | k
    · exact .inl rfl
    · refine .inr fun e => ?_
      injection e with e
      have := (h.row.lt k hq).1
      omega)
  rw [flat_splice h.key (by omega) (spKey_length _), flat_splice (fun k hk' => by
    by_cases e : k = N
    · rw [e, upd_same]; exact spKey_length _
    · rw [upd_other _ _ e]; exact h.key k hk') (by omega) (spKey_length _)] at hs2
  have hvf : ∃ V C, v = .slice V N C ∧ N ≤ C ∧ (0 < N → ∃ b, V = some ⟨b, 0, none⟩ ∧ v.ownBlock = some b) := by
    rcases h.row.2 with ⟨e1, h0⟩ | ⟨b, cap, cur, e1, _, _, hnc, _, _⟩
    · exact ⟨none, 0, by rw [e1, h0], by omega, fun hp => by omega⟩
    · exact ⟨_, cap, e1, hnc, fun _ => ⟨b, rfl, by rw [e1]; rfl⟩⟩
  obtain ⟨V, C, ev, hC, hV⟩ := hvf
  refine ⟨V, C, ev, ?_, hC, h3⟩
  have hGN : upd Gv N gs N = gs := upd_same _ _ _
  have hGo : ∀ i, i < N → upd Gv N gs i = Gv i := fun i hi => upd_other _ _ (by omega)
  refine { blk := ⟨_, _, _, hs2, ?_, ?_, ?_, ?_, upd_same _ _ _, upd_same _ _ _, upd_same _ _ _⟩, key := hk, isB := hv, val := ?_, spv := ?_, ng := ?_, inj := ?_, lo := ?_, len := hl, room := ⟨hr, Nat.le_refl _⟩, vals := ?_ }
  · intro i hi
    rw [hGo i hi, upd_other _ _ (by omega), upd_other _ _ (by omega), upd_other _ _ (by omega), upd_other _ _ (by omega), upd_other _ _ (by omega), upd_other _ _ (by omega)]
    exact h.done i hi
  · rw [upd_other _ _ (by omega), upd_same]
  · rw [upd_other _ _ (by omega), upd_same, hGN]
  · rw [upd_other _ _ (by omega), upd_same]
  · intro i hi
    rw [hGo i hi]
    exact hvb (BlkIs.below (h.val i hi).1 hb) (by have := (h.val i hi).2; omega)
  · rw [hGN]
    exact hvb hB (by omega)
  · intro i hi
    by_cases e : i = N
    · rw [e, hGN]; omega
    · rw [hGo i (by omega)]; have := (h.val i (by omega)).2; omega
  · intro i j hi hj he
    by_cases e1 : i = N <;> by_cases e2 : j = N
    · omega
    · rw [e1, hGN, hGo j (by omega)] at he; have := hold j (by omega); omega
    · rw [e2, hGN, hGo i (by omega)] at he; have := hold i (by omega); omega
    · rw [hGo i (by omega), hGo j (by omega)] at he; exact h.inj i j (by omega) (by omega) he
  · have := hb.size
    refine ⟨h.ge, by omega, fun i hi => ?_⟩
    by_cases e : i = N
    · rw [e, hGN]; have := h.ge; omega
    · rw [hGo i (by omega)]; have := (h.val i (by omega)).2; have := hold i (by omega); have := h.ge; omega
  · intro i hi
    obtain ⟨b, e1, e2⟩ := hV (by omega)
    have hbl := h.row.lt b e2
    have := hb.size
    have hge := h.ge
    refine ⟨b, e1, by omega, by omega, by omega, fun j hj => ?_, ?_⟩
    · by_cases e : j = N
      · rw [e, hGN]; omega
      · rw [hGo j (by omega)]
        intro e3
        exact h.ne j (by omega) (by rw [e2, e3])
    · have hc := hrow
      rw [ev, e1] at hc
      have := World.ownsRow.cellAt hc i (show i < N * 1 by omega)
      rw [this, hGo i hi]
      simp [valsL, List.getElem?_map, List.getElem?_range hi]
theorem info_bl : (Try.prog.info? 31).map (fun i => (i.zero, i.size, i.bytes)) = some (some (.slice none 0 0), 1, 24) := by kernel_rfl
theorem und_bl : Try.prog.underlying 57 = some (.slice 31) := by kernel_rfl
/-- 'l = append(l, v)' of one list of bytes. -/
theorem append1L {ops : Array Oper} {rest : List Oper} {o : Oper} {a : Act} {Q : Exit → Act → World → Prop} (w : World) (hgd : o.guard = none) (s x : Operand)
    (ho : o.op = .call { callee := .builtin .append, args := #[s, x], argTypes := #[57, 57] })
    (base : Nat) (v : Value) (n : Nat) (xs : List Value) (hown : w.ownsRow base 31 1 v n xs) (A : Option Addr) (l c : Nat) (hs : a.eval s = v) (hx : a.eval x = .slice (some ⟨w.heap.size, 0, none⟩) 1 1)
    (hlen : (n + 1) * 24 ≤ 140737488355328) (hbase : base ≤ w.heap.size)
    (h : ∀ v' w', w'.ownsRow base 31 1 v' (n + 1) (xs ++ [.slice A l c]) → w.grownBy w' v.ownBlock → Lies w v v' → wpList Try.prog ops Q rest (a.put o.dst v') w') :
    wpList Try.prog ops Q (o :: rest) a (w.alloc (.cells #[.slice A l c] 31)) := by
  obtain ⟨i, hi, hz0, hz1, hz2⟩ := info_parts info_bl
  refine wpList_append_own_at (w.alloc (.cells #[.slice A l c] 31)) hgd s x 57 ho base 31 i (.slice none 0 0) 1 24 und_bl hi hz0 hz1 hz2 rfl (by decide) v n xs hs (hown.alloc _)
    ⟨w.heap.size, 0, none⟩ 1 1 [.slice A l c] hx rfl (cell_one_new w (.slice A l c) 31) ?_ (by unfold maxLen; omega) (by omega) (by simp; omega) ?_
  · intro u hu
    simp at hu
    subst hu
    rfl
  · intro v' w' h1 h2 _ h4
    refine h v' w' h1 (grown_trans (World.grownBy_alloc _ _ _) h2) ?_
    intro k hk
    rcases h4 with h4 | h4
    · rw [h4] at hk
      exact .inl hk
    · rw [h4] at hk
      injection hk with hk
      simp at hk
      exact .inr (by omega)
def RoomyRet (N : Nat) (X : Nat → Chg) (w : World) (e : Ending) (w' : World) : Prop := ∃ g V C Gv, e = .returned (.tuple #[.slice (some ⟨g, 0, none⟩) ((N + 2 : Nat)) ((N + 2 : Nat)), .slice V N C]) ∧ Roo w' w.heap.size w'.heap.size g N X Gv V ∧ N ≤ C ∧ Below w.heap.size w w'
set_option maxRecDepth 100000 in
set_option maxHeartbeats 4000000 in
theorem roomyChanges_any (A : Option Addr) (N c : Nat) (X : Nat → Chg) (w : World) (hx : ChsAt w A N X) (hn : N * 64 ≤ 140737488355328) (hv : ∀ k, k < N → (X k).val.length + 100 ≤ 140737488355328) :
    Calls Try.prog 36 #[.slice A N c] w (RoomyRet N X w) := by
  have HX := Lib.hid hx
  have HV := Lib.hid hv
  have hu := und_key
  clear hx hv
  go_enter Try.func36, Try.ntmps36
  go_wp2_with ((with_reducible refine stopAt (o := ⟨some 12, _, _, _, _, _⟩) ?_); refine makeC (o := ⟨some 12, _, _, _, _, _⟩) (by rfl) (.tmp 11) (.tmp 11) rfl _ (N + 2) rfl rfl (by omega) (by omega) ?_; intro w1 HB1 HW1 HS1)
  obtain ⟨M, hM⟩ : ∃ M, N + 2 = M := ⟨_, rfl⟩
  have HM := Lib.hid hM
  rw [hM]
  have hNM : N ≤ M := by omega
  have hNM2 : M ≤ 9007199254740992 := by omega
  clear hM
  have HI0 : Hid (RooI w w.heap.size N X 0 (.slice none 0 0) (fun _ => zeroC) (fun _ => none) (fun _ => 0) (fun _ => 0) w1) :=
    { below := HW1.out, ge := Nat.le_refl _, blk := HB1.out, key := fun _ _ => zs_length 32, done := fun k hk => by omega, val := fun k hk => by omega, inj := fun k l hk => by omega, row := World.ownsRow_nil _ _ _ _, ne := fun k hk => by omega }
  clear HB1 HW1 HS1
  go_loopw [5, 6] (fun v i wr => ∃ k : Nat, k ≤ N ∧ i = .int .i64 k ∧ ∃ Z Ad Cp Gv, Hid (RooI w w.heap.size N X k v Z Ad Cp Gv wr)) (fun _ i _ => N - (intOf i).toNat)
  case atStart => exact ⟨0, by omega, rfl, _, _, _, _, HI0.out⟩
  case round =>
    clear HI0
    obtain ⟨k, hk, rfl, Z, Ad, Cp, Gv, HI⟩ := hrel
    obtain ⟨w2, rfl⟩ : ∃ w2, w2 = wr := ⟨_, rfl⟩
    by_cases hlt : k < N
    · have hlt' : (k : Int) < N := by omega
      have hkM : k < M := by omega
      have hkM' : (k : Int) < M := by omega
      obtain ⟨b, o, Av, Cv, rfl, hb, hr, hkB, hkl, hvr, hvC, hCm, hnil⟩ := HX.out.2 k hlt
      have KS : Hid (∀ W, Below w.heap.size w W → W.rangeAt b (o + k * 34) (bvs (X k).key) ∧ W.cell? ⟨b, o + k * 34 + 32, none⟩ = some (.bool (X k).del) ∧ W.cell? ⟨b, o + k * 34 + 33, none⟩ = some (.slice Av (X k).val.length Cv)) := fun W hW =>
        have h2 := range_below hW hb hr
        ⟨ch_key h2, ch_del h2 hkl, ch_val h2 hkl⟩
      have hsz : (Try.prog.info? 25).map (·.size) = some (bvs (X k).key).length := by rw [size_key]; simp [bvs, hkl]
      have HK := Lib.hid (show IsB (X k).key ∧ (X k).key.length = 32 from ⟨hkB, hkl⟩)
      have HVR := Lib.hid (hvr.below HI.out.below)
      have hvl := HV.out k hlt
      have c33 := (KS.out w2 HI.out.below).2.2
      clear hr hkB hkl hvr hvC hCm hnil hb
      have HKX : Hid ((X k).key.length = 32) := HK.out.2
      go_wp2_with fail
      refine (roomy_any Av (X k).val.length Cv (X k).val w2 HVR.out hvl).mono ?_
      rintro e w3 ⟨gv, rfl, hgv, hblk, hbw⟩
      have HGV := Lib.hid (show w2.heap.size ≤ gv ∧ BlkB w3 gv 5 (rooN (X k).val) ∧ Below w2.heap.size w2 w3 from ⟨hgv, hblk, hbw⟩)
      have hrow := Lib.hid (HI.out.row.kept (grown_of_below hbw none) (by cases u5.ownBlock <;> simp))
      have hbase : w.heap.size + 1 ≤ w3.heap.size := by have h1 := BlkIs.lt HI.out.blk; have h2 := hbw.size; omega
      clear hgv hblk hbw c33
      go_wp2_with ((with_reducible refine stopAt (o := ⟨some 28, _, _, _, _, _⟩) ?_); refine append1L (o := ⟨some 28, _, _, _, _, _⟩) w3 rfl (.tmp 25) (.tmp 27) rfl (w.heap.size + 1) u5 k _ hrow.out (some ⟨gv, 0, none⟩) ((X k).val.length + 100) ((X k).val.length + 100) rfl rfl (by omega) hbase ?_; intro v4 w4 ho4 hg4 hl4; have HA4 := Lib.hid (show _ ∧ _ ∧ _ from ⟨ho4, hg4, hl4⟩); clear ho4 hg4 hl4)
      have HP := Lib.hid (HI.out.app HGV.out.2.2 HA4.out.2.1)
      clear hrow hbase
      have hwl : (X k).val.length ≤ (X k).val.length + 100 := by omega
      have hwl' : ((X k).val.length : Int) ≤ ((X k).val.length : Int) + 100 := by omega
      go_wp2_with fail
      rename_i KK hKK
      have HKK := Lib.hid hKK
      clear hKK
      refine wp_region_held_drew (S := fun w' => w'.rangeAt b (o + k * 34) (bvs (X k).key) ∧ w'.cell? ⟨b, o + k * 34 + 32, none⟩ = some (.bool (X k).del) ∧ w'.cell? ⟨b, o + k * 34 + 33, none⟩ = some (.slice Av (X k).val.length Cv)) (by kernel_rfl) (KS.out _ (drewN_below HP.out.1 1)) fun hH => ?_
      refine wpAnyH_take (i := 0) (oi := ⟨some 29, _, _, _, _, _⟩) rfl (by kernel_rfl) (by kernel_rfl) (by kernel_rfl) (fun _ _ _ h => h) (Or.inl ⟨by rfl, fun w hw => by ((try dsimp only at hw); go_split_ands; go_simp; with_reducible rfl)⟩) (by assumption) ?_
      try simp only [Act.put, List.setIfInBounds_toArray, List.set_cons_zero, List.set_cons_succ]
      refine wpAnyH_take (i := 1) (oi := ⟨some 30, _, _, _, _, _⟩) rfl (by kernel_rfl) (by kernel_rfl) (by kernel_rfl) (fun _ _ _ h => h) (Or.inl ⟨by rfl, fun w hw => by ((try dsimp only at hw); go_split_ands; go_simp; with_reducible rfl)⟩) (by assumption) ?_
      try simp only [Act.put, List.setIfInBounds_toArray, List.set_cons_zero, List.set_cons_succ]
      refine wpAnyH_take (i := 2) (oi := ⟨some 31, _, _, _, _, _⟩) rfl (by kernel_rfl) (by kernel_rfl) (by kernel_rfl) (fun _ _ _ h => h) (Or.inl ⟨by rfl, fun w hw => by ((try dsimp only at hw); go_split_ands; go_simp; with_reducible rfl)⟩) (by assumption) ?_
      try simp only [Act.put, List.setIfInBounds_toArray, List.set_cons_zero, List.set_cons_succ]
      refine wpAnyH_take (i := 3) (oi := ⟨some 32, _, _, _, _, _⟩) rfl (by kernel_rfl) (by kernel_rfl) (by kernel_rfl) (fun _ _ _ h => h) (Or.inl ⟨by rfl, fun w hw => by ((try dsimp only at hw); go_split_ands; go_simp; with_reducible rfl)⟩) (by assumption) ?_
      try simp only [Act.put, List.setIfInBounds_toArray, List.set_cons_zero, List.set_cons_succ]
      refine wpAnyH_take (i := 4) (oi := ⟨some 33, _, _, _, _, _⟩) rfl (by kernel_rfl) (by kernel_rfl) (by kernel_rfl) (fun _ _ _ h => h) (Or.inl ⟨by rfl, fun w hw => by ((try dsimp only at hw); go_split_ands; go_simp; with_reducible rfl)⟩) (by assumption) ?_
      try simp only [Act.put, List.setIfInBounds_toArray, List.set_cons_zero, List.set_cons_succ]
      refine wpAnyH_take (i := 5) (oi := ⟨some 34, _, _, _, _, _⟩) rfl (by kernel_rfl) (by kernel_rfl) (by kernel_rfl) (fun _ _ _ h => h) (Or.inl ⟨by rfl, fun w hw => by ((try dsimp only at hw); go_split_ands; go_simp; with_reducible rfl)⟩) (by assumption) ?_
      try simp only [Act.put, List.setIfInBounds_toArray, List.set_cons_zero, List.set_cons_succ]
      refine wpAnyH_take (i := 6) (oi := ⟨some 35, _, _, _, _, _⟩) rfl (by kernel_rfl) (by kernel_rfl) (by kernel_rfl) (fun _ _ _ h => h) (yieldsIf_load_mid (by rfl) _ _ rfl _ _ rfl _ _ (fun w hw => by (try dsimp only at hw); go_split_ands; assumption) (by assumption) rfl (by assumption)) (by assumption) ?_
      try simp only [Act.put, List.setIfInBounds_toArray, List.set_cons_zero, List.set_cons_succ]
      refine wpAnyH_take (i := 7) (oi := ⟨some 36, _, _, _, _, _⟩) rfl (by kernel_rfl) (by kernel_rfl) (by kernel_rfl) (fun _ _ _ h => h) (Or.inl ⟨by rfl, fun w hw => by ((try dsimp only at hw); go_split_ands; go_simp; with_reducible rfl)⟩) (by assumption) ?_
      try simp only [Act.put, List.setIfInBounds_toArray, List.set_cons_zero, List.set_cons_succ]
      refine wpAnyH_take (i := 8) (oi := ⟨some 37, _, _, _, _, _⟩) rfl (by kernel_rfl) (by kernel_rfl) (by kernel_rfl) (fun _ _ _ h => h) (Or.inl ⟨by rfl, fun w hw => by ((try dsimp only at hw); go_split_ands; go_simp; with_reducible rfl)⟩) (by assumption) ?_
      try simp only [Act.put, List.setIfInBounds_toArray, List.set_cons_zero, List.set_cons_succ]
      refine wpAnyH_take (i := 9) (oi := ⟨some 38, _, _, _, _, _⟩) rfl (by kernel_rfl) (by kernel_rfl) (by kernel_rfl) (fun _ _ _ h => h) (Or.inl ⟨by rfl, fun w hw => by ((try dsimp only at hw); go_split_ands; go_simp; with_reducible rfl)⟩) (by assumption) ?_
      try simp only [Act.put, List.setIfInBounds_toArray, List.set_cons_zero, List.set_cons_succ]
      refine wpAnyH_take (i := 10) (oi := ⟨some 39, _, _, _, _, _⟩) rfl (by kernel_rfl) (by kernel_rfl) (by kernel_rfl) (fun _ _ _ h => h) (Or.inl ⟨by rfl, fun w hw => by ((try dsimp only at hw); go_split_ands; go_simp; with_reducible rfl)⟩) (by assumption) ?_
      try simp only [Act.put, List.setIfInBounds_toArray, List.set_cons_zero, List.set_cons_succ]
      refine wpAnyH_take (i := 11) (oi := ⟨some 40, _, _, _, _, _⟩) rfl (by kernel_rfl) (by kernel_rfl) (by kernel_rfl) (fun _ _ _ h => h) (Or.inl ⟨by rfl, fun w hw => by ((try dsimp only at hw); go_split_ands; go_simp; with_reducible rfl)⟩) (by assumption) ?_
      try simp only [Act.put, List.setIfInBounds_toArray, List.set_cons_zero, List.set_cons_succ]
      refine wpAnyH_take (i := 12) (oi := ⟨some 41, _, _, _, _, _⟩) rfl (by kernel_rfl) (by kernel_rfl) (by kernel_rfl) (fun _ _ _ h => h) (Or.inl ⟨by rfl, fun w hw => by ((try dsimp only at hw); go_split_ands; go_simp; with_reducible rfl)⟩) (by assumption) ?_
      try simp only [Act.put, List.setIfInBounds_toArray, List.set_cons_zero, List.set_cons_succ]
      refine wpAnyH_take (i := 13) (oi := ⟨some 42, _, _, _, _, _⟩) rfl (by kernel_rfl) (by kernel_rfl) (by kernel_rfl) (fun _ _ _ h => h) (Or.inl ⟨by rfl, fun w hw => by ((try dsimp only at hw); go_split_ands; go_simp; with_reducible rfl)⟩) (by assumption) ?_
      try simp only [Act.put, List.setIfInBounds_toArray, List.set_cons_zero, List.set_cons_succ]
      refine wpAnyH_take (i := 14) (oi := ⟨some 43, _, _, _, _, _⟩) rfl (by kernel_rfl) (by kernel_rfl) (by kernel_rfl) (fun _ _ _ h => h) (Or.inl ⟨by rfl, fun w hw => by ((try dsimp only at hw); go_split_ands; go_simp; with_reducible rfl)⟩) (by assumption) ?_
      try simp only [Act.put, List.setIfInBounds_toArray, List.set_cons_zero, List.set_cons_succ]
      refine wpAnyH_take (i := 15) (oi := ⟨some 44, _, _, _, _, _⟩) rfl (by kernel_rfl) (by kernel_rfl) (by kernel_rfl) (fun _ _ _ h => h) (Or.inl ⟨by rfl, fun w hw => by ((try dsimp only at hw); go_split_ands; go_simp; with_reducible rfl)⟩) (by assumption) ?_
      try simp only [Act.put, List.setIfInBounds_toArray, List.set_cons_zero, List.set_cons_succ]
      refine wpAnyH_take (i := 16) (oi := ⟨some 45, _, _, _, _, _⟩) rfl (by kernel_rfl) (by kernel_rfl) (by kernel_rfl) (fun _ _ _ h => h) (Or.inl ⟨by rfl, fun w hw => by ((try dsimp only at hw); go_split_ands; go_simp; with_reducible rfl)⟩) (by assumption) ?_
      try simp only [Act.put, List.setIfInBounds_toArray, List.set_cons_zero, List.set_cons_succ]
      refine wpAnyH_take (i := 17) (oi := ⟨some 46, _, _, _, _, _⟩) rfl (by kernel_rfl) (by kernel_rfl) (by kernel_rfl) (fun _ _ _ h => h) (Or.inl ⟨by rfl, fun w hw => by ((try dsimp only at hw); go_split_ands; go_simp; with_reducible rfl)⟩) (by assumption) ?_
      try simp only [Act.put, List.setIfInBounds_toArray, List.set_cons_zero, List.set_cons_succ]
      refine wpAnyH_take (i := 18) (oi := ⟨some 47, _, _, _, _, _⟩) rfl (by kernel_rfl) (by kernel_rfl) (by kernel_rfl) (fun _ _ _ h => h) (Or.inl ⟨by rfl, fun w hw => by ((try dsimp only at hw); go_split_ands; go_simp; with_reducible rfl)⟩) (by assumption) ?_
      try simp only [Act.put, List.setIfInBounds_toArray, List.set_cons_zero, List.set_cons_succ]
      refine wpAnyH_take (i := 19) (oi := ⟨some 48, _, _, _, _, _⟩) rfl (by kernel_rfl) (by kernel_rfl) (by kernel_rfl) (fun _ _ _ h => h) (Or.inl ⟨by rfl, fun w hw => by ((try dsimp only at hw); go_split_ands; go_simp; with_reducible rfl)⟩) (by assumption) ?_
      try simp only [Act.put, List.setIfInBounds_toArray, List.set_cons_zero, List.set_cons_succ]
      refine wpAnyH_ready (rs := [20]) (by kernel_rfl) (by simp) ?_
      refine AllReadyH.cons (o := ⟨some 49, _, _, _, _, _⟩) rfl (fun K hK => ?_) (AllReadyH.nil)
      refine wpOp_build (o := ⟨some 49, _, _, _, _, _⟩) ?hw1 w4.drew 45 #[(0, .tmp 35), (1, .tmp 40), (2, .tmp 48)] rfl [(0, .agg (bvs (X k).key).toArray), (1, .bool (X k).del), (2, .slice (some ⟨gv, 0, none⟩) (X k).val.length ((X k).val.length + 100))] ?hv1 _ (built_ch HKX.out) ?hh1
      case hw1 => kernel_rfl
      case hv1 => simp [go_sem]
      refine hK.out _ _ (KS.out _ (drewN_below HP.out.1 1)) (fun hH2 => ?_)
      clear hK hH
      refine wpAnyH_take (i := 21) (oi := ⟨some 50, _, _, _, _, _⟩) rfl (by kernel_rfl) (by kernel_rfl) (by kernel_rfl) (fun _ _ _ h => h) (Or.inl ⟨by rfl, fun w hw => by ((try dsimp only at hw); go_split_ands; go_simp; with_reducible rfl)⟩) (by assumption) ?_
      try simp only [Act.put, List.setIfInBounds_toArray, List.set_cons_zero, List.set_cons_succ]
      refine wpAnyH_ready (rs := [22]) (by kernel_rfl) (by simp) ?_
      refine AllReadyH.cons (o := ⟨none, _, _, _, _, _⟩) rfl (fun K hK => ?_) (AllReadyH.nil)
      refine wpOp_storeMid (o := ⟨none, _, _, _, _, _⟩) ?hw2 45 (.tmp 50) (.tmp 49) rfl w.heap.size (k * 34) (chC (X k) (some ⟨gv, 0, none⟩) ((X k).val.length + 100)) (flat Z Ad Cp (N + 2)) 45 ?hx2 ?hy2 (BlkIs.drew HP.out.2) (by rw [size_chg, chC_length HKX.out]) (by rw [chC_length HKX.out, flat_length HI.out.key]; omega) chC_one ?hh2
      case hw2 => kernel_rfl
      case hx2 => simp [go_sem]
      case hy2 => rfl
      intro w5 HA5 HG5 HS5
      have HI5 := Lib.hid (HI.out.step hlt HKX.out HGV.out.2.2 HGV.out.1 HGV.out.2.1 HA4.out.1 HA4.out.2.1 HA4.out.2.2 HA5.out (grown_trans (grown_of_below (drewN_below (Below.refl _ _) 1) _) HG5.out))
      refine hK.out _ _ (KS.out _ HI5.out.below) (fun hH3 => ?_)
      clear hK hH2
      refine wpAnyH_done (by kernel_rfl) ?_ _
      change KK _ _
      refine HKK.out _ _ ?_
      clear hH3 hsz hwl hwl'
      go_wp2_with fail
      go_roundw
      case rel => exact ⟨k + 1, by omega, by go_num, _, _, _, _, HI5.out⟩
      case measure => simp [intOf]; omega
    · have hnlt : ¬ (k : Int) < N := by omega
      obtain rfl : k = N := by omega
      have hN2 : k + 2 = M := HM.out
      go_wp2_with fail
      refine (spare_any w2).mono ?_
      rintro e w3 ⟨g2, gs, rfl, hg2, hgs, hne2, hB2, hBs, hb3⟩
      have HS := Lib.hid (show _ ∧ _ ∧ _ ∧ _ ∧ _ from ⟨hg2, hgs, hB2, hBs, hb3⟩)
      have hG3 : Hid (BlkIs w3 w.heap.size 45 (flat Z Ad Cp (k + 2)).toArray) := BlkIs.below HI.out.blk hb3
      have HL : Hid ((flat Z Ad Cp (k + 2)).length = (k + 2) * 34) := flat_length HI.out.key
      have HGN : Hid (w.heap.size ≠ g2) := by show _ ≠ _; have := BlkIs.lt HI.out.blk; omega
      have hr0 : Hid (w3.rangeAt g2 0 (chC sp0 (some ⟨gs, 0, none⟩) 1)) := BlkIs.rangeMid hB2 fun j v hj => by rw [Nat.zero_add, List.getElem?_append_left (List.getElem?_eq_some_iff.1 hj).1]; exact hj
      have hr1 : Hid (∀ W, w3.grownBy W (some w.heap.size) → W.rangeAt g2 34 (chC sp1 none 0)) := fun W hW => BlkIs.rangeMid (BlkIs.grown hB2 hW (fun e => HGN.out (by injection e with e; exact e.symm))) fun j v hj => by
        rw [List.getElem?_append_right (by rw [chC_length (spKey_length _)]; omega), chC_length (spKey_length _), Nat.add_sub_cancel_left]
        exact hj
      clear hg2 hgs hne2 hB2 hBs hb3
      have hkM : k < M := by omega
      have hkM' : (k : Int) < M := by omega
      have hkM2 : k + 1 < M := by omega
      have hkM3 : (k : Int) + 1 < M := by omega
      clear hN2
      go_wp2_with (first
        | ((with_reducible refine stopAt (o := ⟨some 57, _, _, _, _, _⟩) ?_); refine loadRange (o := ⟨some 57, _, _, _, _, _⟩) (by rfl) 45 (.tmp 56) rfl g2 0 _ rfl hr0.out row_chg (by rw [size_chg, chC_length (spKey_length _)]) ?_)
        | ((with_reducible refine stopAt (o := ⟨none, .store _ (.tmp 58) _, _, _, _, _⟩) ?_); refine storeMid (o := ⟨none, _, _, _, _, _⟩) (by rfl) 45 (.tmp 58) (.tmp 57) rfl w.heap.size (k * 34) (chC sp0 (some ⟨gs, 0, none⟩) 1) (flat Z Ad Cp (k + 2)) 45 rfl rfl hG3.out (by rw [size_chg, chC_length (spKey_length _)]) (by rw [chC_length (spKey_length _), HL.out]; omega) chC_one ?_; intro w4 HA4 HG4 HS4)
        | ((with_reducible refine stopAt (o := ⟨some 65, _, _, _, _, _⟩) ?_); refine loadRange (o := ⟨some 65, _, _, _, _, _⟩) (by rfl) 45 (.tmp 64) rfl g2 34 _ rfl (hr1.out _ HG4.out) row_chg (by rw [size_chg, chC_length (spKey_length _)]) ?_)
        | ((with_reducible refine stopAt (o := ⟨none, .store _ (.tmp 66) _, _, _, _, _⟩) ?_); refine storeMid (o := ⟨none, _, _, _, _, _⟩) (by rfl) 45 (.tmp 66) (.tmp 65) rfl w.heap.size ((k + 1) * 34) (chC sp1 none 0) _ 45 rfl rfl HA4.out (by rw [size_chg, chC_length (spKey_length _)]) (by rw [length_splice _ _ _ (by rw [chC_length (spKey_length _), HL.out]; omega), chC_length (spKey_length _), HL.out]; omega) chC_one ?_; intro w5 HA5 HG5 HS5))
      obtain ⟨V, C, ev, hR, hC, hB⟩ := HI.out.finish (w1 := w3) (w2 := w4) (w3 := w5) (fun i hi => by obtain ⟨_, _, _, _, _, _, _, h1, h2, _⟩ := HX.out.2 i hi; exact ⟨h1, h2⟩) (fun i hi => by obtain ⟨_, _, _, _, _, _, _, _, _, h3, _⟩ := HX.out.2 i hi; exact h3.isB) HV.out (by unfold maxLen; omega) HS.out.2.2.2.2 HS.out.2.1 HS.out.2.2.2.1 HG4.out HA5.out HG5.out
      rw [← HM.out]
      subst ev
      go_ret2
      exact ⟨w.heap.size, V, C, _, rfl, hR, hC, hB⟩
end Go.Proofs.Ytkpbeibcfaenhaa
