/- Arrays of bytes, as values and as blocks. -/
import Derived.Test.YtkpbeibcfaenhaaChecked
import Derived.Test.YtkpbeibcfaenhaaLib2
import Derived.Laws.CopyOwn
import Derived.Deep.WholeRow
import Derived.Stop.BytesEq
import Derived.Laws.ResultCell
import Derived.Deep.MidRow
namespace Go.Proofs.Ytkpbeibcfaenhaa
open Go.RowKit
def zs (n : Nat) : List Nat := List.replicate n 0
theorem zs_length (n : Nat) : (zs n).length = n := by simp [zs]
theorem zs_isB (n : Nat) : IsB (zs n) := by
  intro x hx
  simp only [zs, List.mem_replicate] at hx
  omega
theorem zs_of {xs : List Nat} (h : ∀ x ∈ xs, x = 0) : xs = zs xs.length := List.eq_replicate_of_mem h
theorem zs_all (n : Nat) : ∀ x ∈ zs n, x = 0 := fun x hx => by
  simp only [zs, List.mem_replicate] at hx
  exact hx.2
def BlkB (w : World) (g : Nat) (t : TypeId) (xs : List Nat) : Prop := BlkIs w g t (bvs xs).toArray
section
variable {w : World} {g : Nat} {t : TypeId} {xs : List Nat}
theorem BlkB.cell (h : BlkB w g t xs) {i : Nat} (hi : i < xs.length) : w.cell? ⟨g, i, none⟩ = some (.int .u8 (xs.getD i 0 : Nat)) := by
  rw [BlkIs.cell h i]
  simp [bvs, bv, List.getD, hi]
theorem BlkB.set (h : BlkB w g t xs) (i x : Nat) : BlkB (w.setCell ⟨g, i, none⟩ (.int .u8 (x : Int))) g t (xs.set i x) := by
  have := BlkIs.stored h i (.int .u8 (x : Int))
  unfold BlkB
  rw [show (bvs (xs.set i x)).toArray = (bvs xs).toArray.setIfInBounds i (.int .u8 (x : Int)) by simp [bvs, bv, List.map_set]]
  exact this
theorem BlkB.reads (h : BlkB w g t xs) (hB : IsB xs) {o n : Nat} (hn : o + n ≤ xs.length) : RB w (some ⟨g, o, none⟩) n ((xs.drop o).take n) := by
  refine ⟨by rw [List.length_take, List.length_drop]; omega, (hB.drop _).take _, fun _ => ⟨_, rfl, BlkIs.lt h, fun j x hj => ?_⟩⟩
  rw [add_lit, BlkIs.cell h]
  rw [List.getElem?_take] at hj
  split at hj
  · rw [List.getElem?_drop] at hj
    simp [bvs, bv, hj]
  · cases hj
end
theorem splice_length' {L : List Nat} {o : Nat} {cs : List Nat} (h : o + cs.length ≤ L.length) : (splice L o cs).length = L.length := length_splice L o cs h
theorem splice_nil (L : List Nat) (o : Nat) : splice L o [] = L := by
  unfold splice
  simp
def zarr (n : Nat) : Array Value := (bvs (zs n)).toArray
theorem zarr_blk (n : Nat) (w : World) (t : TypeId) : BlkB (w.alloc (.cells (zarr n) t)) w.heap.size t (zs n) := BlkIs.new w t (zarr n)
theorem zarr_at {n i : Nat} (h : i < n) : (zarr n)[i]? = some (.int .u8 0) := by
  simp [zarr, bvs, bv, zs, h]
theorem splice_bvs (L : List Nat) (o : Nat) (cs : List Nat) : splice (bvs L) o (bvs cs) = bvs (splice L o cs) := by
  simp [splice, bvs]
theorem splice_at {X Y Z cs : List Nat} {o : Nat} (h : X.length = o) (hY : Y.length = cs.length) : splice (X ++ (Y ++ Z)) o cs = X ++ (cs ++ Z) := by
  unfold splice
  rw [List.take_left' h, ← List.append_assoc X Y Z, List.drop_left' (by simp; omega)]
theorem zs_split (a b : Nat) : zs (a + b) = zs a ++ zs b := by simp [zs, List.replicate_append_replicate]
theorem byte_size : (Try.prog.info? 5).map (·.size) = some 1 := by kernel_rfl
theorem copyB {P : Program} {w : World} {ops : Array Oper} {rest : List Oper} {o : Oper} {a : Act} {Q : Exit → Act → World → Prop} (hgd : o.guard = none) (d s : Operand) (dT sT : TypeId)
    (ho : o.op = .call { callee := .builtin .copy, args := #[d, s], argTypes := #[dT, sT] }) (elem : TypeId) (hu : P.underlying dT = some (.slice elem)) (hsz : (P.info? elem).map (·.size) = some 1)
    (sp : Option Addr) (g off dLen dCap sLen sCap : Nat) (hd : a.eval d = .slice (some ⟨g, off, none⟩) dLen dCap) (hs : a.eval s = .slice sp sLen sCap)
    (L : List Nat) (t : TypeId) (hL : BlkB w g t L) (xs : List Nat) (hx : RB w sp sLen xs) (hle : sLen ≤ dLen) (hfit : off + sLen ≤ L.length) (B : Nat) (w0 : World) (hb : Below B w0 w) (hBg : B ≤ g)
    (h : ∀ w', Hid (BlkB w' g t (splice L off xs)) → Below B w0 w' → wpList P ops Q rest (a.put o.dst (goInt sLen)) w') : wpList P ops Q (o :: rest) a w := by
  have hl : (bvs xs).length = sLen := by simp [bvs, hx.1]
  rw [← hl] at h
  refine wpList_copy_splice hgd d s dT sT ho elem hu hsz _ sp dLen dCap sLen sCap hd hs g off (bvs L) t hL (bvs xs) (by rw [hl]; exact (Nat.min_eq_left hle).symm) (fun hp => ⟨rfl, ?_⟩) (by rw [hl]; simpa [bvs] using hfit) (bvs_oneCell xs) B w0 hb hBg ?_
  · obtain ⟨ad, e, _, hc⟩ := hx.2.2 (by omega)
    refine ⟨ad, e, fun j v hj => ?_⟩
    simp only [bvs, List.getElem?_map, Option.map_eq_some_iff] at hj
    obtain ⟨y, hy, rfl⟩ := hj
    exact hc j y hy
  · intro w' hg' hb'
    refine h w' ?_ hb'
    have := hg'.out
    rw [splice_bvs] at this
    exact this
theorem BlkB.whole {w : World} {g n : Nat} {t : TypeId} {xs : List Nat} (h : BlkB w g t xs) (hB : IsB xs) (hn : xs.length = n) : RB w (some ⟨g, 0, none⟩) n xs := by
  have := h.reads hB (o := 0) (n := n) (by omega)
  rwa [List.drop_zero, List.take_of_length_le (by omega)] at this
theorem row_of {P : Program} {t : TypeId} (h : (P.underlying t).map (·.isRow) = some true) : ∃ d, P.underlying t = some d ∧ d.isRow = true := by
  cases hq : P.underlying t with
  | none => simp [hq] at h
  | some d => exact ⟨d, rfl, by simpa [hq] using h⟩
theorem wpList_load_arr {P : Program} {ops : Array Oper} {rest : List Oper} {o : Oper} {a : Act} {w : World} {Q : Exit → Act → World → Prop} (hgd : o.guard = none) (ty : TypeId) (x : Operand) (ho : o.op = .load ty x)
    (ad : Addr) (n : Nat) (ys : List Nat) (hx : a.eval x = .pointer (some ad)) (hr : RB w (some ad) n ys) (hn : 0 < n) (hrow : (P.underlying ty).map (·.isRow) = some true) (hi : (P.info? ty).map (·.size) = some n)
    (h : wpList P ops Q rest (a.put o.dst (.agg (bvs ys).toArray)) w) : wpList P ops Q (o :: rest) a w := by
  refine wpList_plain hgd fun K hK => ?_
  obtain ⟨d, hu, hd⟩ := row_of hrow
  obtain ⟨ad', e, _, hc⟩ := hr.2.2 hn
  injection e with e
  subst e
  have hl : (loadCells ad (bvs ys).length).run P w = .ok (bvs ys).toArray w := run_loadCells_list (P := P) w ad (bvs ys) (fun j v hv => by
    simp only [bvs, List.getElem?_map, Option.map_eq_some_iff] at hv
    obtain ⟨y, hy, rfl⟩ := hv
    exact hc j y hy)
  have hlv : (loadVar ty ad).run P w = .ok (.agg (bvs ys).toArray) w := by
    cases hq : P.info? ty with
    | none => simp [hq] at hi
    | some i =>
      have hs : i.size = (bvs ys).length := by
        have : i.size = n := by simpa [hq] using hi
        simp [bvs, this, hr.1]
      have hagg : (isAgg ty).run P w = .ok true w := by
        unfold isAgg
        rw [Sem.run_bind, run_underlying hu w]
        cases d <;> simp_all
      simp [loadVar, Sem.run_bind, hagg, sizeOf, typeInfo, hq, hs, hl]
  unfold Oper.wp execOp
  simp only [ho, hx, Instr.loadAt, Instr.sureAddr, Sem.run_bind, Sem.run_pure, Result.andThen_ok, hlv]
  exact hK _ _ h
theorem wpList_store_arr {P : Program} {ops : Array Oper} {rest : List Oper} {o : Oper} {a : Act} {Q : Exit → Act → World → Prop} (hgd : o.guard = none) (ty : TypeId) (x y : Operand) (ho : o.op = .store ty x y)
    (w : World) (c c' : Array Value) (hx : a.eval x = .pointer (some ⟨w.heap.size, 0, none⟩)) (hy : a.eval y = .agg c') (hi : (P.info? ty).map (·.size) = some c'.size) (hc : c.size = c'.size) (h1 : c'.all (·.oneCell') = true)
    (h : wpList P ops Q rest (a.put o.dst undef) (w.alloc (.cells c' ty))) : wpList P ops Q (o :: rest) a (w.alloc (.cells c ty)) := by
  refine wpList_plain hgd fun K hK => ?_
  have hs := run_storeAt_new (P := P) w ty c c' hi hc h1
  unfold Oper.wp execOp
  simp only [ho, hx, hy, Sem.run_bind, Sem.run_pure, hs, Result.andThen_ok]
  exact hK _ _ h
theorem wpList_load_arrG {P : Program} {ops : Array Oper} {rest : List Oper} {o : Oper} {a : Act} {w : World} {Q : Exit → Act → World → Prop} (hw : Region.wanted o (yielded ops a.tmps) = true) (ty : TypeId) (x : Operand) (ho : o.op = .load ty x)
    (ad : Addr) (n : Nat) (ys : List Nat) (hx : a.eval x = .pointer (some ad)) (hr : RB w (some ad) n ys) (hn : 0 < n) (hrow : (P.underlying ty).map (·.isRow) = some true) (hi : (P.info? ty).map (·.size) = some n)
    (h : wpList P ops Q rest (a.put o.dst (.agg (bvs ys).toArray)) w) : wpList P ops Q (o :: rest) a w := by
  refine wpList_step fun K hK => ?_
  rw [if_pos hw]
  obtain ⟨d, hu, hd⟩ := row_of hrow
  obtain ⟨ad', e, _, hc⟩ := hr.2.2 hn
  injection e with e
  subst e
  have hl : (loadCells ad (bvs ys).length).run P w = .ok (bvs ys).toArray w := run_loadCells_list (P := P) w ad (bvs ys) (fun j v hv => by
    simp only [bvs, List.getElem?_map, Option.map_eq_some_iff] at hv
    obtain ⟨y, hy, rfl⟩ := hv
    exact hc j y hy)
  have hlv : (loadVar ty ad).run P w = .ok (.agg (bvs ys).toArray) w := by
    cases hq : P.info? ty with
    | none => simp [hq] at hi
    | some i =>
      have hs : i.size = (bvs ys).length := by
        have : i.size = n := by simpa [hq] using hi
        simp [bvs, this, hr.1]
      have hagg : (isAgg ty).run P w = .ok true w := by
        unfold isAgg
        rw [Sem.run_bind, run_underlying hu w]
        cases d <;> simp_all
      simp [loadVar, Sem.run_bind, hagg, sizeOf, typeInfo, hq, hs, hl]
  unfold Oper.wp execOp
  simp only [ho, hx, Instr.loadAt, Instr.sureAddr, Sem.run_bind, Sem.run_pure, Result.andThen_ok, hlv]
  exact hK _ _ h
theorem bvs_cells {xs : List Nat} (h : IsB xs) : bvs xs = (xs.map UInt8.ofNat).map Extern.Stop.cell := by
  rw [List.map_map]
  apply List.map_congr_left
  intro x hx
  have := h x hx
  show Value.int .u8 (x : Int) = Value.int .u8 ((UInt8.ofNat x).toNat : Int)
  rw [UInt8.toNat_ofNat', Nat.mod_eq_of_lt (show x < 2 ^ 8 from this)]
theorem map_ofNat_inj {xs ys : List Nat} (hx : IsB xs) (hy : IsB ys) (h : xs.map UInt8.ofNat = ys.map UInt8.ofNat) : xs = ys := by
  have h2 := congrArg (List.map UInt8.toNat) h
  rw [List.map_map, List.map_map] at h2
  have f : ∀ zs : List Nat, IsB zs → zs.map (UInt8.toNat ∘ UInt8.ofNat) = zs := fun zs hz => by
    conv => rhs; rw [← List.map_id zs]
    apply List.map_congr_left
    intro x hx
    have := hz x hx
    simp only [Function.comp, UInt8.toNat_ofNat', id]
    omega
  rwa [f xs hx, f ys hy] at h2
theorem eq_arr {P : Program} (w : World) (d : Nat) (t e : TypeId) (n : Nat) (ht : P.underlying t = some (.array n e)) (he : P.underlying e = some (.int .u8)) (hsz : ∀ w, (sizeOf e).run P w = .ok 1 w) {xs ys : List Nat} (hx : IsB xs) (hy : IsB ys) (hxl : xs.length = n) (hyl : ys.length = n) :
    (Op.equalIn (d + 2) t (.agg (bvs xs).toArray) (.agg (bvs ys).toArray)).run P w = .ok (decide (xs = ys)) w := by
  rw [bvs_cells hx, bvs_cells hy, run_equalIn_bytes w d t e n ht he hsz _ _ (by simpa using hxl) (by simpa using hyl)]
  congr 1
  rw [Bool.eq_iff_iff]
  simp only [beq_iff_eq, decide_eq_true_eq]
  exact ⟨map_ofNat_inj hx hy, fun h => by rw [h]⟩
theorem byte_sizeOf (w : World) : (sizeOf 5).run Try.prog w = .ok 1 w := by
  have h := byte_size
  cases hq : Try.prog.info? 5 with
  | none => simp [hq] at h
  | some i =>
    have hs : i.size = 1 := by simpa [hq] using h
    simp [sizeOf, typeInfo, hq, hs]
/-- An array of bytes is laid into a block. -/
theorem storeA {P : Program} {ops : Array Oper} {rest : List Oper} {o : Oper} {a : Act} {w : World} {Q : Exit → Act → World → Prop} (hgd : o.guard = none) (ty : TypeId) (x y : Operand) (ho : o.op = .store ty x y)
    (g n : Nat) (ys L : List Nat) (t : TypeId) (hx : a.eval x = .pointer (some ⟨g, 0, none⟩)) (hy : a.eval y = .agg (bvs ys).toArray) (hL : BlkB w g t L) (hi : (P.info? ty).map (·.size) = some n) (hl : ys.length = n) (hl2 : L.length = n)
    (B : Nat) (w0 : World) (hb : Below B w0 w) (hBg : B ≤ g) (h : ∀ w', Hid (BlkB w' g t ys) → Below B w0 w' → wpList P ops Q rest (a.put o.dst undef) w') : wpList P ops Q (o :: rest) a w := by
  refine wpList_store_row hgd ty x y ho g _ hx hy t _ hL (by rw [hi]; simp [bvs, hl]) (by simp [bvs, hl, hl2]) (by
    rw [Array.all_eq_true_iff_forall_mem]
    intro v hv
    exact bvs_oneCell ys v (by simpa using hv)) (h _ ?_ (below_setRow hb hBg _))
  show _ = _
  exact setRow_heap w g _ _ t (0, 0) hL
theorem wpList_store_arr_at {P : Program} {ops : Array Oper} {rest : List Oper} {o : Oper} {a : Act} {Q : Exit → Act → World → Prop} (hgd : o.guard = none) (ty : TypeId) (x y : Operand) (ho : o.op = .store ty x y)
    (w : World) (c c' : Array Value) (g : Nat) (hg : w.heap.size = g) (hx : a.eval x = .pointer (some ⟨g, 0, none⟩)) (hy : a.eval y = .agg c') (hi : (P.info? ty).map (·.size) = some c'.size) (hc : c.size = c'.size) (h1 : c'.all (·.oneCell') = true)
    (h : wpList P ops Q rest (a.put o.dst undef) (w.alloc (.cells c' ty))) : wpList P ops Q (o :: rest) a (w.alloc (.cells c ty)) := by
  subst hg
  exact wpList_store_arr hgd ty x y ho w c c' hx hy hi hc h1 h
theorem results_cell {fn : Func} {p : Tmp} {ty : TypeId} (h : fn.results = #[.cell p ty]) (tmps : Array Value) (P : Program) (w : World) :
    (results fn tmps).run P w = ((asAddr (tmps.getD p undef)).run P w).andThen fun a w1 => (loadVar ty a).run P w1 := by
  simp only [results, h]
  simp [Sem.run_bind, Result.andThen]
theorem load_arr {P : Program} {ty : TypeId} (w : World) (g n : Nat) (t : TypeId) (ys : List Nat) (hb : BlkB w g t ys) (hl : ys.length = n) (hrow : (P.underlying ty).map (·.isRow) = some true) (hi : (P.info? ty).map (·.size) = some n) : (loadVar ty ⟨g, 0, none⟩).run P w = .ok (.agg (bvs ys).toArray) w := by
  obtain ⟨d, hu, hd⟩ := row_of hrow
  have h := run_loadVar_mid (P := P) w g 0 ty (bvs ys) d (fun j v hv => by
    rw [Nat.zero_add, BlkIs.cell hb]
    simpa using hv) hu hd (by rw [hi]; simp [bvs, hl])
  simpa using h
/-- The end of a call whose result is an array in a variable. -/
theorem arr_ret {P : Program} {fn : Func} {p : Tmp} {ty : TypeId} {R : Ending → World → Prop} {x : Act} {w : World} {g n : Nat} {t : TypeId} {ys : List Nat} (h : fn.results = #[.cell p ty]) (hp : x.tmps.getD p undef = .pointer (some ⟨g, 0, none⟩))
    (hb : BlkB w g t ys) (hl : ys.length = n) (hrow : (P.underlying ty).map (·.isRow) = some true) (hi : (P.info? ty).map (·.size) = some n) (hd : x.defers = []) (hR : R (.returned (.agg (bvs ys).toArray)) w) : bodyPost P fn R .ret x w := by
  refine bodyPost_ret (v := .agg (bvs ys).toArray) ?_ hd hR
  rw [results_cell h, hp]
  simp [asAddr, Result.andThen, load_arr w g n t ys hb hl hrow hi]
theorem blk_at (w w1 : World) (k : Nat) (t : TypeId) (cs : Array Value) (h : w1.heap.size = w.heap.size + k) : BlkIs (w1.alloc (.cells cs t)) (w.heap.size + k) t cs := h ▸ BlkIs.new w1 t cs
theorem start1 {w : World} {a : Array Value} {ta : TypeId} {G : World → Prop} (h : ∀ w', Hid (BlkIs w' w.heap.size ta a) → Hid (Below w.heap.size w w') → Hid (w'.heap.size = w.heap.size + 1) → G w') : G (w.alloc (.cells a ta)) :=
  h _ (BlkIs.new _ _ _) ((Below.refl _ _).alloc (Nat.le_refl _) _) (by show _ = _; simp)
theorem start2 {w : World} {a b : Array Value} {ta tb : TypeId} {G : World → Prop} (h : ∀ w', Hid (BlkIs w' w.heap.size ta a) → Hid (BlkIs w' (w.heap.size + 1) tb b) → Hid (Below w.heap.size w w') → Hid (w'.heap.size = w.heap.size + 1 + 1) → G w') : G ((w.alloc (.cells a ta)).alloc (.cells b tb)) :=
  h _ (BlkIs.alloc (BlkIs.new _ _ _) _) (blk_at w _ 1 _ _ (by simp)) (((Below.refl _ _).alloc (Nat.le_refl _) _).alloc (by simp) _) (by show _ = _; simp)
theorem start3 {w : World} {a b c : Array Value} {ta tb tc : TypeId} {G : World → Prop} (h : ∀ w', Hid (BlkIs w' w.heap.size ta a) → Hid (BlkIs w' (w.heap.size + 1) tb b) → Hid (BlkIs w' (w.heap.size + 1 + 1) tc c) → Hid (Below w.heap.size w w') → Hid (w'.heap.size = w.heap.size + 1 + 1 + 1) → G w') : G (((w.alloc (.cells a ta)).alloc (.cells b tb)).alloc (.cells c tc)) :=
  h _ (BlkIs.alloc (BlkIs.alloc (BlkIs.new _ _ _) _) _) (BlkIs.alloc (blk_at w _ 1 _ _ (by simp)) _) (blk_at w _ 2 _ _ (by simp)) ((((Below.refl _ _).alloc (Nat.le_refl _) _).alloc (by simp) _).alloc (by simp; omega) _) (by show _ = _; simp)
end Go.Proofs.Ytkpbeibcfaenhaa
