/- frame.UnpackSuper. -/
import Derived.Test.YtbjbpgbpefkbhaaDoorPackSuper
import Derived.Test.YtbjbpgbpefkbhaaDoorUnpack
import Derived.Test.YtbjbpgbpefkbhaaDoorOpen
import Derived.Laws.ResultCell
import Derived.Laws.Cover3
import Derived.Deep.MidRow
import Derived.Deep.RegionHeld3
import Derived.Laws.IdiomStrings
namespace Go.Proofs.YtbjbpgbpefkbhaaDoor
open Go.RowKit
def UnpackedS (xs : List Nat) (e : Ending) : Prop := e = .returned (.tuple #[supV (unsupN xs).1, .int .i64 ((unsupN xs).2 : Nat)])
def zeroV : Value := .agg #[.int .i64 0, .int .i64 0, .int .i64 0, .int .i64 0, .int .i64 0]
theorem unpackedS_bad {k : Nat} {xs : List Nat} (h : unsupN xs = (Sup.zero, k)) : UnpackedS xs (.returned (.tuple #[.agg #[.int .i64 0, .int .i64 0, .int .i64 0, .int .i64 0, .int .i64 0], .int .i64 k])) := by
  unfold UnpackedS
  rw [h]
  rfl
theorem sup_size : (Tryd.prog.info? 23).map (·.size) = some 5 := by kernel_rfl
theorem row_of {P : Program} {t : TypeId} (h : (P.underlying t).map (·.isRow) = some true) : ∃ d, P.underlying t = some d ∧ d.isRow = true := by
  cases hq : P.underlying t with
  | none => simp [hq] at h
  | some d => exact ⟨d, rfl, by simpa [hq] using h⟩
theorem sup_row (w : World) (g : Nat) (cs : Array Value) (hn : cs.size = 5) (hb : w.heap[g]? = some (.cells cs 23 (0, 0))) : (loadVar 23 ⟨g, 0, none⟩).run Tryd.prog w = .ok (.agg cs) w := by
  obtain ⟨d, hu, hd⟩ := row_of (P := Tryd.prog) (t := 23) (by kernel_rfl)
  have h := run_loadVar_mid (P := Tryd.prog) w g 0 23 cs.toList d (fun j v hv => by rw [Nat.zero_add, cell_of_row w g j cs _ _ hb]; simpa using hv) hu hd (by rw [sup_size]; simp [hn])
  simpa using h
/-- An array of bytes is read, as a value. -/
theorem wpList_load_arr {P : Program} {ops : Array Oper} {rest : List Oper} {o : Oper} {a : Act} {w : World} {Q : Exit → Act → World → Prop} (hgd : o.guard = none) (ty : TypeId) (x : Operand) (ho : o.op = .load ty x)
    (ad : Addr) (n : Nat) (ys : List Nat) (hx : a.eval x = .pointer (some ad)) (hr : RB w (some ad) n ys) (hn : 0 < n) (hrow : (P.underlying ty).map (·.isRow) = some true) (hi : (P.info? ty).map (·.size) = some n)
    (h : wpList P ops Q rest (a.put o.dst (.agg (bvs ys).toArray)) w) : wpList P ops Q (o :: rest) a w := by
  refine wpList_plain hgd fun K hK => ?_
  obtain ⟨d, hu, hd⟩ := row_of hrow
  obtain ⟨ad', e, _, hc⟩ := hr.2.2 hn
  injection e with e
  subst e
  have hl : (loadCells ad (bvs ys).length).run P w = .ok (bvs ys).toArray w := run_loadCells_list (P := P) w ad (bvs ys) (fun j v hv => by
    simp only [bvs, List.getElem?_map, Option.map_eq_some_iff] at hv
    obtain ⟨y, hy, rfl⟩ := hv
    exact hc j y hy)
  have hlv : (loadVar ty ad).run P w = .ok (.agg (bvs ys).toArray) w := by
    cases hq : P.info? ty with
    | none => simp [hq] at hi
    | some i =>
      have hs : i.size = (bvs ys).length := by
        have : i.size = n := by simpa [hq] using hi
        simp [bvs, this, hr.1]
      have hagg : (isAgg ty).run P w = .ok true w := by
        unfold isAgg
        rw [Sem.run_bind, run_underlying hu w]
        cases d <;> simp_all
      simp [loadVar, Sem.run_bind, hagg, sizeOf, typeInfo, hq, hs, hl]
  unfold Oper.wp execOp
  simp only [ho, hx, Instr.loadAt, Instr.sureAddr, Sem.run_bind, Sem.run_pure, Result.andThen_ok, hlv]
  exact hK _ _ h
/-- .. and laid into the block that was made last. -/
theorem wpList_store_arr {P : Program} {ops : Array Oper} {rest : List Oper} {o : Oper} {a : Act} {Q : Exit → Act → World → Prop} (hgd : o.guard = none) (ty : TypeId) (x y : Operand) (ho : o.op = .store ty x y)
    (w : World) (c c' : Array Value) (hx : a.eval x = .pointer (some ⟨w.heap.size, 0, none⟩)) (hy : a.eval y = .agg c') (hi : (P.info? ty).map (·.size) = some c'.size) (hc : c.size = c'.size) (h1 : c'.all (·.oneCell') = true)
    (h : wpList P ops Q rest (a.put o.dst undef) (w.alloc (.cells c' ty))) : wpList P ops Q (o :: rest) a (w.alloc (.cells c ty)) := by
  refine wpList_plain hgd fun K hK => ?_
  have hs := run_storeAt_new (P := P) w ty c c' hi hc h1
  unfold Oper.wp execOp
  simp only [ho, hx, hy, Sem.run_bind, Sem.run_pure, hs, Result.andThen_ok]
  exact hK _ _ h
/-- 'string(b)' of a block's first bytes. -/
theorem str_of (w : World) (g c : Nat) (t : TypeId) (ys : List Nat) (hb : BlkB w g t ys) (hB : IsB ys) (h4 : 4 ≤ ys.length) : ∃ sv : ByteArray, (convert 24 9 (.slice (some ⟨g, 0, none⟩) 4 c)).run Tryd.prog w = .ok (.string sv) w ∧
    (sv.toList = [76, 68, 71, 49] ↔ ys.take 4 = [76, 68, 71, 49]) := by
  have hl : ((ys.take 4).map UInt8.ofNat).length = 4 := by simp; omega
  have h := run_convert_bytes_back (P := Tryd.prog) w 24 9 5 ⟨g, 0, none⟩ c ((ys.take 4).map UInt8.ofNat) (by kernel_rfl) (by kernel_rfl) (by kernel_rfl) (fun j hj => by
    have hj' : j < ys.length := by rw [hl] at hj; omega
    rw [add_lit, Nat.zero_add, hb.cell hj']
    have h8 := hB _ (getD_mem hj')
    have e : ((ys.take 4).map UInt8.ofNat)[j] = UInt8.ofNat (ys.getD j 0) := by simp [List.getD, hj']
    rw [e, UInt8.toNat_ofNat']
    congr 2
    omega)
  rw [hl] at h
  refine ⟨_, h, ?_⟩
  rw [ByteArray.toList_eq]
  constructor
  · intro e2
    rcases ys with _ | ⟨a, _ | ⟨b, _ | ⟨d, _ | ⟨f, r⟩⟩⟩⟩
    · simp at h4
    · simp at h4
    · simp at h4
    · simp at h4
    · have ha := hB a (by simp)
      have hb := hB b (by simp)
      have hd := hB d (by simp)
      have hf := hB f (by simp)
      simp only [List.take_succ_cons, List.take_zero, List.map_cons, List.map_nil, List.cons.injEq, and_true] at e2 ⊢
      obtain ⟨e3, e4, e5, e6⟩ := e2
      have f3 := congrArg UInt8.toNat e3
      have f4 := congrArg UInt8.toNat e4
      have f5 := congrArg UInt8.toNat e5
      have f6 := congrArg UInt8.toNat e6
      simp only [UInt8.toNat_ofNat'] at f3 f4 f5 f6
      have g3 : (76 : UInt8).toNat = 76 := rfl
      have g4 : (68 : UInt8).toNat = 68 := rfl
      have g5 : (71 : UInt8).toNat = 71 := rfl
      have g6 : (49 : UInt8).toNat = 49 := rfl
      omega
  · intro e
    rw [e]
    rfl
theorem cut_take {xs : List Nat} {o n : Nat} (h : o + n ≤ 64) : ((xs.take 64).drop o).take n = (xs.drop o).take n := by
  rw [List.drop_take, List.take_take, show min n (64 - o) = n by omega]
theorem sect_reads {w : World} {g : Nat} {t : TypeId} {xs : List Nat} (h : BlkB w g t (xs.take 64)) (hB : IsB xs) (hl : xs.length = 256) {o n : Nat} (ho : o + n ≤ 64) : RB w (some ⟨g, o, none⟩) n ((xs.drop o).take n) := by
  have := h.reads (hB.take _) (o := o) (n := n) (by rw [List.length_take, hl]; omega)
  rwa [cut_take ho] at this
theorem cutZ_bool {xs : List Nat} {o n : Nat} : allZ ((xs.drop o).take n) = true ↔ cutZ xs o n := allZ_iff
theorem get_sect {g : Nat} {t : TypeId} {xs : List Nat} (hB : IsB xs) (hl : xs.length = 256) : ∃ F : Nat → Int → Nat, (∀ o k, F o k = cutV xs o k.toNat) ∧ ∀ (o m c : Nat) (k : Int) (w : World), BlkB w g t (xs.take 64) → o + m = 64 → 0 ≤ k → k ≤ m → k ≤ 7 →
    Calls Tryd.prog 52 #[.slice (some ⟨g, o, none⟩) m c, .int .i64 k] w fun e w' => e = .returned (.int .i64 (F o k : Nat)) ∧ w' = w := by
  refine ⟨fun o k => cutV xs o k.toNat, fun _ _ => rfl, fun o m c k w hb hm h0 hn h7 => ?_⟩
  obtain ⟨n, rfl⟩ := Int.eq_ofNat_of_zero_le h0
  have h := get_any (some ⟨g, o, none⟩) m c n ((xs.drop o).take m) w (sect_reads hb hB hl (by omega)) (by omega) (by omega)
  rwa [List.take_take, show min n m = n by omega] at h
theorem sup_end {w0 w2 : World} (hB : Below w0.heap.size w0 w2) (hs : BlkIs w2 w0.heap.size 23 (supA 0 0 0 0 0)) (a b c d p : Int) :
    Below w0.heap.size w0 (w2.alloc (.cells #[.int .i64 a, .int .i64 b, .int .i64 c, .int .i64 d, .int .i64 p] 23)).drew ∧
    BlkIs (w2.alloc (.cells #[.int .i64 a, .int .i64 b, .int .i64 c, .int .i64 d, .int .i64 p] 23)).drew w0.heap.size 23 (supA 0 0 0 0 0) ∧
    BlkIs (w2.alloc (.cells #[.int .i64 a, .int .i64 b, .int .i64 c, .int .i64 d, .int .i64 p] 23)).drew w2.heap.size 23 (supA a b c d p) :=
  ⟨drewN_below (hB.alloc hB.size _) 1, BlkIs.alloc hs _, BlkIs.new w2 _ _⟩
theorem unpackedS_good {xs : List Nat} {s : Sup} {a b c d p : Int} (h : unsupN xs = (s, 0)) (e : s = ⟨a, b, c, d, p⟩) : UnpackedS xs (.returned (.tuple #[.agg (supA a b c d p), .int .i64 0])) := by
  subst e
  unfold UnpackedS
  rw [h]
  rfl
theorem cell_alloc4 {w : World} {g k : Nat} {v : Value} (o : Obj) (h : w.cell? ⟨g, k, none⟩ = some v) : (w.alloc o).cell? ⟨g, k, none⟩ = some v :=
  (((Below.refl w.heap.size w).alloc (Nat.le_refl _) o).cell (p := ⟨g, k, none⟩) (lt_of_cell h)).trans h
theorem zarr64_info : (Tryd.prog.info? 82).map (fun i => (i.zero, i.size)) = some (some (.agg (zarr 64)), 64) := by kernel_rfl
theorem sup_froz {w : World} {g : Nat} {t : TypeId} {cs : Array Value} (h : BlkIs w g t cs) : w.frozen? ⟨g, 0, none⟩ = false ∧ w.frozen? ⟨g, 1, none⟩ = false ∧ w.frozen? ⟨g, 2, none⟩ = false ∧ w.frozen? ⟨g, 3, none⟩ = false ∧ w.frozen? ⟨g, 4, none⟩ = false :=
  ⟨BlkIs.frozen h 0, BlkIs.frozen h 1, BlkIs.frozen h 2, BlkIs.frozen h 3, BlkIs.frozen h 4⟩
/-- A superblock laid into its variable, field by field. -/
def sup5 (w : World) (g : Nat) (a b c d p : Int) : World :=
  ((((w.setCell ⟨g, 0, none⟩ (.int .i64 a)).setCell ⟨g, 1, none⟩ (.int .i64 b)).setCell ⟨g, 2, none⟩ (.int .i64 c)).setCell ⟨g, 3, none⟩ (.int .i64 d)).setCell ⟨g, 4, none⟩ (.int .i64 p)
theorem sup5_is {w : World} {g : Nat} {a b c d p a' b' c' d' p' : Int} (h : BlkIs w g 23 (supA a' b' c' d' p')) : BlkIs (sup5 w g a b c d p) g 23 (supA a b c d p) :=
  BlkIs.stored (BlkIs.stored (BlkIs.stored (BlkIs.stored (BlkIs.stored h 0 (.int .i64 a)) 1 (.int .i64 b)) 2 (.int .i64 c)) 3 (.int .i64 d)) 4 (.int .i64 p)
theorem sup5_below {B : Nat} {w0 w : World} {g : Nat} {a b c d p : Int} (h : Below B w0 w) (hg : B ≤ g) : Below B w0 (sup5 w g a b c d p) :=
  ((((h.setCell (p := ⟨g, 0, none⟩) hg _).setCell (p := ⟨g, 1, none⟩) hg _).setCell (p := ⟨g, 2, none⟩) hg _).setCell (p := ⟨g, 3, none⟩) hg _).setCell (p := ⟨g, 4, none⟩) hg _
/-- The end of a call whose first result is a superblock in a variable. -/
theorem sup_ret {fn : Func} {p u : Tmp} {R : Ending → World → Prop} {x : Act} {w : World} {g : Nat} {a b c d e : Int} {v : Value} (h : fn.results = #[.cell p 23, .tmp u]) (hp : x.tmps.getD p undef = .pointer (some ⟨g, 0, none⟩))
    (hb : BlkIs w g 23 (supA a b c d e)) (hu : x.tmps.getD u undef = v) (hd : x.defers = []) (hR : R (.returned (.tuple #[.agg (supA a b c d e), v])) w) : bodyPost Tryd.prog fn R .ret x w := by
  refine bodyPost_ret (v := .tuple #[.agg (supA a b c d e), v]) ?_ hd hR
  have hl := sup_row w g _ rfl hb
  rw [results_cell_tmp h, hp, hu]
  simp [asAddr, Result.andThen, hl]
set_option maxHeartbeats 1000000 in
theorem unpackSuper_any (A : Option Addr) (n c : Nat) (xs : List Nat) (w : World) (hx : RB w A n xs) (hnc : n ≤ c) :
    Calls Tryd.prog 34 #[.slice A n c] w fun e w' => UnpackedS xs e ∧ Below w.heap.size w w' := by
  have hlen := hx.1
  have hB := hx.isB
  have HSB0 : Hid (BlkIs (w.alloc (.cells #[.int .i64 0, .int .i64 0, .int .i64 0, .int .i64 0, .int .i64 0] 23)) w.heap.size 23 (supA 0 0 0 0 0)) := BlkIs.new w _ _
  have HX := Lib.hid (hx.alloc (.cells #[.int .i64 0, .int .i64 0, .int .i64 0, .int .i64 0, .int .i64 0] 23))
  have HB0 := Lib.hid ((Below.refl w.heap.size w).alloc (Nat.le_refl _) (.cells #[.int .i64 0, .int .i64 0, .int .i64 0, .int .i64 0, .int .i64 0] 23))
  clear hx
  by_cases hl : n = 256
  · subst hl
    have HL := Lib.hid hlen
    have HW := Lib.hid (whole_any A 64 c (xs.take 64) _ (HX.out.take (by omega)) (by omega) (by omega))
    clear hlen
    go_enter Tryd.func34, Tryd.ntmps34
    go_wp2_with fail
    refine HW.out.mono ?_
    rintro e w1 ⟨rfl, hb1⟩
    have HB1 := Lib.hid (HB0.out.trans (hb1.mono (by simp)))
    have HX1 := Lib.hid (HX.out.below hb1)
    have HSB1 := Lib.hid (HSB0.out.below hb1)
    clear hb1 HW HB0 HX HSB0
    cases hw : wholeN (xs.take 64)
    · have HR := Lib.hid (us_sum HL.out hw)
      have hs := sup_at HSB1.out
      have hf := sup_froz HSB1.out
      clear hw
      go_wp2_with fail
      (try simp only [Exit.inBlock, Exit.then])
      refine sup_ret (w := sup5 w1 w.heap.size 0 0 0 0 0) rfl rfl (sup5_is HSB1.out) rfl rfl ?_
      exact ⟨unpackedS_bad HR.out, sup5_below HB1.out (Nat.le_refl _)⟩
    · have HWT := Lib.hid hw
      obtain ⟨za, HZA⟩ : ∃ za, Hid (za = zarr 64) := ⟨_, rfl⟩
      have hz := (zero_of_info zarr64_info).1
      rw [← HZA.out] at hz
      obtain ⟨ad, rfl, _, _⟩ := HX1.out.2.2 (by omega)
      have hA := run_arrayAt (P := Tryd.prog) (w := w1) 82 5 64 (some ad) 64 c (by kernel_rfl) (by omega)
      have HY := Lib.hid (HX1.out.take (k := 64) (by omega))
      have HYL : Hid ((bvs (xs.take 64)).toArray.size = 64) := by
        show (bvs (xs.take 64)).toArray.size = 64
        simp [bvs, HL.out]
      have HYO : Hid ((bvs (xs.take 64)).toArray.all (·.oneCell') = true) := all_oneCell_toArray (bvs_oneCell _)
      obtain ⟨ya, HYA⟩ : ∃ ya, Hid (ya = (bvs (xs.take 64)).toArray) := ⟨_, rfl⟩
      rw [← HYA.out] at HYL HYO
      have hn3 : za.size = ya.size := by rw [HYL.out, HZA.out]; rfl
      have HNN := Lib.hid hn3
      have HPI : Hid ((Tryd.prog.info? 82).map (·.size) = some ya.size) := by
        show _ = some ya.size
        rw [HYL.out]
        exact (zero_of_info zarr64_info).2
      have HRW : Hid ((Tryd.prog.underlying 82).map (·.isRow) = some true) := by
        show _ = some true
        kernel_rfl
      clear hw hn3
      go_wp2_with (first
        | (refine wpList_load_arr (o := ⟨some 18, _, _, _, _, _⟩) rfl 82 (.tmp 17) rfl ad 64 _ rfl HY.out (by omega) HRW.out (by rw [HPI.out, HYL.out]) ?_; rw [← HYA.out])
        | (refine wpList_store_arr (o := ⟨none, .store 82 (.tmp 4) (.tmp 18), _, _, _, _⟩) rfl 82 (.tmp 4) (.tmp 18) rfl w1 za ya rfl rfl HPI.out HNN.out HYO.out ?_)
        | fail)
      have HB2 := Lib.hid (HB1.out.alloc HB1.out.size (.cells ya 82))
      have HSB2 : Hid (BlkIs (w1.alloc (.cells ya 82)) w.heap.size 23 (supA 0 0 0 0 0)) := BlkIs.alloc HSB1.out _
      have hyb : BlkB (w1.alloc (.cells ya 82)) w1.heap.size 82 (xs.take 64) := by
        rw [HYA.out]
        exact BlkIs.new w1 _ _
      have HBY := Lib.hid hyb
      obtain ⟨g, HG⟩ : ∃ g, Hid (g = w1.heap.size) := ⟨_, rfl⟩
      have HGB : Hid (w.heap.size ≤ g) := by show w.heap.size ≤ g; rw [HG.out]; exact HB1.out.size
      have HGN : Hid (w.heap.size ≠ g) := by show w.heap.size ≠ g; rw [HG.out]; have := BlkIs.lt HSB1.out; omega
      rw [← HG.out] at HBY ⊢
      clear hyb hA hz HY HYL HYO HNN HPI HRW HB1 HSB1 HX1
      generalize w1.alloc (.cells ya 82) = w2 at *
      obtain ⟨sv, hsv, hsi⟩ := str_of w2 g 64 82 (xs.take 64) HBY.out (hB.take _) (by rw [List.length_take, HL.out]; omega)
      have HSI := Lib.hid hsi
      rw [hsv]
      clear hsi hsv
      by_cases hsl : sv.toList = [76, 68, 71, 49]
      · have HS4 : Hid (xs.take 4 = [76, 68, 71, 49]) := by
          have := HSI.out.1 hsl
          rwa [List.take_take] at this
        clear HSI
        go_wp2_with fail
        refine (allZero_any (some ⟨g, 5, none⟩) 3 59 _ w2 (sect_reads HBY.out hB HL.out (o := 5) (n := 3) (by omega)) (by omega)).mono ?_
        rintro e w2' ⟨rfl, hw2⟩
        rw [hw2]
        clear hw2
        cases hz1 : allZ ((xs.drop 5).take 3)
        · have HBAD : Hid (unsupN xs = (Sup.zero, 53)) := us_form HL.out HWT.out fun h => by
            have := cutZ_bool.2 h.2.1
            rw [hz1] at this
            cases this
          have hs := sup_at HSB2.out
          have hf := sup_froz HSB2.out
          clear hz1
          go_wp2_with fail
          (try simp only [Exit.inBlock, Exit.then])
          refine sup_ret (w := sup5 _ w.heap.size 0 0 0 0 0) rfl rfl (sup5_is HSB2.out) rfl rfl ?_
          exact ⟨unpackedS_bad HBAD.out, sup5_below HB2.out (Nat.le_refl _)⟩
        have HZ1 := Lib.hid (cutZ_bool.1 hz1)
        clear hz1
        go_wp2_with fail
        refine (allZero_any (some ⟨g, 28, none⟩) 32 36 _ w2 (sect_reads HBY.out hB HL.out (o := 28) (n := 32) (by omega)) (by omega)).mono ?_
        rintro e w2' ⟨rfl, hw2⟩
        rw [hw2]
        clear hw2
        cases hz2 : allZ ((xs.drop 28).take 32)
        · have HBAD : Hid (unsupN xs = (Sup.zero, 53)) := us_form HL.out HWT.out fun h => by
            have := cutZ_bool.2 h.2.2.1
            rw [hz2] at this
            cases this
          have hs := sup_at HSB2.out
          have hf := sup_froz HSB2.out
          clear hz2
          go_wp2_with fail
          (try simp only [Exit.inBlock, Exit.then])
          refine sup_ret (w := sup5 _ w.heap.size 0 0 0 0 0) rfl rfl (sup5_is HSB2.out) rfl rfl ?_
          exact ⟨unpackedS_bad HBAD.out, sup5_below HB2.out (Nat.le_refl _)⟩
        have HZ2 := Lib.hid (cutZ_bool.1 hz2)
        clear hz2
        go_wp2_with fail
        refine (allZero_any (some ⟨g, 15, none⟩) 1 49 _ w2 (sect_reads HBY.out hB HL.out (o := 15) (n := 1) (by omega)) (by omega)).mono ?_
        rintro e w2' ⟨rfl, hw2⟩
        rw [hw2]
        clear hw2
        cases hz3 : allZ ((xs.drop 15).take 1)
        · have HBAD : Hid (unsupN xs = (Sup.zero, 53)) := us_form HL.out HWT.out fun h => by
            have := cutZ_bool.2 h.2.2.2
            rw [hz3] at this
            cases this
          have hs := sup_at HSB2.out
          have hf := sup_froz HSB2.out
          clear hz3
          go_wp2_with fail
          (try simp only [Exit.inBlock, Exit.then])
          refine sup_ret (w := sup5 _ w.heap.size 0 0 0 0 0) rfl rfl (sup5_is HSB2.out) rfl rfl ?_
          exact ⟨unpackedS_bad HBAD.out, sup5_below HB2.out (Nat.le_refl _)⟩
        have HZ3 := Lib.hid (cutZ_bool.1 hz3)
        clear hz3
        go_wp2_with fail
        obtain ⟨F, hF, hCG⟩ := get_sect (g := g) (t := 82) hB HL.out
        have HFF := Lib.hid hF
        have HFM : Hid (formN xs) := ⟨HS4.out, HZ1.out, HZ2.out, HZ3.out⟩
        have HCG := Lib.hid hCG
        clear hF hCG
        have hc4 : w2.cell? ⟨g, 4, none⟩ = some (.int .u8 (xs.getD 4 0 : Nat)) := by
          have h := HBY.out.cell (i := 4) (by rw [List.length_take, HL.out]; omega)
          rw [h, show (xs.take 64).getD 4 0 = xs.getD 4 0 by simp [List.getD]]
        have hx8 := hB _ (getD_mem (show 4 < xs.length by rw [HL.out]; omega))
        have HTO : Hid (toldN xs = ⟨(xs.getD 4 0 : Nat), F 8 7, F 16 4, F 20 4, F 24 4⟩) := by
          show toldN xs = _
          rw [HFF.out, HFF.out, HFF.out, HFF.out]
          rfl
        generalize xs.getD 4 0 = f4 at *
        rename_i KK hKK
        have HKK := Lib.hid hKK
        clear hKK HZA HYA HG HFF hB hsl
        go_region_held3 (fun w' => w'.cell? ⟨g, 4, none⟩ = some (.int .u8 (f4 : Int))) (first | exact hc4 | exact cell_alloc4 _ hc4) (first
          | (go_at_call 52; refine (HCG.out _ _ _ _ _ (by first | exact HBY.out | exact BlkIs.alloc HBY.out _) rfl (by omega) (by omega) (by omega)).mono ?_; rintro e w' ⟨rfl, rfl⟩))
        all_goals
          change KK _ _
          refine HKK.out _ _ ?_
          clear HKK
          have hwr : IntKind.i64.wrap (f4 : Int) = f4 := by rw [IntKind.wrap_i64]; omega
          simp only [hwr]
          have hend := sup_end (w0 := w) (w2 := w2) HB2.out HSB2.out (f4 : Int) (F 8 7 : Int) (F 16 4 : Int) (F 20 4 : Int) (F 24 4 : Int)
          have HB3 := Lib.hid hend.1
          have HSB3 := Lib.hid hend.2.1
          have HLS3 := Lib.hid hend.2.2
          have hgs : w.heap.size < w2.heap.size := BlkIs.lt HSB2.out
          clear hend hwr HSB2 HBY HB2 hc4
          generalize (w2.alloc (.cells #[.int .i64 (f4 : Int), .int .i64 (F 8 7 : Int), .int .i64 (F 16 4 : Int), .int .i64 (F 20 4 : Int), .int .i64 (F 24 4 : Int)] 23)).drew = w3 at *
          generalize w2.heap.size = gs at *
          generalize F 8 7 = f8 at *
          generalize F 16 4 = f16 at *
          generalize F 20 4 = f20 at *
          generalize F 24 4 = f24 at *
          have HV : Hid (∀ w, Calls Tryd.prog 26 #[.agg #[.int .i64 f4, .int .i64 f8, .int .i64 f16, .int .i64 f20, .int .i64 f24]] w fun e w' => e = .returned (.bool (decide (Sup.Ok ⟨f4, f8, f16, f20, f24⟩))) ∧ Below w.heap.size w w') := valid_any ⟨f4, f8, f16, f20, f24⟩
          rw [← HTO.out] at HV
          have hl3 := sup_at HLS3.out
          go_wp2_with fail
          refine (HV.out _).mono ?_
          rintro e w4 ⟨rfl, hb4⟩
          have HB4 := Lib.hid (HB3.out.trans (hb4.mono HB3.out.size))
          have HSB4 := Lib.hid (BlkIs.below HSB3.out hb4)
          have hl4 := sup_at (BlkIs.below HLS3.out hb4)
          have hs4 := sup_at HSB4.out
          have hf4 := sup_froz HSB4.out
          clear hl3 hb4 HV
          cases hok : decide (toldN xs).Ok
          · have HBAD := Lib.hid (us_bad HL.out HWT.out HFM.out (of_decide_eq_false hok))
            clear hok
            go_wp2_with fail
            (try simp only [Exit.inBlock, Exit.then])
            refine sup_ret (w := sup5 w4 w.heap.size 0 0 0 0 0) rfl rfl (sup5_is HSB4.out) rfl rfl ?_
            exact ⟨unpackedS_bad HBAD.out, sup5_below HB4.out (Nat.le_refl _)⟩
          · have HGOOD := Lib.hid (us_ok HL.out HWT.out HFM.out (of_decide_eq_true hok))
            clear hok
            go_wp2_with fail
            (try simp only [Exit.inBlock, Exit.then])
            refine sup_ret (w := sup5 w4 w.heap.size f4 f8 f16 f20 f24) rfl rfl (sup5_is HSB4.out) rfl rfl ?_
            exact ⟨unpackedS_good HGOOD.out HTO.out, sup5_below HB4.out (Nat.le_refl _)⟩
      · have HBAD : Hid (unsupN xs = (Sup.zero, 53)) := us_form HL.out HWT.out fun h => hsl (HSI.out.2 (by rw [List.take_take]; exact h.1))
        have hs := sup_at HSB2.out
        have hf := sup_froz HSB2.out
        clear HSI
        go_wp2_with fail
        (try simp only [Exit.inBlock, Exit.then])
        refine sup_ret (w := sup5 w2 w.heap.size 0 0 0 0 0) rfl rfl (sup5_is HSB2.out) rfl rfl ?_
        exact ⟨unpackedS_bad HBAD.out, sup5_below HB2.out (Nat.le_refl _)⟩
  · have HR := Lib.hid (us_len (xs := xs) (by omega))
    have hne : ((n : Int) != 256) = true := by rw [bne_iff_ne]; omega
    clear hl hlen
    go_enter Tryd.func34, Tryd.ntmps34
    go_wp2_with fail
    (try simp only [Exit.inBlock, Exit.then])
    refine sup_ret rfl rfl HSB0.out rfl rfl ?_
    exact ⟨unpackedS_bad HR.out, HB0.out⟩
end Go.Proofs.YtbjbpgbpefkbhaaDoor
