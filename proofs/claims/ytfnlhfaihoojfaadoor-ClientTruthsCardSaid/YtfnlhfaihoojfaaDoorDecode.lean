/- proof.Decode. (printed by gen_decode.py) -/
import Derived.Test.YtfnlhfaihoojfaaDoorMd
import Derived.Laws.Cover3
namespace Go.Proofs.YtfnlhfaihoojfaaDoor
open Go.RowKit
theorem built_pr : Tryd.prog.built 57 [] = some (prC false (.slice none 0 0) (zs 32) (.slice none 0 0)).toArray := by kernel_rfl
/-- A proof is stored, whole. -/
theorem storePr {ops : Array Oper} {rest : List Oper} {o : Oper} {a : Act} {w : World} {Q : Exit → Act → World → Prop} (hgd : o.guard = none) (x y : Operand) (ho : o.op = .store 57 x y)
    (g : Nat) (f : Bool) (v : Value) (bits : List Nat) (s : Value) (hx : a.eval x = .pointer (some ⟨g, 0, none⟩)) (hy : a.eval y = .agg (prC f v bits s).toArray) {f0 : Bool} {v0 s0 : Value} (h0 : PrIs w g f0 v0 (zs 32) s0) (hb : bits.length = 32) (hv : v.oneCell' = true) (hs : s.oneCell' = true)
    (h : ∀ w', PrIs w' g f v bits s → w.grownBy w' (some g) → wpList Tryd.prog ops Q rest (a.put o.dst undef) w') : wpList Tryd.prog ops Q (o :: rest) a w := by
  refine wpList_store_row hgd 57 x y ho g _ hx hy 57 _ h0 (by rw [size_pr, List.size_toArray, prC_length hb]) (by rw [List.size_toArray, List.size_toArray, prC_length hb, prC_length (zs_length 32)]) (by
    rw [Array.all_eq_true_iff_forall_mem]
    intro u hu
    exact prC_one hv hs u (by simpa using hu)) (h _ ?_ (grown_setRow _))
  show _ = _
  exact setRow_heap w g _ _ 57 (0, 0) h0
theorem loadPr {ops : Array Oper} {rest : List Oper} {o : Oper} {a : Act} {w : World} {Q : Exit → Act → World → Prop} (hgd : o.guard = none) (x : Operand) (ho : o.op = .load 57 x)
    (g : Nat) (f : Bool) (v : Value) (bits : List Nat) (s : Value) (hx : a.eval x = .pointer (some ⟨g, 0, none⟩)) (h0 : PrIs w g f v bits s) (hb : bits.length = 32)
    (h : wpList Tryd.prog ops Q rest (a.put o.dst (.agg (prC f v bits s).toArray)) w) : wpList Tryd.prog ops Q (o :: rest) a w := by
  obtain ⟨d, hu, hd⟩ := row_of row_pr
  exact wpList_load_mid hgd _ x ho g 0 hx (prC f v bits s) d (BlkIs.range h0) hu hd (by rw [size_pr, prC_length hb]) h
theorem pr_ret {fn : Func} {p u : Tmp} {R : Ending → World → Prop} {x : Act} {w : World} {g : Nat} {f : Bool} {v s z : Value} {bits : List Nat} (h : fn.results = #[.cell p 57, .tmp u]) (hp : x.tmps.getD p undef = .pointer (some ⟨g, 0, none⟩))
    (hb : PrIs w g f v bits s) (hl : bits.length = 32) (hu : x.tmps.getD u undef = z) (hd : x.defers = []) (hR : R (.returned (.tuple #[.agg (prC f v bits s).toArray, z])) w) : bodyPost Tryd.prog fn R .ret x w := by
  refine bodyPost_ret (v := .tuple #[.agg (prC f v bits s).toArray, z]) ?_ hd hR
  obtain ⟨d, hu2, hd2⟩ := row_of row_pr
  have hl := run_loadVar_mid (P := Tryd.prog) w g 0 57 (prC f v bits s) d (BlkIs.range hb) hu2 hd2 (by rw [size_pr, prC_length hl])
  rw [results_cell_tmp h, hp, hu]
  simp [asAddr, Result.andThen, hl]
abbrev SumsAt (w : World) (base : Nat) (v : Value) (ds : List (List Nat)) : Prop := w.ownsRow base 29 32 v ds.length (bvs ds.flatten)
theorem splice_app {X Y Z cs : List Value} {o : Nat} (h : X.length = o) (hY : Y.length = cs.length) : splice (X ++ (Y ++ Z)) o cs = X ++ (cs ++ Z) := by
  unfold splice
  rw [List.take_left' h, ← List.append_assoc X Y Z, List.drop_left' (by simp; omega)]
theorem prC_splice {f : Bool} {v s : Value} {bits : List Nat} (h : bits.length = 32) : splice (prC f v (zs 32) s) 2 (bvs bits) = prC f v bits s := by
  have e : prC f v (zs 32) s = [.bool f, v] ++ (bvs (zs 32) ++ [s]) := rfl
  rw [e, splice_app (by rfl) (by simp [bvs, h, zs])]
  rfl
theorem PrIs.rb {w : World} {g : Nat} {f : Bool} {v s : Value} {bits : List Nat} (h : PrIs w g f v bits s) (hl : bits.length = 32) (hB : IsB bits) : RB w (some ⟨g, 2, none⟩) 32 bits := by
  refine ⟨hl, hB, fun _ => ⟨_, rfl, h.lt, fun j x hj => ?_⟩⟩
  have h1 := h.cell (2 + j)
  have hlt : j < (bvs bits).length := by
    rcases Nat.lt_or_ge j bits.length with h' | h'
    · simpa [bvs] using h'
    · rw [List.getElem?_eq_none h'] at hj; cases hj
  have h2 : (prC f v bits s).toArray[2 + j]? = some (.int .u8 x) := by
    rw [List.getElem?_toArray]
    show (Value.bool f :: v :: (bvs bits ++ [s]))[2 + j]? = _
    rw [show 2 + j = j + 1 + 1 by omega, List.getElem?_cons_succ, List.getElem?_cons_succ, List.getElem?_append_left hlt, bvs, List.getElem?_map, hj]
    rfl
  rw [h2] at h1
  rw [add_lit]
  exact h1
theorem PrIs.sums {w : World} {g : Nat} {f : Bool} {v s : Value} {bits : List Nat} (h : PrIs w g f v bits s) (hl : bits.length = 32) (s' : Value) : PrIs (w.setCell ⟨g, 34, none⟩ s') g f v bits s' := by
  have h1 := BlkIs.stored h 34 s'
  have e : (prC f v bits s).toArray.setIfInBounds 34 s' = (prC f v bits s').toArray := by
    rw [List.setIfInBounds_toArray]
    congr 1
    show (Value.bool f :: v :: (bvs bits ++ [s])).set 34 s' = _
    rw [List.set_cons_succ, List.set_cons_succ, List.set_append_right _ _ (by simp [bvs, hl])]
    simp [bvs, hl, prC]
  rw [e] at h1
  exact h1
theorem PrIs.sumsCell {w : World} {g : Nat} {f : Bool} {v s : Value} {bits : List Nat} (h : PrIs w g f v bits s) (hl : bits.length = 32) : w.cell? ⟨g, 34, none⟩ = some s := by
  have h1 := h.cell 34
  rw [h1, List.getElem?_toArray]
  show (Value.bool f :: v :: (bvs bits ++ [s]))[34]? = _
  rw [List.getElem?_cons_succ, List.getElem?_cons_succ, List.getElem?_append_right (by simp [bvs, hl])]
  simp [bvs, hl]
theorem wpOp_load_arr {P : Program} {ops : Array Oper} {Q : Exit → Act → World → Prop} {K : Act → World → Prop} {E : Prop} {o : Oper} {a : Act} {w : World} (hw : Region.wanted o (yielded ops a.tmps) = true) (ty : TypeId) (x : Operand) (ho : o.op = .load ty x)
    (ad : Addr) (n : Nat) (ys : List Nat) (hx : a.eval x = .pointer (some ad)) (hr : RB w (some ad) n ys) (hn : 0 < n) (hrow : (P.underlying ty).map (·.isRow) = some true) (hi : (P.info? ty).map (·.size) = some n)
    (h : K (a.put o.dst (.agg (bvs ys).toArray)) w) : if Region.wanted o (yielded ops a.tmps) = true then Oper.wp P o a w K Q else E := by
  rw [if_pos hw]
  obtain ⟨d, hu, hd⟩ := row_of hrow
  obtain ⟨ad', e, _, hc⟩ := hr.2.2 hn
  injection e with e
  subst e
  have hl : (loadCells ad (bvs ys).length).run P w = .ok (bvs ys).toArray w := run_loadCells_list (P := P) w ad (bvs ys) (fun j v hv => by
    simp only [bvs, List.getElem?_map, Option.map_eq_some_iff] at hv
    obtain ⟨y, hy, rfl⟩ := hv
    exact hc j y hy)
  have hlv : (loadVar ty ad).run P w = .ok (.agg (bvs ys).toArray) w := by
    cases hq : P.info? ty with
    | none => simp [hq] at hi
    | some i =>
      have hs : i.size = (bvs ys).length := by
        have : i.size = n := by simpa [hq] using hi
        simp [bvs, this, hr.1]
      have hagg : (isAgg ty).run P w = .ok true w := by
        unfold isAgg
        rw [Sem.run_bind, run_underlying hu w]
        cases d <;> simp_all
      simp [loadVar, Sem.run_bind, hagg, sizeOf, typeInfo, hq, hs, hl]
  unfold Oper.wp execOp
  simp only [ho, hx, Instr.loadAt, Instr.sureAddr, Sem.run_bind, Sem.run_pure, Result.andThen_ok, hlv]
  exact h
theorem row_oneCell {w : World} {base : Nat} {e : TypeId} {size n : Nat} {v : Value} {xs : List Value} (h : w.ownsRow base e size v n xs) : v.oneCell' = true := by
  rcases h.2 with h1 | ⟨g, cap, cur, rfl, _⟩
  · obtain ⟨rfl, _⟩ := h1
    rfl
  · rfl
theorem row_lt {w : World} {base : Nat} {e : TypeId} {size n : Nat} {v : Value} {xs : List Value} (h : w.ownsRow base e size v n xs) {B : Nat} (hB : v.ownBlock = some B) : base ≤ B ∧ B < w.heap.size := by
  rcases h.2 with h1 | ⟨g, cap, cur, rfl, h1, h2, h3⟩
  · obtain ⟨rfl, _⟩ := h1
    cases hB
  · injection hB with hB
    subst hB
    refine ⟨h1, ?_⟩
    rcases Nat.lt_or_ge g w.heap.size with h' | h'
    · exact h'
    · rw [Array.getElem?_eq_none h'] at h2; cases h2
theorem Touch.andThen {U V : Nat → Prop} {w w' w'' : World} (h : Touch U w w') (k : Touch V w' w'') (hv : ∀ B, B < w.heap.size → V B → U B) : Touch U w w'' :=
  ⟨k.os.trans h.os, k.tape.trans h.tape, k.output.trans h.output, Nat.le_trans h.size k.size, fun i hi hn => (k.block i (Nat.lt_of_lt_of_le hi h.size) (fun hV => hn (hv i hi hV))).trans (h.block i hi hn)⟩
theorem row_form {w : World} {base : Nat} {e : TypeId} {size n : Nat} {v : Value} {xs : List Value} (h : w.ownsRow base e size v n xs) : ∃ a l c, v = .slice a l c := by
  rcases h.2 with h1 | ⟨g, cap, cur, rfl, _⟩
  · exact ⟨_, _, _, h1.1⟩
  · exact ⟨_, _, _, rfl⟩
theorem row_mono {w : World} {base base' : Nat} {e : TypeId} {size n : Nat} {v : Value} {xs : List Value} (h : w.ownsRow base e size v n xs) (hb : base' ≤ base) : w.ownsRow base' e size v n xs := by
  refine ⟨h.1, ?_⟩
  rcases h.2 with h1 | ⟨g, cap, cur, rfl, h1, h2⟩
  · exact .inl h1
  · exact .inr ⟨g, cap, cur, rfl, Nat.le_trans hb h1, h2⟩
theorem headN_len {xs : List Nat} {f : Bool} {v r : List Nat} (h : headN xs = some (f, v, r)) : r.length ≤ xs.length := by
  unfold headN at h
  by_cases h0 : xs.length = 0
  · rw [if_pos h0] at h; cases h
  · rw [if_neg h0] at h
    by_cases h1 : xs.getD 0 0 = 0
    · rw [if_pos h1] at h
      injection h with h
      injection h with e1 h
      injection h with e2 e3
      rw [← e3, List.length_drop]; omega
    · rw [if_neg h1] at h
      split at h
      · injection h with h
        injection h with e1 h
        injection h with e2 e3
        rw [← e3, List.length_drop]; omega
      · cases h
/-- What Decode tells. -/
def Decoded (base : Nat) (xs : List Nat) (e : Ending) (w' : World) : Prop :=
  (decN xs = none → e = .returned (.tuple #[.agg (prC false (.slice none 0 0) (zs 32) (.slice none 0 0)).toArray, .int .i64 120])) ∧
  ∀ p, decN xs = some p → ∃ V S, e = .returned (.tuple #[.agg (prC p.found V p.bits S).toArray, .int .i64 0]) ∧ OwnU w' base V p.val ∧ SumsAt w' base S p.sums
theorem decN_head {xs : List Nat} (h : headN xs = none) : decN xs = none := by unfold decN; rw [h]
theorem decN_tail {xs : List Nat} {f : Bool} {v r : List Nat} (h : headN xs = some (f, v, r)) : decN xs = tailN f v r := by unfold decN; rw [h]
set_option maxRecDepth 100000 in
set_option maxHeartbeats 4000000 in
theorem decode_any (A : Option Addr) (n c : Nat) (xs : List Nat) (w : World) (hx : RB w A n xs) (hlt : ∀ ad, A = some ad → ad.block < w.heap.size) (hnc : n ≤ c) (hA : A = none → c = 0) (hc : c ≤ maxLen) (hn : n ≤ 140737488355328) :
    Calls Tryd.prog 53 #[.slice A n c] w fun e w' => Decoded w.heap.size xs e w' ∧ Below w.heap.size w w' := by
  have HX := Lib.hid hx
  have HLT := Lib.hid hlt
  have HNC := Lib.hid hnc
  have HA := Lib.hid hA
  have HC := Lib.hid hc
  have HNL : Hid (xs.length ≤ 140737488355328) := by have := hx.1; show _ ≤ _; omega
  clear hx hlt hnc hA hc
  go_enter Tryd.func53, Tryd.ntmps53
  go_wp2_with fail
  refine start3 (G := fun w2 => Calls _ _ _ w2 _) fun w2 H1 H2 H3 HW HS => ?_
  have HR2 : Hid (PrIs w2 w.heap.size false (.slice none 0 0) (zs 32) (.slice none 0 0)) := H1
  have HP2 : Hid (PrIs w2 (w.heap.size + 1) false (.slice none 0 0) (zs 32) (.slice none 0 0)) := H2
  have HD2 : Hid (RdIs w2 (w.heap.size + 1 + 1) A n c false) := H3
  clear H1 H2 H3
  refine (answer_any (w.heap.size + 1 + 1) (w.heap.size + 1) A n c xs w2 HD2.out HP2.out (by omega) (HX.out.below HW.out) (fun ad e => by have := HLT.out ad e; omega) HNC.out HA.out HC.out).mono ?_
  rintro e w3 ⟨ht, hno, hyes⟩
  have HT3 := Lib.hid ht
  have HB3 : Hid (Below w.heap.size w w3) := ht.toBelow HW.out HW.out.size fun B hB => by rcases hB with hB | hB <;> omega
  have HR3 := Lib.hid (ht.blk HR2.out fun hB => by rcases hB with hB | hB <;> omega)
  cases hh : headN xs with
  | none =>
    rw [hno hh]
    have HDN := Lib.hid (decN_head hh)
    clear hno hyes hh ht
    go_wp2_with (first
      | (refine buildAt (o := ⟨some 13, _, _, _, _, _⟩) (by rfl) 57 #[] rfl [] (by simp [go_sem]) _ built_pr ?_)
      | (refine storePr (o := ⟨none, _, _, _, _, _⟩) (by rfl) (.tmp 2) (.tmp 13) rfl w.heap.size false (.slice none 0 0) (zs 32) (.slice none 0 0) rfl rfl HR3.out (zs_length 32) rfl rfl ?_; intro wf HRf hgf))
    have HB : Below w.heap.size w wf := HB3.out.grown hgf HB3.out.size fun k hk => by injection hk with hk; omega
    exact pr_ret rfl rfl HRf (zs_length 32) rfl rfl ⟨⟨fun _ => rfl, fun p h => by rw [HDN.out] at h; cases h⟩, HB⟩
  | some y =>
    obtain ⟨f, v, r⟩ := y
    obtain ⟨rfl, V, A3, c3, hp3, ho3, hr3, hx3, hc3, hm3, hn3, hb3⟩ := hyes f v r hh
    have HM3 := Lib.hid hm3
    have HDT := Lib.hid (decN_tail hh)
    have HRL : Hid (r.length ≤ 140737488355328) := Nat.le_trans (headN_len hh) HNL.out
    have HP3 := Lib.hid hp3
    have HO3 : Hid (OwnU w3 w2.heap.size V v) := ho3
    have HD3 := Lib.hid hr3
    have HX3 := Lib.hid hx3
    have HC3 := Lib.hid hc3
    have HN3 := Lib.hid hn3
    have HG3 := Lib.hid hb3
    have HS3 := Lib.hid ht.size
    obtain ⟨VA, Vc, rfl, _⟩ := ho3.form
    clear hno hyes hh ht hp3 ho3 hr3 hx3 hc3 hm3 hn3 hb3
    go_wp2_with fail
    rename_i KK hKK
    have HKK := Lib.hid hKK
    clear hKK
    have HGT : Hid (w2.heap.size = w.heap.size + 1 + 1 + 1) := HS.out
    refine wp_region_held_drew (S := fun _ => True) (by kernel_rfl) trivial fun hH => ?_
    replace HP3 : Hid (PrIs w3.drew (w.heap.size + 1) f (.slice VA v.length Vc) (zs 32) (.slice none 0 0)) := HP3.out
    replace HD3 : Hid (RdIs w3.drew (w.heap.size + 1 + 1) A3 r.length c3 false) := HD3.out
    replace HR3 : Hid (PrIs w3.drew w.heap.size false (.slice none 0 0) (zs 32) (.slice none 0 0)) := HR3.out
    replace HX3 : Hid (RB w3.drew A3 r.length r) := HX3.out.below (drewN_below (Below.refl _ _) 1)
    replace HO3 : Hid (OwnU w3.drew w2.heap.size (.slice VA v.length Vc) v) := HO3.out.below (drewN_below (Below.refl _ _) 1)
    replace HB3 : Hid (Below w.heap.size w w3.drew) := drewN_below HB3.out 1
    replace HS3 : Hid (w2.heap.size ≤ w3.drew.heap.size) := HS3.out
    clear HT3
    generalize w3.drew = w3 at *
    refine wpAnyH_take (i := 0) (oi := ⟨some 14, _, _, _, _, _⟩) rfl (by kernel_rfl) (by kernel_rfl) (by kernel_rfl) (fun _ _ _ h => h) (Or.inl ⟨by rfl, fun w hw => by (try dsimp only at hw); go_simp; with_reducible rfl⟩) (by assumption) ?_
    try simp only [Act.put, List.setIfInBounds_toArray, List.set_cons_zero, List.set_cons_succ]
    refine wpAnyH_take (i := 1) (oi := ⟨some 15, _, _, _, _, _⟩) rfl (by kernel_rfl) (by kernel_rfl) (by kernel_rfl) (fun _ _ _ h => h) (Or.inl ⟨by rfl, fun w hw => by (try dsimp only at hw); go_simp; with_reducible rfl⟩) (by assumption) ?_
    try simp only [Act.put, List.setIfInBounds_toArray, List.set_cons_zero, List.set_cons_succ]
    refine wpAnyH_take (i := 2) (oi := ⟨some 16, _, _, _, _, _⟩) rfl (by kernel_rfl) (by kernel_rfl) (by kernel_rfl) (fun _ _ _ h => h) (Or.inl ⟨by rfl, fun w hw => by (try dsimp only at hw); go_simp; with_reducible rfl⟩) (by assumption) ?_
    try simp only [Act.put, List.setIfInBounds_toArray, List.set_cons_zero, List.set_cons_succ]
    refine wpAnyH_ready (rs := [3]) (by kernel_rfl) (by simp) ?_
    refine AllReadyH.cons rfl (fun K hK => ?_) (AllReadyH.nil)
    go_simp
    go_at_call 78
    by_cases h32 : 32 ≤ r.length
    · refine (take_ok (w.heap.size + 1 + 1) A3 r.length c3 32 false w3 HD3.out h32 HC3.out HN3.out HM3.out).mono ?_
      rintro e w4 ⟨rfl, h1, hg4⟩
      have HX4 : Hid (RB w4 A3 32 (r.take 32)) := ((Touch.one hg4).rb HX3.out fun ad e e2 => by have := (HG3.out ad e).1; omega).take h32
      have HP4 := Lib.hid ((Touch.one hg4).blk HP3.out (by omega))
      have M4 : Hid (∃ A', RdIs w4 (w.heap.size + 1 + 1) A' (r.length - 32) (c3 - 32) false ∧ (32 < r.length → A' = A3.map (·.add 32)) ∧ (A' = none → c3 - 32 = 0) ∧ ∀ ad', A' = some ad' → ∃ ad, A3 = some ad ∧ ad'.block = ad.block) := h1
      have HG4 := Lib.hid hg4
      refine hK.out _ _ trivial (fun hH4 => ?_)
      clear hK h1 hg4
      refine wpAnyH_ready (rs := [4]) (by kernel_rfl) (by simp) ?_
      refine AllReadyH.cons (o := ⟨some 18, _, _, _, _, _⟩) rfl (fun K hK => ?_) (AllReadyH.nil)
      refine stepCopy (o := ⟨some 18, _, _, _, _, _⟩) rfl (.tmp 15) (.tmp 17) 22 22 rfl 5 und_bytes byte_size A3 (w.heap.size + 1) 2 32 32 32 32 rfl rfl (prC f (.slice VA v.length Vc) (zs 32) (.slice none 0 0)) 57 HP4.out (r.take 32) HX4.out (Nat.le_refl _) (by rw [prC_length (zs_length 32)]; omega) ?_
      intro w5 hp5 hg5
      have hbl : (r.take 32).length = 32 := by rw [List.length_take]; omega
      rw [prC_splice hbl] at hp5
      have HP5 : Hid (PrIs w5 (w.heap.size + 1) f (.slice VA v.length Vc) (r.take 32) (.slice none 0 0)) := hp5
      have HT5 : Hid (Touch (UT2 (w.heap.size + 1 + 1) (w.heap.size + 1)) w3 w5) := ((Touch.one HG4.out).mono fun _ _ h => Or.inl h).trans ((Touch.one hg5).mono fun _ _ h => Or.inr h)
      refine hK.out _ _ trivial (fun hH5 => ?_)
      refine wpAnyH_done (by kernel_rfl) ?_ _
      change KK _ _
      refine HKK.out _ _ ?_
      go_wp2_with (refine wpList_load_arr (o := ⟨some 20, _, _, _, _, _⟩) (by rfl) 28 (.tmp 19) rfl ⟨w.heap.size + 1, 2, none⟩ 32 (r.take 32) rfl (HP5.out.rb hbl (HX3.out.2.1.take 32)) (by omega) (by kernel_rfl) (by kernel_rfl) ?_)
      refine (ones_any (r.take 32) w5 (HX3.out.2.1.take 32) hbl).mono ?_
      rintro e w6 ⟨rfl, hb6⟩
      have HB6 := Lib.hid hb6
      have HT6 := Lib.hid (HT5.out.trans ((Touch.ofBelow hb6).mono fun _ _ h => h.elim))
      have HP6 := Lib.hid (BlkIs.below HP5.out hb6)
      obtain ⟨A4, hr4, ha4, hn4, hb4⟩ := M4.out
      have HD6 := Lib.hid (BlkIs.below ((Touch.one hg5).blk hr4 (by omega)) hb6)
      have HX6 : Hid (RB w6 A4 (r.length - 32) (r.drop 32)) := (HT6.out.rb HX3.out fun ad e h => by have := (HG3.out ad e); rcases h with h | h <;> omega).drop h32 ha4
      have HN6 : Hid (r.length - 32 ≤ c3 - 32 ∧ c3 - 32 ≤ maxLen ∧ (A4 = none → c3 - 32 = 0) ∧ ∀ ad, A4 = some ad → ad.block ≠ w.heap.size + 1 + 1 ∧ ad.block ≠ w.heap.size + 1 ∧ ad.block < w2.heap.size) := ⟨by have := HC3.out; omega, by have := HM3.out; omega, hn4, fun ad e => by obtain ⟨ad3, e3, eb⟩ := hb4 ad e; rw [eb]; exact HG3.out ad3 e3⟩
      have HR6 := Lib.hid (HT6.out.blk HR3.out fun h => by rcases h with h | h <;> omega)
      have HO6 : Hid (OwnU w6 w2.heap.size (.slice VA v.length Vc) v) := HT6.out.own HO3.out fun B hB h => by have := (HO3.out.lt B hB).1; have := HGT.out; rcases h with h | h <;> omega
      have HBL6 : Hid (Below w.heap.size w w6) := HT6.out.toBelow HB3.out HB3.out.size fun B h => by rcases h with h | h <;> omega
      have HS6 : Hid (w2.heap.size ≤ w6.heap.size) := Nat.le_trans HS3.out HT6.out.size
      have HIB : Hid (IsB r) := HX3.out.2.1
      have hones : onesN (r.take 32) ≤ 256 := by have := onesN_le (ds := r.take 32); omega
      clear hb6 hr4 ha4 hn4 hb4 hp5 hg5 HT5 HT6 HP5 HX4 HP4 M4 HG4 HB6 HP3 HD3 HX3 HC3 HN3 HM3 HG3 HR3 HO3 HB3 HS3 hH4 hH5
      have HBL := Lib.hid hbl
      have H32 := Lib.hid h32
      clear hbl h32
      have hcells := rd_cells HD6.out
      by_cases hm : r.length - 32 = 32 * onesN (r.take 32)
      · have HML : Hid (r.length = 32 + 32 * onesN (r.take 32)) := by have := H32.out; show _ = _; omega
        have hm1 : ((r.length - 32 : Nat) : Int) = (onesN (r.take 32) : Int) * 32 := by omega
        have hm0 : r.length - 32 = onesN (r.take 32) * 32 := by omega
        rw [hm0] at HD6 HX6 HN6
        clear hcells hm
        have hcells := rd_cells HD6.out
        clear hm1 hm0
        generalize hq : onesN (r.take 32) = q at *
        have HQ := Lib.hid hq
        clear hq
        have HXL : Hid ((r.drop 32).length = q * 32) := HX6.out.1
        generalize hc4 : c3 - 32 = c4 at *
        clear hc4
        go_wp2_with fail
        have HV6 : Hid (∀ B, (Value.slice VA v.length Vc).ownBlock = some B → w2.heap.size ≤ B ∧ B < w6.heap.size) := fun B hB => HO6.out.lt B hB
        have HSZ : Hid (r.length ≤ 140737488355328) := HRL.out
        have hq256 : (q : Int) ≤ 256 := by omega
        clear hcells hones
        generalize hrs : r.drop 32 = rs at *
        have HRS := Lib.hid hrs
        clear hrs
        go_loopw [38] (fun i wr => ∃ k : Nat, k ≤ q ∧ i = .int .i64 k ∧ ∃ (s : Value) (A' : Option Addr) (c' : Nat), Hid (PrIs wr (w.heap.size + 1) f (.slice VA v.length Vc) (r.take 32) s) ∧ Hid (wr.ownsRow w6.heap.size 29 32 s k (bvs (rs.take (k * 32)))) ∧ Hid (RdIs wr (w.heap.size + 1 + 1) A' (q * 32 - k * 32) c' false) ∧ Hid (RB wr A' (q * 32 - k * 32) (rs.drop (k * 32))) ∧ Hid (q * 32 - k * 32 ≤ c' ∧ c' ≤ maxLen ∧ (A' = none → c' = 0) ∧ ∀ ad, A' = some ad → ad.block ≠ w.heap.size + 1 + 1 ∧ ad.block ≠ w.heap.size + 1 ∧ ad.block < w2.heap.size) ∧ Hid (Touch (UT2 (w.heap.size + 1 + 1) (w.heap.size + 1)) w6 wr)) (fun i _ => q - (intOf i).toNat)
        case atStart => exact ⟨0, Nat.zero_le _, rfl, _, A4, c4, HP6.out, World.ownsRow_nil _ _ _ _, HD6.out, HX6.out, HN6.out, Touch.refl _ _⟩
        case round =>
          obtain ⟨k, hk, rfl, s, A', c', HPr, HSr, HDr, HXr, HNr, HTr⟩ := hrel
          by_cases hlt : (k : Int) < q
          · go_wp2_with fail
            rename_i KK hKK
            have HKK := Lib.hid hKK
            clear hKK
            have HK32 : Hid (32 ≤ q * 32 - k * 32) := by show _ ≤ _; omega
            have HS8 : Hid (w6.heap.size ≤ wr.heap.size) := HTr.out.size
            have HSB : Hid (∀ B, s.ownBlock = some B → w6.heap.size ≤ B ∧ B < wr.heap.size) := fun B hB => row_lt HSr.out hB
            refine wp_region_upTo (S := fun w' => w'.cell? ⟨w.heap.size + 1, 34, none⟩ = some s) 9 (by kernel_rfl) (HPr.out.sumsCell HBL.out) fun hH => ?_
            replace HPr : Hid (PrIs wr.drew (w.heap.size + 1) f (.slice VA v.length Vc) (r.take 32) s) := HPr.out
            replace HSr : Hid (wr.drew.ownsRow w6.heap.size 29 32 s k (bvs (rs.take (k * 32)))) := HSr.out
            replace HDr : Hid (RdIs wr.drew (w.heap.size + 1 + 1) A' (q * 32 - k * 32) c' false) := HDr.out
            replace HXr : Hid (RB wr.drew A' (q * 32 - k * 32) (rs.drop (k * 32))) := HXr.out.below (drewN_below (Below.refl _ _) 1)
            replace HTr : Hid (Touch (UT2 (w.heap.size + 1 + 1) (w.heap.size + 1)) w6 wr.drew) := HTr.out.drewN 1
            replace HS8 : Hid (w6.heap.size ≤ wr.drew.heap.size) := HS8.out
            replace HSB : Hid (∀ B, s.ownBlock = some B → w6.heap.size ≤ B ∧ B < wr.drew.heap.size) := HSB.out
            generalize wr.drew = w7 at *
            refine wpAnyU_take (i := 0) (oi := ⟨some 40, _, _, _, _, _⟩) [1, 7, 9] rfl (by kernel_rfl) (by kernel_rfl) (by kernel_rfl) (fun _ _ _ h => h) (by kernel_rfl) (by kernel_rfl) (by kernel_rfl) (Or.inl ⟨by rfl, fun w hw => by (try dsimp only at hw); go_simp; with_reducible rfl⟩) (by assumption) ?_
            try simp only [Act.put, List.setIfInBounds_toArray, List.set_cons_zero, List.set_cons_succ]
            refine wpAnyU_take (i := 1) (oi := ⟨some 41, _, _, _, _, _⟩) [7, 9] rfl (by kernel_rfl) (by kernel_rfl) (by kernel_rfl) (fun _ _ _ h => h) (by kernel_rfl) (by kernel_rfl) (by kernel_rfl) (Or.inl ⟨by rfl, fun w hw => by (try dsimp only at hw); go_simp; with_reducible rfl⟩) (by assumption) ?_
            try simp only [Act.put, List.setIfInBounds_toArray, List.set_cons_zero, List.set_cons_succ]
            refine wpAnyU_take (i := 2) (oi := ⟨some 42, _, _, _, _, _⟩) [3, 4, 5, 6, 7, 9] rfl (by kernel_rfl) (by kernel_rfl) (by kernel_rfl) (fun _ _ _ h => h) (by kernel_rfl) (by kernel_rfl) (by kernel_rfl) (Or.inl ⟨by rfl, fun w hw => by (try dsimp only at hw); go_simp; with_reducible rfl⟩) (by assumption) ?_
            try simp only [Act.put, List.setIfInBounds_toArray, List.set_cons_zero, List.set_cons_succ]
            refine wpAnyU_one (i := 3) (by kernel_rfl) rfl (fun K hK => ?_)
            go_simp
            go_at_call 78
            refine (take_ok (w.heap.size + 1 + 1) A' (q * 32 - k * 32) c' 32 false w7 HDr.out HK32.out HNr.out.1 HNr.out.2.2.1 HNr.out.2.1).mono ?_
            rintro e w8 ⟨rfl, h1, hg8⟩
            have HC8 : Hid (RB w8 A' 32 ((rs.drop (k * 32)).take 32)) := ((Touch.one hg8).rb HXr.out fun ad e => (HNr.out.2.2.2 ad e).1).take HK32.out
            have HA8 : Hid (∃ A'', RdIs w8 (w.heap.size + 1 + 1) A'' (q * 32 - k * 32 - 32) (c' - 32) false ∧ (32 < q * 32 - k * 32 → A'' = A'.map (·.add 32)) ∧ (A'' = none → c' - 32 = 0) ∧ ∀ ad', A'' = some ad' → ∃ ad, A' = some ad ∧ ad'.block = ad.block) := h1
            have HP8 : Hid (PrIs w8 (w.heap.size + 1) f (.slice VA v.length Vc) (r.take 32) s) := (Touch.one hg8).blk HPr.out (by omega)
            have HSr8 := Lib.hid ((Touch.one hg8).row HSr.out fun B hB e => by have := (HSB.out B hB).1; have := HS6.out; have := HGT.out; omega)
            have HT8 : Hid (Touch (UT2 (w.heap.size + 1 + 1) (w.heap.size + 1)) w6 w8) := HTr.out.trans ((Touch.one hg8).mono fun _ _ h => Or.inl h)
            have HX8 : Hid (RB w8 A' (q * 32 - k * 32) (rs.drop (k * 32))) := (Touch.one hg8).rb HXr.out fun ad e => (HNr.out.2.2.2 ad e).1
            have HS9 : Hid (w7.heap.size ≤ w8.heap.size) := hg8.size
            have hH8 : w8.cell? ⟨w.heap.size + 1, 34, none⟩ = some s := HP8.out.sumsCell HBL.out
            refine hK.out _ _ (fun _ => hH8) ?_
            clear hK h1 hg8 hH HPr HSr HDr HXr HTr
            obtain ⟨ad, hA, _⟩ := HC8.out.at_ (show 0 < 32 by omega)
            subst hA
            have hat : ∀ W, (Instr.arrayAt 29 (.slice (some ad) 32 32)).run Tryd.prog W = .ok (.pointer (some ad)) W := fun W => run_arrayAt W 29 _ 32 (some ad) 32 32 und_dig (Nat.le_refl _)
            refine wpAnyU_take (i := 4) (oi := ⟨some 44, _, _, _, _, _⟩) [5, 6, 7, 9] rfl (by kernel_rfl) (by kernel_rfl) (by kernel_rfl) (fun _ _ _ h => h) (by kernel_rfl) (by kernel_rfl) (by kernel_rfl) (Or.inl ⟨by rfl, fun w hw => by (try dsimp only at hw); go_simp; with_reducible rfl⟩) (by assumption) ?_
            try simp only [Act.put, List.setIfInBounds_toArray, List.set_cons_zero, List.set_cons_succ]
            clear hat
            have hdl : ((rs.drop (k * 32)).take 32).length = 32 := HC8.out.1
            refine wpAnyU_one (i := 5) (o := ⟨some 45, _, _, _, _, _⟩) (by kernel_rfl) rfl (fun K hK => ?_)
            refine wpOp_load_arr (o := ⟨some 45, _, _, _, _, _⟩) (by rfl) 29 (.tmp 44) rfl ad 32 ((rs.drop (k * 32)).take 32) rfl HC8.out (by omega) (by kernel_rfl) (by kernel_rfl) ?_
            refine hK.out _ _ (fun _ => hH8) ?_
            clear hK
            refine wpAnyU_one (i := 6) (o := ⟨some 46, _, _, _, _, _⟩) (by kernel_rfl) rfl (fun K hK => ?_)
            refine wpOp_buildSlice1 (o := ⟨some 46, _, _, _, _, _⟩) (by rfl) w8 42 29 (.agg (zarr 32)) 32 (.tmp 45) rfl (by kernel_rfl) (by kernel_rfl) (by omega) (by omega) (bvs ((rs.drop (k * 32)).take 32)).toArray rfl (by rw [List.size_toArray, bvs, List.length_map]; exact hdl) ?_
            refine hK.out _ _ (fun _ => (World.cell?_alloc_some w8 _ _ (by rw [hH8]; rfl)).trans hH8) ?_
            clear hK
            refine wpAnyU_one (i := 7) (o := ⟨some 47, _, _, _, _, _⟩) (by kernel_rfl) rfl (fun K hK => ?_)
            refine wpOp_append32 (t := 42) (e := 29) (z := .agg (zarr 32)) (by_ := 32) (o := ⟨some 47, _, _, _, _, _⟩) (by kernel_rfl) (by kernel_rfl) (by rfl) (by rfl) w8 (.tmp 41) (.tmp 46) rfl w6.heap.size s k (bvs (rs.take (k * 32))) HSr8.out (bvs ((rs.drop (k * 32)).take 32)) (by rw [bvs, List.length_map]; exact hdl) (fun u hu => bvs_oneCell _ u hu) rfl rfl (by omega) (by omega) (by have := HS8.out; have := HS9.out; omega) ?_
            intro s9 w9 hs9 hg9 hl9
            obtain ⟨s9a, s9n, s9c, e9⟩ := row_form hs9
            subst e9
            have hne : ∀ B, B < w6.heap.size → ¬ some B = s.ownBlock := fun B h e => by have := (HSB.out B e.symm).1; omega
            have hgl : w.heap.size + 1 < w6.heap.size := by have := HS6.out; have := HGT.out; omega
            have hgl2 : w.heap.size + 1 + 1 < w6.heap.size := by have := HS6.out; have := HGT.out; omega
            have hp9 : PrIs w9 (w.heap.size + 1) f (.slice VA v.length Vc) (r.take 32) s := (Touch.grown hg9).blk HP8.out (hne _ hgl)
            have ht9 : Touch (UT2 (w.heap.size + 1 + 1) (w.heap.size + 1)) w6 w9 := HT8.out.andThen (Touch.grown hg9) fun B h e => absurd e (hne B h)
            have hx9 : RB w9 (some ad) (q * 32 - k * 32) (rs.drop (k * 32)) := (Touch.grown hg9).rb HX8.out fun ad' e h => hne _ (by have := (HNr.out.2.2.2 ad' e).2.2; have := HS6.out; omega) h
            obtain ⟨A9, hd8, ha9, hn9, hb9⟩ := HA8.out
            have hd9 := (Touch.grown hg9).blk hd8 (hne _ hgl2)
            have hc9 := hp9.sumsCell HBL.out
            have hf9 := BlkIs.frozen hp9 34
            have HP10 : Hid (PrIs (w9.setCell ⟨w.heap.size + 1, 34, none⟩ (.slice s9a s9n s9c)) (w.heap.size + 1) f (.slice VA v.length Vc) (r.take 32) (.slice s9a s9n s9c)) := hp9.sums HBL.out (.slice s9a s9n s9c)
            have t10 : Touch (fun B => B = w.heap.size + 1) w9 (w9.setCell ⟨w.heap.size + 1, 34, none⟩ (.slice s9a s9n s9c)) := Touch.one (grown_setCell _ _ _)
            have HT10 : Hid (Touch (UT2 (w.heap.size + 1 + 1) (w.heap.size + 1)) w6 (w9.setCell ⟨w.heap.size + 1, 34, none⟩ (.slice s9a s9n s9c))) := ht9.trans (t10.mono fun _ _ h => Or.inr h)
            have HD10 : Hid (RdIs (w9.setCell ⟨w.heap.size + 1, 34, none⟩ (.slice s9a s9n s9c)) (w.heap.size + 1 + 1) A9 (q * 32 - (k + 1) * 32) (c' - 32) false) := by
              have := t10.blk hd9 (by omega)
              rwa [show q * 32 - k * 32 - 32 = q * 32 - (k + 1) * 32 by omega] at this
            have HX10 : Hid (RB (w9.setCell ⟨w.heap.size + 1, 34, none⟩ (.slice s9a s9n s9c)) A9 (q * 32 - (k + 1) * 32) (rs.drop ((k + 1) * 32))) := by
              have := (t10.rb hx9 fun ad' e => (HNr.out.2.2.2 ad' e).2.1).drop HK32.out ha9
              rw [List.drop_drop] at this
              rwa [show q * 32 - k * 32 - 32 = q * 32 - (k + 1) * 32 by omega, show k * 32 + 32 = (k + 1) * 32 by omega] at this
            have HS10 : Hid ((w9.setCell ⟨w.heap.size + 1, 34, none⟩ (.slice s9a s9n s9c)).ownsRow w6.heap.size 29 32 (.slice s9a s9n s9c) (k + 1) (bvs (rs.take ((k + 1) * 32)))) := by
              have h := t10.row hs9 fun B hB e => by have := (row_lt hs9 hB).1; omega
              rw [bvs, bvs, ← List.map_append] at h
              rw [show (k + 1) * 32 = k * 32 + 32 by omega, List.take_add]
              exact h
            have HN10 : Hid (q * 32 - (k + 1) * 32 ≤ c' - 32 ∧ c' - 32 ≤ maxLen ∧ (A9 = none → c' - 32 = 0) ∧ ∀ ad, A9 = some ad → ad.block ≠ w.heap.size + 1 + 1 ∧ ad.block ≠ w.heap.size + 1 ∧ ad.block < w2.heap.size) := ⟨by have := HNr.out.1; omega, by have := HNr.out.2.1; omega, hn9, fun ad' e => by obtain ⟨ad3, e3, eb⟩ := hb9 ad' e; rw [eb]; exact HNr.out.2.2.2 ad3 e3⟩
            refine hK.out _ _ (fun _ => hc9) ?_
            clear hK hne hgl hgl2 hp9 ht9 hx9 hd8 ha9 hn9 hb9 hd9 hs9 hg9 hl9 t10 hdl
            refine wpAnyU_take (i := 8) (oi := ⟨some 48, _, _, _, _, _⟩) [9] rfl (by kernel_rfl) (by kernel_rfl) (by kernel_rfl) (fun _ _ _ h => h) (by kernel_rfl) (by kernel_rfl) (by kernel_rfl) (Or.inl ⟨by rfl, fun w hw => by (try dsimp only at hw); go_simp; with_reducible rfl⟩) (by assumption) ?_
            try simp only [Act.put, List.setIfInBounds_toArray, List.set_cons_zero, List.set_cons_succ]
            refine wpAnyU_one (i := 9) (by kernel_rfl) rfl (fun K hK => ?_)
            go_simp
            refine hK.out _ _ (fun h => by cases h) ?_
            refine wpAnyU_done (by kernel_rfl) ?_ _
            change KK _ _
            refine HKK.out _ _ ?_
            clear hK hc9 hf9 HKK
            generalize w9.setCell ⟨w.heap.size + 1, 34, none⟩ (.slice s9a s9n s9c) = w10 at *
            go_wp2_with fail
            go_roundw
            case rel => exact ⟨k + 1, by omega, by go_num, .slice s9a s9n s9c, A9, c' - 32, HP10, HS10, HD10, HX10, HN10, HT10⟩
            case measure => simp [intOf]; omega
          · have hkq : k = q := by omega
            rw [hkq] at HSr
            clear hkq
            have hs1 := row_oneCell HSr.out
            have HRr := Lib.hid (HTr.out.blk HR6.out fun h => by rcases h with h | h <;> omega)
            clear hk
            go_wp2_with (first
              | (refine loadPr (o := ⟨some 50, _, _, _, _, _⟩) (by rfl) (.tmp 4) rfl (w.heap.size + 1) f (.slice VA v.length Vc) (r.take 32) s rfl HPr.out HBL.out ?_)
              | (refine storePr (o := ⟨none, _, _, _, _, _⟩) (by rfl) (.tmp 2) (.tmp 50) rfl w.heap.size f (.slice VA v.length Vc) (r.take 32) s rfl rfl HRr.out HBL.out rfl hs1 ?_; intro wf HRf hgf))
            have hD : decN xs = some ⟨f, v, r.take 32, chunksN q rs⟩ := by
              rw [HDT.out]
              unfold tailN
              rw [if_pos ⟨H32.out, by rw [HQ.out]; exact HML.out⟩, HQ.out, HRS.out]
            have hg2 : w.heap.size ≤ w2.heap.size := by have := HGT.out; omega
            have hsz : w.heap.size + 1 < w6.heap.size := by have := HS6.out; have := HGT.out; omega
            refine pr_ret rfl rfl HRf HBL.out rfl rfl ⟨⟨fun h => ?_, fun p h => ?_⟩, ?_⟩
            · rw [hD] at h
              cases h
            · rw [hD] at h
              injection h with h
              subst h
              refine ⟨_, _, rfl, (Touch.one hgf).own (HTr.out.own (HO6.out.mono hg2) fun B hB e => ?_) fun B hB e => ?_, ?_⟩
              · have := (HV6.out B hB).1
                have := HGT.out
                rcases e with e | e <;> omega
              · have := (HV6.out B hB).1
                have := HGT.out
                omega
              · show World.ownsRow _ _ _ _ _ (chunksN q rs).length (bvs (chunksN q rs).flatten)
                have hl : rs.length = 32 * q := by have := HXL.out; omega
                rw [chunksN_length, chunksN_flat hl]
                have h1 := (Touch.one hgf).row HSr.out fun B hB e => by have := (row_lt HSr.out hB).1; omega
                rw [List.take_of_length_le (by have := HXL.out; omega)] at h1
                exact row_mono h1 (by omega)
            · have hb : Below w.heap.size w wr := HTr.out.toBelow HBL6.out HBL6.out.size fun B h => by rcases h with h | h <;> omega
              exact hb.grown hgf hb.size fun k hk => by injection hk with hk; omega
      · have hm1 : ¬ ((r.length - 32 : Nat) : Int) = (onesN (r.take 32) : Int) * 32 := by omega
        have HDN : Hid (decN xs = none) := by
          show decN xs = none
          rw [HDT.out]
          unfold tailN
          rw [if_neg (by have := H32.out; omega)]
        clear hm
        generalize onesN (r.take 32) = q at *
        generalize r.length - 32 = m at *
        generalize c3 - 32 = c4 at *
        go_wp2_with (first
          | (refine buildAt (o := ⟨some 36, _, _, _, _, _⟩) (by rfl) 57 #[] rfl [] (by simp [go_sem]) _ built_pr ?_)
          | (refine storePr (o := ⟨none, _, _, _, _, _⟩) (by rfl) (.tmp 2) (.tmp 36) rfl w.heap.size false (.slice none 0 0) (zs 32) (.slice none 0 0) rfl rfl HR6.out (zs_length 32) rfl rfl ?_; intro wf HRf hgf))
        have HB : Below w.heap.size w wf := HBL6.out.grown hgf HBL6.out.size fun k hk => by injection hk with hk; omega
        exact pr_ret rfl rfl HRf (zs_length 32) rfl rfl ⟨⟨fun _ => rfl, fun p h => by rw [HDN.out] at h; cases h⟩, HB⟩
    · refine (take_short (w.heap.size + 1 + 1) A3 r.length c3 32 false w3 HD3.out (by omega)).mono ?_
      rintro e w4 ⟨rfl, h1, hg4⟩
      have HP4 := Lib.hid ((Touch.one hg4).blk HP3.out (by omega))
      have HD4 : Hid (RdIs w4 (w.heap.size + 1 + 1) none 0 0 true) := h1
      have HG4 := Lib.hid hg4
      refine hK.out _ _ trivial (fun hH4 => ?_)
      clear hK h1 hg4
      refine wpAnyH_ready (rs := [4]) (by kernel_rfl) (by simp) ?_
      refine AllReadyH.cons (o := ⟨some 18, _, _, _, _, _⟩) rfl (fun K hK => ?_) (AllReadyH.nil)
      refine stepCopy (o := ⟨some 18, _, _, _, _, _⟩) rfl (.tmp 15) (.tmp 17) 22 22 rfl 5 und_bytes byte_size none (w.heap.size + 1) 2 32 32 0 0 rfl rfl (prC f (.slice VA v.length Vc) (zs 32) (.slice none 0 0)) 57 HP4.out [] (RB.nil w4 none) (by omega) (by rw [prC_length (zs_length 32)]; omega) ?_
      intro w5 hp5 hg5
      have hsp : splice (prC f (.slice VA v.length Vc) (zs 32) (.slice none 0 0)) 2 (bvs []) = prC f (.slice VA v.length Vc) (zs 32) (.slice none 0 0) := by simp [splice, bvs]
      rw [hsp] at hp5
      have HP5 : Hid (PrIs w5 (w.heap.size + 1) f (.slice VA v.length Vc) (zs 32) (.slice none 0 0)) := hp5
      have HT5 : Hid (Touch (UT2 (w.heap.size + 1 + 1) (w.heap.size + 1)) w3 w5) := ((Touch.one HG4.out).mono fun _ _ h => Or.inl h).trans ((Touch.one hg5).mono fun _ _ h => Or.inr h)
      have HD5 : Hid (RdIs w5 (w.heap.size + 1 + 1) none 0 0 true) := (Touch.one hg5).blk HD4.out (by omega)
      refine hK.out _ _ trivial (fun hH5 => ?_)
      refine wpAnyH_done (by kernel_rfl) ?_ _
      change KK _ _
      refine HKK.out _ _ ?_
      go_wp2_with (refine wpList_load_arr (o := ⟨some 20, _, _, _, _, _⟩) (by rfl) 28 (.tmp 19) rfl ⟨w.heap.size + 1, 2, none⟩ 32 (zs 32) rfl (HP5.out.rb (zs_length 32) (zs_isB 32)) (by omega) (by kernel_rfl) (by kernel_rfl) ?_)
      refine (ones_any (zs 32) w5 (zs_isB 32) (zs_length 32)).mono ?_
      rintro e w6 ⟨rfl, hb6⟩
      have HT6 := Lib.hid (HT5.out.trans ((Touch.ofBelow hb6).mono fun _ _ h => h.elim))
      have HD6 := Lib.hid (BlkIs.below HD5.out hb6)
      have HR6 := Lib.hid (HT6.out.blk HR3.out fun h => by rcases h with h | h <;> omega)
      have HBL6 : Hid (Below w.heap.size w w6) := HT6.out.toBelow HB3.out HB3.out.size fun B h => by rcases h with h | h <;> omega
      have HDN : Hid (decN xs = none) := by
        show decN xs = none
        rw [HDT.out]
        unfold tailN
        rw [if_neg (by omega)]
      have hcells := rd_cells HD6.out
      clear hb6 HT5 HP5 HD5 HD4 HG4 HP4 HT6 hp5 hg5 hsp hH4 hH5 hK
      generalize onesN (zs 32) = q at *
      go_wp2_with (first
        | (refine buildAt (o := ⟨some 36, _, _, _, _, _⟩) (by rfl) 57 #[] rfl [] (by simp [go_sem]) _ built_pr ?_)
        | (refine storePr (o := ⟨none, _, _, _, _, _⟩) (by rfl) (.tmp 2) (.tmp 36) rfl w.heap.size false (.slice none 0 0) (zs 32) (.slice none 0 0) rfl rfl HR6.out (zs_length 32) rfl rfl ?_; intro wf HRf hgf))
      have HB : Below w.heap.size w wf := HBL6.out.grown hgf HBL6.out.size fun k hk => by injection hk with hk; omega
      exact pr_ret rfl rfl HRf (zs_length 32) rfl rfl ⟨⟨fun _ => rfl, fun p h => by rw [HDN.out] at h; cases h⟩, HB⟩
end Go.Proofs.YtfnlhfaihoojfaaDoor
