/- Check, CliA, Read, Sides (merged) -/
import Derived.Test.YtfnlhfaihoojfaaDoorDecode
import Derived.Test.YtfnlhfaihoojfaaDoorKeys
/- client's check as one block; bitOf. -/
namespace Go.Proofs.YtfnlhfaihoojfaaDoor
open Go.RowKit
section
variable {P : Program} {w : World} {g : Nat} {t : TypeId}
theorem blk_mid : ∀ (Y Y' X Z : List Value) (w : World), BlkIs w g t (X ++ (Y ++ Z)).toArray → Y.length = Y'.length → BlkIs (w.setCells g X.length Y') g t (X ++ (Y' ++ Z)).toArray
  | [], [], X, Z, w, h, _ => h
  | y :: Y, y' :: Y', X, Z, w, h, hl => by
    have h1 := BlkIs.stored h X.length y'
    have e : (X ++ (y :: Y ++ Z)).toArray.setIfInBounds X.length y' = ((X ++ [y']) ++ (Y ++ Z)).toArray := by
      rw [List.setIfInBounds_toArray, List.set_append_right _ _ (Nat.le_refl _), Nat.sub_self]
      simp
    rw [e] at h1
    have h2 := blk_mid Y Y' (X ++ [y']) Z _ h1 (by simpa using hl)
    rw [List.length_append] at h2
    have e2 : (X ++ [y']) ++ (Y' ++ Z) = X ++ (y' :: Y' ++ Z) := by simp
    rw [e2] at h2
    exact h2
  | [], _ :: _, _, _, _, _, h => by simp at h
  | _ :: _, [], _, _, _, _, h => by simp at h
theorem grown_setCells (g : Nat) : ∀ (vs : List Value) (o : Nat) (w : World), w.grownBy (w.setCells g o vs) (some g)
  | [], _, w => World.grownBy.refl w _
  | v :: r, o, w => grown_trans (grown_setCell w o v) (grown_setCells g r (o + 1) _)
theorem BlkIs.thereMid {L : List Value} (h : BlkIs w g t L.toArray) {o n : Nat} (ho : o + n ≤ L.length) : w.there g o n := fun j hj => by
  refine ⟨?_, h.frozen _⟩
  have h1 := h.cell (o + j)
  rw [h1, List.getElem?_toArray, List.getElem?_eq_getElem (by omega)]
  rfl
theorem BlkIs.rangeOf {X Y Z : List Value} (h : BlkIs w g t (X ++ (Y ++ Z)).toArray) {o : Nat} (ho : X.length = o) : w.rangeAt g o Y := fun j v hj => by
  have h1 := h.cell (o + j)
  have hlt : j < Y.length := by
    rcases Nat.lt_or_ge j Y.length with h' | h'
    · exact h'
    · rw [List.getElem?_eq_none h'] at hj; cases hj
  rw [h1, List.getElem?_toArray, List.getElem?_append_right (by omega), show o + j - X.length = j by omega, List.getElem?_append_left hlt, hj]
theorem BlkIs.rbOf {X Z : List Value} {ds : List Nat} (h : BlkIs w g t (X ++ (bvs ds ++ Z)).toArray) {o n : Nat} (ho : X.length = o) (hn : ds.length = n) (hB : IsB ds) : RB w (some ⟨g, o, none⟩) n ds := by
  refine ⟨hn, hB, fun _ => ⟨_, rfl, h.lt, fun j x hj => ?_⟩⟩
  rw [add_lit]
  have h1 := h.rangeOf ho j (.int .u8 x) (by rw [bvs, List.getElem?_map, hj]; rfl)
  exact h1
/-- A row of cells within a block is stored. -/
theorem wpList_store_part {ops : Array Oper} {rest : List Oper} {o : Oper} {a : Act} {Q : Exit → Act → World → Prop} (hgd : o.guard = none) (ty : TypeId) (x y : Operand) (ho : o.op = .store ty x y)
    (k : Nat) (X Y Y' Z : List Value) (hx : a.eval x = .pointer (some ⟨g, k, none⟩)) (hy : a.eval y = .agg Y'.toArray) (h0 : BlkIs w g t (X ++ (Y ++ Z)).toArray) (hk : X.length = k) (hl : Y.length = Y'.length)
    (hi : (P.info? ty).map (·.size) = some Y'.length) (h1 : ∀ u ∈ Y', u.oneCell' = true)
    (h : ∀ w', BlkIs w' g t (X ++ (Y' ++ Z)).toArray → w.grownBy w' (some g) → wpList P ops Q rest (a.put o.dst undef) w') : wpList P ops Q (o :: rest) a w := by
  refine wpList_store_mid hgd ty x y ho g k Y'.toArray hx hy (h0.thereMid (by simp; omega)) (by simpa using hi) (all_oneCell_toArray h1) ?_
  refine h _ ?_ (grown_setCells _ _ _ _)
  rw [← hk]
  exact blk_mid Y Y' X Z w h0 hl
theorem wpOp_store_part {ops : Array Oper} {K : Act → World → Prop} {E : Prop} {o : Oper} {a : Act} {Q : Exit → Act → World → Prop} (hw : Region.wanted o (yielded ops a.tmps) = true) (ty : TypeId) (x y : Operand) (ho : o.op = .store ty x y)
    (k : Nat) (X Y Y' Z : List Value) (hx : a.eval x = .pointer (some ⟨g, k, none⟩)) (hy : a.eval y = .agg Y'.toArray) (h0 : BlkIs w g t (X ++ (Y ++ Z)).toArray) (hk : X.length = k) (hl : Y.length = Y'.length)
    (hi : (P.info? ty).map (·.size) = some Y'.length) (h1 : ∀ u ∈ Y', u.oneCell' = true)
    (h : ∀ w', BlkIs w' g t (X ++ (Y' ++ Z)).toArray → w.grownBy w' (some g) → K (a.put o.dst undef) w') : if Region.wanted o (yielded ops a.tmps) = true then o.wp P a w K Q else E := by
  rw [if_pos hw]
  refine wp_store_mid ty x y ho g k Y'.toArray hx hy (h0.thereMid (by simp; omega)) (by simpa using hi) (all_oneCell_toArray h1) ?_
  refine h _ ?_ (grown_setCells _ _ _ _)
  rw [← hk]
  exact blk_mid Y Y' X Z w h0 hl
end
/-- What a check holds. -/
structure Ck where
  wd : Int
  key : List Nat
  raw : Value
  root : List Nat
  f : Bool
  v : Value
  bits : List Nat
  s : Value
  fin : List Nat
  blank : Value
namespace Ck
def x66 (c : Ck) : List Value := .int .i64 c.wd :: (bvs c.key ++ c.raw :: bvs c.root)
def C (c : Ck) : List Value := c.x66 ++ (prC c.f c.v c.bits c.s ++ (bvs c.fin ++ [c.blank]))
structure Ok (c : Ck) : Prop where
  kl : c.key.length = 32
  kB : IsB c.key
  rl : c.root.length = 32
  rB : IsB c.root
  bl : c.bits.length = 32
  bB : IsB c.bits
  fl : c.fin.length = 32
  fB : IsB c.fin
theorem x66_length {c : Ck} (h : c.Ok) : c.x66.length = 66 := by simp [x66, bvs, h.kl, h.rl]
theorem C_length {c : Ck} (h : c.Ok) : c.C.length = 134 := by simp [C, x66_length h, prC_length h.bl, bvs, h.fl]
theorem at0 (c : Ck) : c.C[0]? = some (.int .i64 c.wd) := rfl
theorem at33 {c : Ck} (h : c.Ok) : c.C[33]? = some c.raw := by
  unfold C
  rw [List.getElem?_append_left (by rw [x66_length h]; omega)]
  show (Value.int IntKind.i64 c.wd :: (bvs c.key ++ c.raw :: bvs c.root))[33]? = _
  rw [List.getElem?_cons_succ, List.getElem?_append_right (by simp [bvs, h.kl])]
  simp [bvs, h.kl]
theorem at66 {c : Ck} (h : c.Ok) : c.C[66]? = some (.bool c.f) := by
  unfold C
  rw [List.getElem?_append_right (by rw [x66_length h]; omega), x66_length h]
  rfl
theorem at67 {c : Ck} (h : c.Ok) : c.C[67]? = some c.v := by
  unfold C
  rw [List.getElem?_append_right (by rw [x66_length h]; omega), x66_length h]
  rfl
theorem at100 {c : Ck} (h : c.Ok) : c.C[100]? = some c.s := by
  unfold C
  rw [List.getElem?_append_right (by rw [x66_length h]; omega), x66_length h, List.getElem?_append_left (by rw [prC_length h.bl]; omega)]
  show (Value.bool c.f :: c.v :: (bvs c.bits ++ [c.s]))[34]? = _
  rw [List.getElem?_cons_succ, List.getElem?_cons_succ, List.getElem?_append_right (by simp [bvs, h.bl])]
  simp [bvs, h.bl]
theorem at133 {c : Ck} (h : c.Ok) : c.C[133]? = some c.blank := by
  unfold C
  rw [List.getElem?_append_right (by rw [x66_length h]; omega), x66_length h, List.getElem?_append_right (by rw [prC_length h.bl]; omega), prC_length h.bl, List.getElem?_append_right (by simp [bvs, h.fl])]
  simp [bvs, h.fl]
theorem byKey (c : Ck) : c.C = [.int .i64 c.wd] ++ (bvs c.key ++ (c.raw :: (bvs c.root ++ (prC c.f c.v c.bits c.s ++ (bvs c.fin ++ [c.blank]))))) := by simp [C, x66]
theorem byRoot (c : Ck) : c.C = (.int .i64 c.wd :: (bvs c.key ++ [c.raw])) ++ (bvs c.root ++ (prC c.f c.v c.bits c.s ++ (bvs c.fin ++ [c.blank]))) := by simp [C, x66]
theorem byBits (c : Ck) : c.C = (c.x66 ++ [.bool c.f, c.v]) ++ (bvs c.bits ++ (c.s :: (bvs c.fin ++ [c.blank]))) := by simp [C, prC]
theorem byFin (c : Ck) : c.C = (c.x66 ++ prC c.f c.v c.bits c.s) ++ (bvs c.fin ++ [c.blank]) := by simp [C]
theorem byBlank (c : Ck) : c.C = (c.x66 ++ prC c.f c.v c.bits c.s ++ bvs c.fin) ++ ([c.blank] ++ []) := by simp [C]
theorem byPr (c : Ck) : c.C = c.x66 ++ (prC c.f c.v c.bits c.s ++ (bvs c.fin ++ [c.blank])) := rfl
end Ck
abbrev CkIs (w : World) (g : Nat) (c : Ck) : Prop := BlkIs w g 59 c.C.toArray
section
variable {w : World} {g : Nat} {c : Ck}
theorem ck_cells (h : CkIs w g c) (hc : c.Ok) : w.cell? ⟨g, 0, none⟩ = some (.int .i64 c.wd) ∧ w.cell? ⟨g, 33, none⟩ = some c.raw ∧ w.cell? ⟨g, 66, none⟩ = some (.bool c.f) ∧ w.cell? ⟨g, 67, none⟩ = some c.v ∧ w.cell? ⟨g, 100, none⟩ = some c.s ∧ w.cell? ⟨g, 133, none⟩ = some c.blank := by
  refine ⟨(h.cell 0).trans ?_, (h.cell 33).trans ?_, (h.cell 66).trans ?_, (h.cell 67).trans ?_, (h.cell 100).trans ?_, (h.cell 133).trans ?_⟩ <;> rw [List.getElem?_toArray]
  · exact c.at0
  · exact Ck.at33 hc
  · exact Ck.at66 hc
  · exact Ck.at67 hc
  · exact Ck.at100 hc
  · exact Ck.at133 hc
theorem ck_key (h : CkIs w g c) (hc : c.Ok) : RB w (some ⟨g, 1, none⟩) 32 c.key := by
  have h : BlkIs w g _ c.C.toArray := h
  rw [c.byKey] at h
  exact h.rbOf rfl hc.kl hc.kB
theorem ck_root (h : CkIs w g c) (hc : c.Ok) : RB w (some ⟨g, 34, none⟩) 32 c.root := by
  have h : BlkIs w g _ c.C.toArray := h
  rw [c.byRoot] at h
  exact h.rbOf (by simp [bvs, hc.kl]) hc.rl hc.rB
theorem ck_bits (h : CkIs w g c) (hc : c.Ok) : RB w (some ⟨g, 68, none⟩) 32 c.bits := by
  have h : BlkIs w g _ c.C.toArray := h
  rw [c.byBits] at h
  exact h.rbOf (by simp [Ck.x66_length hc]) hc.bl hc.bB
theorem ck_fin (h : CkIs w g c) (hc : c.Ok) : RB w (some ⟨g, 101, none⟩) 32 c.fin := by
  have h : BlkIs w g _ c.C.toArray := h
  rw [c.byFin] at h
  exact h.rbOf (by simp [Ck.x66_length hc, prC_length hc.bl]) hc.fl hc.fB
theorem ck_blank (h : CkIs w g c) (hc : c.Ok) (b : Value) : CkIs (w.setCell ⟨g, 133, none⟩ b) g { c with blank := b } := by
  have h : BlkIs w g _ c.C.toArray := h
  have h1 := BlkIs.stored h 133 b
  have e : c.C.toArray.setIfInBounds 133 b = (Ck.C { c with blank := b }).toArray := by
    rw [List.setIfInBounds_toArray, c.byBlank, Ck.byBlank, List.set_append_right _ _ (by simp [Ck.x66_length hc, prC_length hc.bl, bvs, hc.fl])]
    have : 133 - (c.x66 ++ prC c.f c.v c.bits c.s ++ bvs c.fin).length = 0 := by simp [Ck.x66_length hc, prC_length hc.bl, bvs, hc.fl]
    rw [this]
    rfl
  rw [e] at h1
  exact h1
end
/-- bitOf's own bits. -/
theorem shr1 (x r : Nat) (hx : x < 256) : bits .and .u8 ((x : Int) / 2 ^ r) 1 = ((x / 2 ^ r % 2 : Nat) : Int) := by
  have e : ((x : Int) / 2 ^ r) = ((x / 2 ^ r : Nat) : Int) := by simp
  have hb : x / 2 ^ r < 256 := Nat.lt_of_le_of_lt (Nat.div_le_self _ _) hx
  rw [e]
  generalize x / 2 ^ r = y at hb
  have hy : ∀ y : Fin 256, bits .and .u8 (y.val : Int) 1 = ((y.val % 2 : Nat) : Int) := by decide +kernel
  exact hy ⟨y, hb⟩
set_option maxHeartbeats 400000 in
theorem bitOf_any (g o : Nat) (ds : List Nat) (h : Nat) (w : World) (hx : RB w (some ⟨g, o + 2, none⟩) 32 ds) (hh : h < 256) :
    Calls Tryd.prog 54 #[.pointer (some ⟨g, o, none⟩), .int .i64 h] w fun e w' => e = .returned (.bool (bitP ds h)) ∧ w' = w := by
  obtain ⟨ad, e, _, hc⟩ := hx.at_ (show h / 8 < 32 by omega)
  injection e with e
  subst e
  rw [add_lit] at hc
  have hx8 := hx.lt (show h / 8 < 32 by omega)
  have HR : Hid (bitP ds h = decide ((((ds.getD (h / 8) 0) / 2 ^ (h % 8) % 2 : Nat) : Int) = 1)) := by
    show _ = _
    unfold bitP
    by_cases hq : ds.getD (h / 8) 0 / 2 ^ (h % 8) % 2 = 1
    · rw [hq]; rfl
    · rw [decide_eq_false hq, decide_eq_false (by omega)]
  clear hx
  generalize ds.getD (h / 8) 0 = x at *
  have h1 := shr1 x (h % 8) hx8
  have HE : Hid (bitP ds h = ((x : Int) / 2 ^ (h % 8) % 2 == 1)) := by
    show _ = _
    rw [HR.out, show ((x : Int) / 2 ^ (h % 8) % 2) = ((x / 2 ^ (h % 8) % 2 : Nat) : Int) by simp]
    rfl
  go_enter Tryd.func54, Tryd.ntmps54
  go_wp2_with fail
  go_ret
  exact ⟨by rw [HE.out]; rfl, rfl⟩
end Go.Proofs.YtfnlhfaihoojfaaDoor

/- client: wide, sides. -/
namespace Go.Proofs.YtfnlhfaihoojfaaDoor
open Go.RowKit
def wideE (wd : Int) : Int := if wd < 1 ∨ 32 < wd then 1 else 0
theorem wide_any (g : Nat) (c : Ck) (w : World) (h : CkIs w g c) (hc : c.Ok) :
    Calls Tryd.prog 32 #[.pointer (some ⟨g, 0, none⟩)] w fun e w' => e = .returned (.int .i64 (wideE c.wd)) ∧ w' = w := by
  obtain ⟨c0, _⟩ := ck_cells h hc
  have HE : Hid (wideE c.wd = if c.wd < 1 ∨ 32 < c.wd then 1 else 0) := rfl
  clear h hc
  generalize c.wd = wd at *
  by_cases h1 : wd < 1
  · go_enter Tryd.func32, Tryd.ntmps32
    go_wp2_with fail
    go_ret
    exact ⟨by rw [HE.out, if_pos (.inl h1)]; rfl, rfl⟩
  · by_cases h2 : wd > 32
    · go_enter Tryd.func32, Tryd.ntmps32
      go_wp2_with fail
      go_ret
      exact ⟨by rw [HE.out, if_pos (.inr h2)]; rfl, rfl⟩
    · go_enter Tryd.func32, Tryd.ntmps32
      go_wp2_with fail
      go_ret
      exact ⟨by rw [HE.out, if_neg (by omega)]; rfl, rfl⟩
end Go.Proofs.YtfnlhfaihoojfaaDoor

/- client: read. -/
namespace Go.Proofs.YtfnlhfaihoojfaaDoor
open Go.RowKit
def Ck.with (c : Ck) (f : Bool) (v : Value) (bits : List Nat) (s : Value) : Ck := { c with f := f, v := v, bits := bits, s := s }
theorem Ck.with_ok {c : Ck} (h : c.Ok) {f : Bool} {v s : Value} {bits : List Nat} (h1 : bits.length = 32) (h2 : IsB bits) : (c.with f v bits s).Ok := ⟨h.kl, h.kB, h.rl, h.rB, h1, h2, h.fl, h.fB⟩
def ReadAs (g : Nat) (c : Ck) (xs : List Nat) (w : World) (e : Ending) (w' : World) : Prop :=
  Touch (fun B => B = g) w w' ∧ (decN xs = none → e = .returned (.int .i64 120) ∧ CkIs w' g (c.with false (.slice none 0 0) (zs 32) (.slice none 0 0))) ∧
  ∀ p, decN xs = some p → e = .returned (.int .i64 0) ∧ ∃ V S, CkIs w' g (c.with p.found V p.bits S) ∧ OwnU w' w.heap.size V p.val ∧ SumsAt w' w.heap.size S p.sums
set_option maxRecDepth 20000 in
set_option maxHeartbeats 1000000 in
theorem read_any (g : Nat) (c : Ck) (A : Option Addr) (n k : Nat) (xs : List Nat) (w : World) (h : CkIs w g c) (hc : c.Ok) (hr : c.raw = .slice A n k) (hx : RB w A n xs) (hlt : ∀ ad, A = some ad → ad.block < w.heap.size) (hnc : n ≤ k) (hA : A = none → k = 0) (hk : k ≤ maxLen) (hn : n ≤ 140737488355328) :
    Calls Tryd.prog 33 #[.pointer (some ⟨g, 0, none⟩)] w (ReadAs g c xs w) := by
  obtain ⟨_, c1, _⟩ := ck_cells h hc
  rw [hr] at c1
  have HC := Lib.hid h
  have HO := Lib.hid hc
  have HD := Lib.hid (decode_any A n k xs w hx hlt hnc hA hk hn)
  have HX := Lib.hid hx
  clear h hc hr hlt hnc hA hk hn hx
  go_enter Tryd.func33, Tryd.ntmps33
  go_wp2_with fail
  refine HD.out.mono ?_
  rintro e w1 ⟨⟨hno, hyes⟩, hb⟩
  have HB := Lib.hid hb
  have HC1 := Lib.hid (BlkIs.below HC.out hb)
  clear c1 HD hb
  cases hd : decN xs with
  | none =>
    rw [hno hd]
    have HDN := Lib.hid hd
    clear hno hyes hd
    go_wp2_with (refine wpList_store_part (o := ⟨none, _, _, _, _, _⟩) (by rfl) 57 (.tmp 14) (.tmp 11) rfl 66 c.x66 (prC c.f c.v c.bits c.s) (prC false (.slice none 0 0) (zs 32) (.slice none 0 0)) (bvs c.fin ++ [c.blank]) rfl rfl HC1.out (Ck.x66_length HO.out) (by rw [prC_length HO.out.bl, prC_length (zs_length 32)]) (by rw [size_pr, prC_length (zs_length 32)]) (prC_one rfl rfl) ?_; intro w2 h2 g2)
    go_ret
    exact ⟨((Touch.ofBelow HB.out).mono fun _ _ h => h.elim).trans (Touch.one g2), fun _ => ⟨rfl, h2⟩, fun p h => by rw [HDN.out] at h; cases h⟩
  | some p =>
    obtain ⟨V, S, rfl, hv, hs⟩ := hyes p hd
    have HDN := Lib.hid hd
    have HV := Lib.hid hv
    have HS := Lib.hid hs
    have hbl : p.bits.length = 32 := (decN_some HX.out.2.1 hd).1.bl
    have hv1 : V.oneCell' = true := row_oneCell hv.1
    have hs1 : S.oneCell' = true := row_oneCell hs
    have HGL : Hid (g < w.heap.size) := HC.out.lt
    clear hno hyes hd hv hs
    go_wp2_with (refine wpList_store_part (o := ⟨none, _, _, _, _, _⟩) (by rfl) 57 (.tmp 14) (.tmp 11) rfl 66 c.x66 (prC c.f c.v c.bits c.s) (prC p.found V p.bits S) (bvs c.fin ++ [c.blank]) rfl rfl HC1.out (Ck.x66_length HO.out) (by rw [prC_length HO.out.bl, prC_length hbl]) (by rw [size_pr, prC_length hbl]) (prC_one hv1 hs1) ?_; intro w2 h2 g2)
    go_ret
    refine ⟨((Touch.ofBelow HB.out).mono fun _ _ h => h.elim).trans (Touch.one g2), fun h => (by rw [HDN.out] at h; cases h), fun q h => ?_⟩
    rw [HDN.out] at h
    injection h with h
    subst h
    exact ⟨rfl, V, S, h2, (Touch.one g2).own HV.out fun B hB e => by have := (HV.out.lt B hB).1; have := HGL.out; omega, (Touch.one g2).row HS.out fun B hB e => by have := (row_lt HS.out hB).1; have := HGL.out; omega⟩
end Go.Proofs.YtfnlhfaihoojfaaDoor

/- client: sides. -/
namespace Go.Proofs.YtfnlhfaihoojfaaDoor
open Go.RowKit
theorem start5 {w : World} {a b c d f : Array Value} {ta tb tc td tf : TypeId} {G : World → Prop} (h : ∀ w', Hid (BlkIs w' w.heap.size ta a) → Hid (BlkIs w' (w.heap.size + 1) tb b) → Hid (BlkIs w' (w.heap.size + 1 + 1) tc c) → Hid (BlkIs w' (w.heap.size + 1 + 1 + 1) td d) → Hid (BlkIs w' (w.heap.size + 1 + 1 + 1 + 1) tf f) → Hid (Below w.heap.size w w') → Hid (w'.heap.size = w.heap.size + 1 + 1 + 1 + 1 + 1) → G w') :
    G (((((w.alloc (.cells a ta)).alloc (.cells b tb)).alloc (.cells c tc)).alloc (.cells d td)).alloc (.cells f tf)) := by
  refine start3 (G := fun w3 => G ((w3.alloc (.cells d td)).alloc (.cells f tf))) fun w3 h1 h2 h3 hb hs => ?_
  have e : w3.heap.size = w.heap.size + 1 + 1 + 1 := hs.out
  refine start2 (G := G) (w := w3) fun w5 h4 h5 hb2 hs2 => ?_
  have hb2' := hb2.out
  have h4' := h4.out
  have h5' := h5.out
  have hs2' := hs2.out
  rw [e] at h4' h5' hs2'
  exact h w5 (BlkIs.below h1.out hb2') (BlkIs.below h2.out hb2') (BlkIs.below h3.out hb2') h4' h5' (hb.out.trans (hb2'.mono (by omega))) hs2'
theorem blk_in {w : World} {g : Nat} {t : TypeId} {ys : List Nat} (h : BlkB w g t ys) : BlkIs w g t (([] : List Value) ++ (bvs ys ++ [])).toArray := by
  rw [List.nil_append, List.append_nil]
  exact h
theorem blk_out {w : World} {g : Nat} {t : TypeId} {ys : List Nat} (h : BlkIs w g t (([] : List Value) ++ (bvs ys ++ [])).toArray) : BlkB w g t ys := by
  rw [List.nil_append, List.append_nil] at h
  exact h
theorem range_grown {w w' : World} {g o : Nat} {cs : List Value} {r : Nat} (h : w.rangeAt g o cs) (hg : w.grownBy w' (some r)) (hn : g ≠ r) : w'.rangeAt g o cs := fun j v hj => by
  have h1 := h j v hj
  rw [World.cell?_of_block (w := w) (a := ⟨g, o + j, none⟩) (hg.block g (World.block_lt_of_cell? w ⟨g, o + j, none⟩ h1) fun e => by injection e with e; exact hn e)]
  exact h1
theorem results_cell2 {fn : Func} {p p' : Tmp} {ty ty' : TypeId} (h : fn.results = #[.cell p ty, .cell p' ty']) (tmps : Array Value) (P : Program) (w : World) :
    (results fn tmps).run P w = ((asAddr (tmps.getD p undef)).run P w).andThen fun a w1 => ((loadVar ty a).run P w1).andThen fun v w2 => ((asAddr (tmps.getD p' undef)).run P w2).andThen fun b w3 => ((loadVar ty' b).run P w3).andThen fun v' w4 => .ok (.tuple #[v, v']) w4 := by
  simp only [results, h]
  simp [Sem.run_bind, Result.andThen]
/-- The end of a call whose results are two digests in variables. -/
theorem dig2_ret {fn : Func} {p p' : Tmp} {R : Ending → World → Prop} {x : Act} {w : World} {g g' : Nat} {ys zs : List Nat} (h : fn.results = #[.cell p 29, .cell p' 29]) (hp : x.tmps.getD p undef = .pointer (some ⟨g, 0, none⟩)) (hp' : x.tmps.getD p' undef = .pointer (some ⟨g', 0, none⟩))
    (hb : BlkB w g 29 ys) (hb' : BlkB w g' 29 zs) (hl : ys.length = 32) (hl' : zs.length = 32) (hd : x.defers = []) (hR : R (.returned (.tuple #[.agg (bvs ys).toArray, .agg (bvs zs).toArray])) w) : bodyPost Tryd.prog fn R .ret x w := by
  refine bodyPost_ret (v := .tuple #[.agg (bvs ys).toArray, .agg (bvs zs).toArray]) ?_ hd hR
  rw [results_cell2 h, hp, hp']
  simp [asAddr, Result.andThen, load_arr w g 32 29 ys hb hl row_dig size_dig, load_arr w g' 32 29 zs hb' hl' row_dig size_dig]
set_option maxRecDepth 20000 in
set_option maxHeartbeats 1000000 in
theorem sides_any (ks ds ns : List Nat) (h : Nat) (w : World) (hk : IsB ks) (hkl : ks.length = 32) (hd : IsB ds) (hdl : ds.length = 32) (hn : IsB ns) (hnl : ns.length = 32) (hh : h < 256) :
    Calls Tryd.prog 56 #[.agg (bvs ks).toArray, .int .i64 h, .agg (bvs ds).toArray, .agg (bvs ns).toArray] w fun e w' => e = .returned (.tuple #[.agg (bvs (sidesN ks h ds ns).1).toArray, .agg (bvs (sidesN ks h ds ns).2).toArray]) ∧ Below w.heap.size w w' := by
  have HK := Lib.hid hk
  have HKL := Lib.hid hkl
  have HD := Lib.hid hd
  have HDL := Lib.hid hdl
  have HN := Lib.hid hn
  have HNL := Lib.hid hnl
  clear hk hkl hd hdl hn hnl
  go_enter Tryd.func56, Tryd.ntmps56
  go_wp2_with (with_reducible refine stopAt (o := ⟨some 10, _, _, _, _, _⟩) ?_)
  refine start5 (G := fun w2 => Hid (wpList _ _ _ _ _ w2)) fun w2 H1 H2 H3 H4 H5 HW HS => ?_
  have HK2 : Hid (BlkB w2 w.heap.size 31 ks) := H1
  have HD2 : Hid (BlkB w2 (w.heap.size + 1) 29 ds) := H2
  have HN2 : Hid (BlkB w2 (w.heap.size + 1 + 1) 29 ns) := H3
  have HL2 : Hid (BlkB w2 (w.heap.size + 1 + 1 + 1) 29 (zs 32)) := H4
  have HR2 : Hid (BlkB w2 (w.heap.size + 1 + 1 + 1 + 1) 29 (zs 32)) := H5
  clear H1 H2 H3 H4 H5
  refine Lib.hid ?_
  go_wp2_with (refine wpList_load_arr (o := ⟨some 10, _, _, _, _, _⟩) (by rfl) 31 (.tmp 4) rfl ⟨w.heap.size, 0, none⟩ 32 ks rfl (HK2.out.whole HK.out HKL.out) (by omega) (by kernel_rfl) (by kernel_rfl) ?_)
  have hi : ((255 : Int) - h) = ((255 - h : Nat) : Int) := by omega
  rw [hi]
  refine (bit_in ks (255 - h) w2 HK.out HKL.out (by omega)).mono ?_
  rintro e w3 ⟨rfl, hb3⟩
  have HB3 : Hid (Below w.heap.size w w3) := HW.out.trans (hb3.mono HW.out.size)
  have HD3 : Hid (BlkB w3 (w.heap.size + 1) 29 ds) := BlkIs.below HD2.out hb3
  have HN3 : Hid (BlkB w3 (w.heap.size + 1 + 1) 29 ns) := BlkIs.below HN2.out hb3
  have HL3 : Hid (BlkB w3 (w.heap.size + 1 + 1 + 1) 29 (zs 32)) := BlkIs.below HL2.out hb3
  have HR3 : Hid (BlkB w3 (w.heap.size + 1 + 1 + 1 + 1) 29 (zs 32)) := BlkIs.below HR2.out hb3
  have HS3 : Hid (w.heap.size + 1 + 1 + 1 + 1 + 1 ≤ w3.heap.size) := by have h1 := HS.out; have h2 := hb3.size; show _ ≤ _; omega
  have hu := und_dig
  have hszd : (Tryd.prog.info? 29).map (·.size) = some (bvs ds).length := by rw [size_dig]; simp [bvs, HDL.out]
  have hszn : (Tryd.prog.info? 29).map (·.size) = some (bvs ns).length := by rw [size_dig]; simp [bvs, HNL.out]
  clear hb3 hi HK2 HD2 HN2 HL2 HR2
  by_cases hb : bitK ks (255 - h) = 0
  · have HSN : Hid (sidesN ks h ds ns = (ds, ns)) := by
      show _ = _
      unfold sidesN
      rw [if_pos hb]
    have hb' : ((bitK ks (255 - h) : Nat) : Int) = 0 := by omega
    clear hb
    generalize bitK ks (255 - h) = q at *
    go_wp2_with fail
    rename_i KK hKK
    have HKK := Lib.hid hKK
    clear hKK
    refine wp_region_held_drew (S := fun w' => w'.rangeAt (w.heap.size + 1) 0 (bvs ds) ∧ w'.rangeAt (w.heap.size + 1 + 1) 0 (bvs ns)) (by kernel_rfl) ⟨BlkIs.range HD3.out, BlkIs.range HN3.out⟩ fun hH => ?_
    replace HL3 : Hid (BlkB w3.drew (w.heap.size + 1 + 1 + 1) 29 (zs 32)) := HL3.out
    replace HR3 : Hid (BlkB w3.drew (w.heap.size + 1 + 1 + 1 + 1) 29 (zs 32)) := HR3.out
    replace HB3 : Hid (Below w.heap.size w w3.drew) := drewN_below HB3.out 1
    replace HS3 : Hid (w.heap.size + 1 + 1 + 1 + 1 + 1 ≤ w3.drew.heap.size) := HS3.out
    have HHH := Lib.hid hH
    clear HD3 HN3
    generalize w3.drew = w3 at *
    refine wpAnyH_take (i := 0) (oi := ⟨some 15, _, _, _, _, _⟩) rfl (by kernel_rfl) (by kernel_rfl) (by kernel_rfl) (fun _ _ _ h => h) (yieldsIf_load_mid (by rfl) _ _ rfl _ _ rfl _ _ (fun w hw => by (try dsimp only at hw); go_split_ands; assumption) (by assumption) rfl (by assumption)) (by assumption) ?_
    try simp only [Act.put, List.setIfInBounds_toArray, List.set_cons_zero, List.set_cons_succ]
    refine wpAnyH_take (i := 1) (oi := ⟨some 16, _, _, _, _, _⟩) rfl (by kernel_rfl) (by kernel_rfl) (by kernel_rfl) (fun _ _ _ h => h) (yieldsIf_load_mid (by rfl) _ _ rfl _ _ rfl _ _ (fun w hw => by (try dsimp only at hw); go_split_ands; assumption) (by assumption) rfl (by assumption)) (by assumption) ?_
    try simp only [Act.put, List.setIfInBounds_toArray, List.set_cons_zero, List.set_cons_succ]
    clear hH
    refine wpAnyH_ready (rs := [2]) (by kernel_rfl) (by simp) ?_
    refine AllReadyH.cons (o := ⟨none, _, _, _, _, _⟩) rfl (fun K hK => ?_) AllReadyH.nil
    refine wpOp_store_part (o := ⟨none, _, _, _, _, _⟩) (by rfl) 29 (.tmp 8) (.tmp 15) rfl 0 [] (bvs (zs 32)) (bvs ds) [] rfl rfl (blk_in HL3.out) rfl (by simp [bvs, zs, HDL.out]) (by rw [size_dig]; simp [bvs, HDL.out]) (fun u hu => bvs_oneCell _ u hu) ?_
    intro w4 hb4 hg4
    have hH4 : w4.rangeAt (w.heap.size + 1) 0 (bvs ds) ∧ w4.rangeAt (w.heap.size + 1 + 1) 0 (bvs ns) := ⟨range_grown HHH.out.1 hg4 (by omega), range_grown HHH.out.2 hg4 (by omega)⟩
    refine hK.out _ _ hH4 (fun _ => ?_)
    clear hK
    refine wpAnyH_ready (rs := [3]) (by kernel_rfl) (by simp) ?_
    refine AllReadyH.cons (o := ⟨none, _, _, _, _, _⟩) rfl (fun K hK => ?_) AllReadyH.nil
    have h24 : BlkB w4 (w.heap.size + 1 + 1 + 1 + 1) 29 (zs 32) := (Touch.one hg4).blk HR3.out (by omega)
    refine wpOp_store_part (o := ⟨none, _, _, _, _, _⟩) (by rfl) 29 (.tmp 9) (.tmp 16) rfl 0 [] (bvs (zs 32)) (bvs ns) [] rfl rfl (blk_in h24) rfl (by simp [bvs, zs, HNL.out]) (by rw [size_dig]; simp [bvs, HNL.out]) (fun u hu => bvs_oneCell _ u hu) ?_
    intro w5 hb5 hg5
    refine hK.out _ _ ⟨range_grown hH4.1 hg5 (by omega), range_grown hH4.2 hg5 (by omega)⟩ (fun _ => ?_)
    clear hK
    refine wpAnyH_done (by kernel_rfl) ?_ _
    change KK _ _
    refine HKK.out _ _ ?_
    go_wp2_with fail
    have hb : Below w.heap.size w w5 := (HB3.out.grown hg4 HB3.out.size fun k hk => by injection hk with hk; omega).grown hg5 (Nat.le_trans HB3.out.size hg4.size) fun k hk => by injection hk with hk; omega
    refine dig2_ret rfl rfl rfl (g := w.heap.size + 1 + 1 + 1) (g' := w.heap.size + 1 + 1 + 1 + 1) (ys := ds) (zs := ns) ?_ ?_ HDL.out HNL.out rfl ⟨by rw [HSN.out], hb⟩
    · exact (Touch.one hg5).blk (blk_out hb4) (by omega)
    · exact blk_out hb5
  · have HSN : Hid (sidesN ks h ds ns = (ns, ds)) := by
      show _ = _
      unfold sidesN
      rw [if_neg hb]
    have hb' : ¬ ((bitK ks (255 - h) : Nat) : Int) = 0 := by omega
    clear hb
    generalize bitK ks (255 - h) = q at *
    go_wp2_with fail
    rename_i KK hKK
    have HKK := Lib.hid hKK
    clear hKK
    refine wp_region_held_drew (S := fun w' => w'.rangeAt (w.heap.size + 1 + 1) 0 (bvs ns) ∧ w'.rangeAt (w.heap.size + 1) 0 (bvs ds)) (by kernel_rfl) ⟨BlkIs.range HN3.out, BlkIs.range HD3.out⟩ fun hH => ?_
    replace HL3 : Hid (BlkB w3.drew (w.heap.size + 1 + 1 + 1) 29 (zs 32)) := HL3.out
    replace HR3 : Hid (BlkB w3.drew (w.heap.size + 1 + 1 + 1 + 1) 29 (zs 32)) := HR3.out
    replace HB3 : Hid (Below w.heap.size w w3.drew) := drewN_below HB3.out 1
    replace HS3 : Hid (w.heap.size + 1 + 1 + 1 + 1 + 1 ≤ w3.drew.heap.size) := HS3.out
    have HHH := Lib.hid hH
    clear HD3 HN3
    generalize w3.drew = w3 at *
    refine wpAnyH_take (i := 0) (oi := ⟨some 17, _, _, _, _, _⟩) rfl (by kernel_rfl) (by kernel_rfl) (by kernel_rfl) (fun _ _ _ h => h) (yieldsIf_load_mid (by rfl) _ _ rfl _ _ rfl _ _ (fun w hw => by (try dsimp only at hw); go_split_ands; assumption) (by assumption) rfl (by assumption)) (by assumption) ?_
    try simp only [Act.put, List.setIfInBounds_toArray, List.set_cons_zero, List.set_cons_succ]
    refine wpAnyH_take (i := 1) (oi := ⟨some 18, _, _, _, _, _⟩) rfl (by kernel_rfl) (by kernel_rfl) (by kernel_rfl) (fun _ _ _ h => h) (yieldsIf_load_mid (by rfl) _ _ rfl _ _ rfl _ _ (fun w hw => by (try dsimp only at hw); go_split_ands; assumption) (by assumption) rfl (by assumption)) (by assumption) ?_
    try simp only [Act.put, List.setIfInBounds_toArray, List.set_cons_zero, List.set_cons_succ]
    clear hH
    refine wpAnyH_ready (rs := [2]) (by kernel_rfl) (by simp) ?_
    refine AllReadyH.cons (o := ⟨none, _, _, _, _, _⟩) rfl (fun K hK => ?_) AllReadyH.nil
    refine wpOp_store_part (o := ⟨none, _, _, _, _, _⟩) (by rfl) 29 (.tmp 8) (.tmp 17) rfl 0 [] (bvs (zs 32)) (bvs ns) [] rfl rfl (blk_in HL3.out) rfl (by simp [bvs, zs, HNL.out]) (by rw [size_dig]; simp [bvs, HNL.out]) (fun u hu => bvs_oneCell _ u hu) ?_
    intro w4 hb4 hg4
    have hH4 : w4.rangeAt (w.heap.size + 1 + 1) 0 (bvs ns) ∧ w4.rangeAt (w.heap.size + 1) 0 (bvs ds) := ⟨range_grown HHH.out.1 hg4 (by omega), range_grown HHH.out.2 hg4 (by omega)⟩
    refine hK.out _ _ hH4 (fun _ => ?_)
    clear hK
    refine wpAnyH_ready (rs := [3]) (by kernel_rfl) (by simp) ?_
    refine AllReadyH.cons (o := ⟨none, _, _, _, _, _⟩) rfl (fun K hK => ?_) AllReadyH.nil
    have h24 : BlkB w4 (w.heap.size + 1 + 1 + 1 + 1) 29 (zs 32) := (Touch.one hg4).blk HR3.out (by omega)
    refine wpOp_store_part (o := ⟨none, _, _, _, _, _⟩) (by rfl) 29 (.tmp 9) (.tmp 18) rfl 0 [] (bvs (zs 32)) (bvs ds) [] rfl rfl (blk_in h24) rfl (by simp [bvs, zs, HDL.out]) (by rw [size_dig]; simp [bvs, HDL.out]) (fun u hu => bvs_oneCell _ u hu) ?_
    intro w5 hb5 hg5
    refine hK.out _ _ ⟨range_grown hH4.1 hg5 (by omega), range_grown hH4.2 hg5 (by omega)⟩ (fun _ => ?_)
    clear hK
    refine wpAnyH_done (by kernel_rfl) ?_ _
    change KK _ _
    refine HKK.out _ _ ?_
    go_wp2_with fail
    have hb : Below w.heap.size w w5 := (HB3.out.grown hg4 HB3.out.size fun k hk => by injection hk with hk; omega).grown hg5 (Nat.le_trans HB3.out.size hg4.size) fun k hk => by injection hk with hk; omega
    refine dig2_ret rfl rfl rfl (g := w.heap.size + 1 + 1 + 1) (g' := w.heap.size + 1 + 1 + 1 + 1) (ys := ns) (zs := ds) ?_ ?_ HNL.out HDL.out rfl ⟨by rw [HSN.out], hb⟩
    · exact (Touch.one hg5).blk (blk_out hb4) (by omega)
    · exact blk_out hb5
end Go.Proofs.YtfnlhfaihoojfaaDoor
