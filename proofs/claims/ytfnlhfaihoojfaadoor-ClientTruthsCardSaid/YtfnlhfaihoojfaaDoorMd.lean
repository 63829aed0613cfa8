/- Answer, Answer1, DecL, Bs1, HeldU (merged) -/
import Derived.Test.YtfnlhfaihoojfaaDoorMc
import Derived.Deep.RegionHeld3
import Derived.Deep.Draws
import Derived.Deep.QuietTactic
import Derived.BigQuiet
/- proof.reader's answer. -/
namespace Go.Proofs.YtfnlhfaihoojfaaDoor
open Go.RowKit
/-- A proof's cells. -/
def prC (f : Bool) (v : Value) (bits : List Nat) (s : Value) : List Value := .bool f :: v :: (bvs bits ++ [s])
abbrev PrIs (w : World) (g : Nat) (f : Bool) (v : Value) (bits : List Nat) (s : Value) : Prop := BlkIs w g 57 (prC f v bits s).toArray
abbrev UT2 (a b : Nat) (B : Nat) : Prop := B = a ∨ B = b
def Answered (gr gp : Nat) (xs : List Nat) (w : World) (e : Ending) (w' : World) : Prop :=
  Touch (UT2 gr gp) w w' ∧ (headN xs = none → e = .returned (.bool false)) ∧
  ∀ f v r, headN xs = some (f, v, r) → e = .returned (.bool true) ∧ ∃ V A' c', PrIs w' gp f V (zs 32) (.slice none 0 0) ∧ OwnU w' w.heap.size V v ∧ RdIs w' gr A' r.length c' false ∧ RB w' A' r.length r ∧ r.length ≤ c' ∧ c' ≤ maxLen ∧ (A' = none → c' = 0) ∧ (∀ ad, A' = some ad → ad.block ≠ gr ∧ ad.block ≠ gp ∧ ad.block < w.heap.size)
theorem headN_nil {xs : List Nat} (h : xs.length = 0) : headN xs = none := by unfold headN; rw [if_pos h]
theorem headN_zero {xs : List Nat} (h : xs.length ≠ 0) (h0 : xs.getD 0 0 = 0) : headN xs = some (false, [], xs.drop 1) := by unfold headN; rw [if_neg h, if_pos h0]
theorem headN_one {xs : List Nat} (h : xs.length ≠ 0) (h0 : xs.getD 0 0 = 1) : headN xs = if 3 ≤ xs.length ∧ numN (xs.drop 1) ≤ 128 ∧ 3 + numN (xs.drop 1) ≤ xs.length then some (true, (xs.drop 3).take (numN (xs.drop 1)), xs.drop (3 + numN (xs.drop 1))) else none := by
  unfold headN
  rw [if_neg h, if_neg (by omega), h0]
  have e : numN (xs.drop 1) = xs.getD 1 0 + 256 * xs.getD 2 0 := by
    unfold numN
    simp [List.getD]
  rw [e]
  simp
theorem headN_other {xs : List Nat} (h : xs.length ≠ 0) (h0 : xs.getD 0 0 ≠ 0) (h1 : xs.getD 0 0 ≠ 1) : headN xs = none := by
  unfold headN
  rw [if_neg h, if_neg h0, if_neg (fun x => h1 x.1)]
/-- No bytes at all. -/
theorem answer_nil (gr gp : Nat) (A : Option Addr) (n c : Nat) (xs : List Nat) (w : World) (hr : RdIs w gr A n c false) (hx : RB w A n xs) (h0 : xs.length = 0) :
    Calls Tryd.prog 77 #[.pointer (some ⟨gr, 0, none⟩), .pointer (some ⟨gp, 0, none⟩)] w (Answered gr gp xs w) := by
  have HT := Lib.hid (take_short gr A n c 1 false w hr (by have := hx.1; omega))
  have HN := Lib.hid (headN_nil h0)
  clear hr hx h0
  go_enter Tryd.func77, Tryd.ntmps77
  go_wp2_with fail
  refine HT.out.mono ?_
  rintro e w1 ⟨rfl, h1, h2⟩
  have H2 := Lib.hid h2
  clear h1 h2 HT
  have hny := nil_yes w1
  go_wp2_with fail
  go_ret
  exact ⟨(Touch.one H2.out).mono fun _ _ h => .inl h, fun _ => rfl, fun f v r h => by rw [HN.out] at h; cases h⟩
theorem touch_cell {w w' : World} {g : Nat} {ad : Addr} {v : Value} (h : w.grownBy w' (some g)) (hb : ad.block < w.heap.size) (hg : ad.block ≠ g) (hc : w.cell? ad = some v) : w'.cell? ad = some v := by
  rw [World.cell?_of_block (w := w) (a := ad) (h.block _ hb fun e => by injection e with e; exact hg e)]
  exact hc
set_option maxRecDepth 20000 in
set_option maxHeartbeats 800000 in
/-- The first byte is no 1. -/
theorem answer_tag (gr gp : Nat) (A : Option Addr) (n c : Nat) (xs : List Nat) (w : World) (hr : RdIs w gr A n c false) (hp : PrIs w gp false (.slice none 0 0) (zs 32) (.slice none 0 0)) (hne : gr ≠ gp) (hx : RB w A n xs) (hg : ∀ ad, A = some ad → ad.block ≠ gr ∧ ad.block ≠ gp) (hnc : n ≤ c) (hA : A = none → c = 0) (hc : c ≤ maxLen) (h0 : xs.length ≠ 0) (h1 : xs.getD 0 0 ≠ 1) :
    Calls Tryd.prog 77 #[.pointer (some ⟨gr, 0, none⟩), .pointer (some ⟨gp, 0, none⟩)] w (Answered gr gp xs w) := by
  have hl := hx.1
  have HT := Lib.hid (take_ok gr A n c 1 false w hr (by omega) hnc hA hc)
  obtain ⟨ad, rfl, hb, hc0⟩ := hx.at_ (show 0 < n by omega)
  rw [show ad.add 0 = ad by simp [Addr.add]] at hc0
  have HC := Lib.hid hc0
  have HB := Lib.hid hb
  have HG := Lib.hid (hg ad rfl)
  have HX := Lib.hid hx
  have HP := Lib.hid hp
  have HNC := Lib.hid hnc
  have HCM := Lib.hid hc
  have HL := Lib.hid hl
  have HZ : Hid (xs.getD 0 0 = 0 → headN xs = some (false, [], xs.drop 1)) := headN_zero h0
  have HO : Hid (xs.getD 0 0 ≠ 0 → headN xs = none) := fun h => headN_other h0 h h1
  have HH0 := Lib.hid h0
  have HNE := Lib.hid hne
  clear hr hp hne hx hg hnc hA hc hb hc0 hl h0
  generalize xs.getD 0 0 = x0 at *
  have hx1 : ¬ (x0 : Int) = 1 := by omega
  clear h1
  by_cases hx0 : x0 = 0
  · subst hx0
    clear hx1
    go_enter Tryd.func77, Tryd.ntmps77
    go_wp2_with fail
    refine HT.out.mono ?_
    rintro e w1 ⟨rfl, h1, h2⟩
    have H1 := Lib.hid h1
    have H2 := Lib.hid h2
    have c1 := touch_cell h2 HB.out HG.out.1 HC.out
    clear h1 h2 HT
    have hnn := nil_no ad 1 1 w1
    go_wp2_with fail
    go_ret
    refine ⟨(Touch.one H2.out).mono fun _ _ h => .inl h, fun h => ?_, fun f v r h => ?_⟩
    · rw [HZ.out trivial] at h
      cases h
    · rw [HZ.out trivial] at h
      injection h with h
      injection h with e1 h
      injection h with e2 e3
      subst e1 e2 e3
      obtain ⟨A', q1, q2, q3, q4⟩ := H1.out
      have hdl : (xs.drop 1).length = n - 1 := by rw [List.length_drop, HL.out]
      refine ⟨rfl, .slice none 0 0, A', c - 1, (Touch.one H2.out).blk HP.out (fun e => HNE.out e.symm), Own.nil _ _ _, by rw [hdl]; exact q1, ?_, by rw [hdl]; have := HNC.out; omega, Nat.le_trans (Nat.sub_le _ _) HCM.out, q3, fun ad' e => ?_⟩
      · rw [hdl]
        have hX1 := HX.out.drop (k := 1) (B := A') (by have := HH0.out; have := HL.out; omega) q2
        exact (Touch.one H2.out).rb hX1 fun ad' e e2 => by
          obtain ⟨ad2, r1, r2⟩ := q4 ad' e
          injection r1 with r1
          subst r1
          exact HG.out.1 (r2.symm.trans e2)
      · obtain ⟨ad2, r1, r2⟩ := q4 ad' e
        injection r1 with r1
        subst r1
        rw [r2]
        exact ⟨HG.out.1, HG.out.2, HB.out⟩
  · have hx2 : ¬ (x0 : Int) = 0 := by omega
    have HNX := HO.out hx0
    have HNX2 := Lib.hid HNX
    clear HNX hx0
    go_enter Tryd.func77, Tryd.ntmps77
    go_wp2_with fail
    refine HT.out.mono ?_
    rintro e w1 ⟨rfl, h1, h2⟩
    have H2 := Lib.hid h2
    have c1 := touch_cell h2 HB.out HG.out.1 HC.out
    clear h1 h2 HT
    have hnn := nil_no ad 1 1 w1
    go_wp2_with fail
    go_ret
    exact ⟨(Touch.one H2.out).mono fun _ _ h => .inl h, fun _ => rfl, fun f v r h => by rw [HNX2.out] at h; cases h⟩
end Go.Proofs.YtfnlhfaihoojfaaDoor

/- proof.reader's answer, where the first byte is 1. -/
namespace Go.Proofs.YtfnlhfaihoojfaaDoor
open Go.RowKit
theorem pr_cells {w : World} {g : Nat} {f : Bool} {v s : Value} {bits : List Nat} (h : PrIs w g f v bits s) : w.cell? ⟨g, 0, none⟩ = some (.bool f) ∧ w.cell? ⟨g, 1, none⟩ = some v ∧ w.frozen? ⟨g, 0, none⟩ = false ∧ w.frozen? ⟨g, 1, none⟩ = false := ⟨h.cell 0, h.cell 1, h.frozen 0, h.frozen 1⟩
theorem PrIs.found {w : World} {g : Nat} {f : Bool} {v s : Value} {bits : List Nat} (h : PrIs w g f v bits s) (f' : Bool) : PrIs (w.setCell ⟨g, 0, none⟩ (.bool f')) g f' v bits s := by
  have h1 := BlkIs.stored h 0 (.bool f')
  have e : (prC f v bits s).toArray.setIfInBounds 0 (.bool f') = (prC f' v bits s).toArray := by simp [prC]
  rw [e] at h1
  exact h1
theorem PrIs.val {w : World} {g : Nat} {f : Bool} {v s : Value} {bits : List Nat} (h : PrIs w g f v bits s) (v' : Value) : PrIs (w.setCell ⟨g, 1, none⟩ v') g f v' bits s := by
  have h1 := BlkIs.stored h 1 v'
  have e : (prC f v bits s).toArray.setIfInBounds 1 v' = (prC f v' bits s).toArray := by simp [prC]
  rw [e] at h1
  exact h1
/-- What stands behind the first k bytes. -/
structure Mid (U : Nat → Prop) (gr : Nat) (ad : Addr) (n c k : Nat) (w0 w : World) : Prop where
  rd : ∃ A', RdIs w gr A' (n - k) (c - k) false ∧ (k < n → A' = some (ad.add k)) ∧ (A' = none → c - k = 0) ∧ ∀ ad', A' = some ad' → ad'.block = ad.block
  touch : Touch U w0 w
theorem Mid.of {U : Nat → Prop} {gr n c k j : Nat} {ad : Addr} {w0 w w' : World} {A : Option Addr} (ht : Touch U w0 w) (hU : U gr) (hA : j < n → A = some (ad.add j)) (hb : ∀ ad', A = some ad' → ad'.block = ad.block) (hg : w.grownBy w' (some gr))
    (h : ∃ A', RdIs w' gr A' (n - j - k) (c - j - k) false ∧ (k < n - j → A' = A.map (·.add k)) ∧ (A' = none → c - j - k = 0) ∧ ∀ ad', A' = some ad' → ∃ ad, A = some ad ∧ ad'.block = ad.block) : Mid U gr ad n c (j + k) w0 w' := by
  obtain ⟨A', h1, h2, h3, h4⟩ := h
  refine ⟨⟨A', by rwa [Nat.sub_sub, Nat.sub_sub] at h1, fun hk => ?_, fun e => by have := h3 e; omega, fun ad' e => ?_⟩, ht.trans ((Touch.one hg).mono fun _ _ h => by rw [h]; exact hU)⟩
  · rw [h2 (by omega), hA (by omega)]
    show some ((ad.add j).add k) = _
    rw [add_add]
  · obtain ⟨ad2, e1, e2⟩ := h4 ad' e
    rw [e2, hb ad2 e1]
section
variable {U : Nat → Prop} {gr gp n c k : Nat} {ad : Addr} {xs : List Nat} {w0 w w' : World}
theorem Mid.rb (h : Mid U gr ad n c k w0 w) (hx : RB w0 (some ad) n xs) (hg : ¬ U ad.block) (hk : k ≤ n) : ∃ A', RdIs w gr A' (n - k) (c - k) false ∧ RB w A' (n - k) (xs.drop k) ∧ (k < n → A' = some (ad.add k)) ∧ (A' = none → c - k = 0) ∧ ∀ ad', A' = some ad' → ad'.block = ad.block := by
  obtain ⟨A', h1, h2, h3, h4⟩ := h.rd
  refine ⟨A', h1, ?_, h2, h3, h4⟩
  exact (h.touch.rb hx fun ad' e => by
    injection e with e
    subst e
    exact hg).drop hk fun hk => by rw [h2 hk]; rfl
theorem Mid.next (h : Mid U gr ad n c k w0 w) {V : Nat → Prop} (ht : Touch V w w') (hr : ¬ V gr) (hUV : ∀ B, V B → U B) : Mid U gr ad n c k w0 w' := by
  obtain ⟨A', h1, h2, h3, h4⟩ := h.rd
  exact ⟨⟨A', ht.blk h1 hr, h2, h3, h4⟩, h.touch.trans (ht.mono fun B _ hB => hUV B hB)⟩
theorem Mid.wide (h : Mid U gr ad n c k w0 w) {V : Nat → Prop} (hUV : ∀ B, U B → V B) : Mid V gr ad n c k w0 w := ⟨h.rd, h.touch.mono fun B _ hB => hUV B hB⟩
end
set_option maxRecDepth 20000 in
set_option maxHeartbeats 1600000 in
theorem answer_one (gr gp : Nat) (A : Option Addr) (n c : Nat) (xs : List Nat) (w : World) (hr : RdIs w gr A n c false) (hp : PrIs w gp false (.slice none 0 0) (zs 32) (.slice none 0 0)) (hne : gr ≠ gp) (hx : RB w A n xs) (hg : ∀ ad, A = some ad → ad.block ≠ gr ∧ ad.block ≠ gp) (hnc : n ≤ c) (hA : A = none → c = 0) (hc : c ≤ maxLen) (h0 : xs.length ≠ 0) (h1 : xs.getD 0 0 = 1) :
    Calls Tryd.prog 77 #[.pointer (some ⟨gr, 0, none⟩), .pointer (some ⟨gp, 0, none⟩)] w (Answered gr gp xs w) := by
  have hl := hx.1
  have HT := Lib.hid (take_ok gr A n c 1 false w hr (by omega) hnc hA hc)
  obtain ⟨ad, rfl, hb, hc0⟩ := hx.at_ (show 0 < n by omega)
  rw [show ad.add 0 = ad by simp [Addr.add], h1] at hc0
  have HC := Lib.hid hc0
  have HB := Lib.hid hb
  have HG := Lib.hid (hg ad rfl)
  have HX := Lib.hid hx
  have HP := Lib.hid hp
  have HNC := Lib.hid hnc
  have HL := Lib.hid hl
  have HCM := Lib.hid hc
  have HN := Lib.hid (headN_one h0 h1)
  have HH0 : Hid (0 < n) := (by omega : 0 < n)
  have HNE := Lib.hid hne
  have HAD := Lib.hid hA
  clear hr hp hne hx hg hnc hA hc hb hc0 hl h0 h1
  have HM0 : Hid (∀ w1, w.grownBy w1 (some gr) → (∃ A', RdIs w1 gr A' (n - 1) (c - 1) false ∧ (1 < n → A' = (some ad : Option Addr).map (·.add 1)) ∧ (A' = none → c - 1 = 0) ∧ ∀ ad', A' = some ad' → ∃ ad2, some ad = some ad2 ∧ ad'.block = ad2.block) → Mid (fun B => B = gr) gr ad n c 1 w w1) := fun w1 h2 h => by
    have := Mid.of (U := fun B => B = gr) (gr := gr) (n := n) (c := c) (k := 1) (j := 0) (ad := ad) (w0 := w) (w := w) (w' := w1) (A := some ad) (Touch.refl _ _) rfl (fun _ => by simp [Addr.add]) (fun ad' e => by injection e with e; rw [e]) h2 h
    exact this
  go_enter Tryd.func77, Tryd.ntmps77
  go_wp2_with fail
  refine HT.out.mono ?_
  rintro e w1 ⟨rfl, h1, h2⟩
  have M1 := Lib.hid (HM0.out w1 h2 h1)
  have c1 := touch_cell h2 HB.out HG.out.1 HC.out
  clear h1 h2 HT HM0 HC
  have hnn := nil_no ad 1 1 w1
  go_wp2_with fail
  clear hnn c1
  obtain ⟨A1, r1, x1, a1, nil1, blk1⟩ := M1.out.rb HX.out HG.out.1 HH0.out
  by_cases h3 : 3 ≤ n
  · refine (number_ok gr A1 (n - 1) (c - 1) (xs.drop 1) false w1 r1 x1 (fun ad' e => by rw [blk1 ad' e]; exact HG.out.1) (by omega) (by have := HNC.out; omega) nil1 (by have := HCM.out; omega)).mono ?_
    rintro e w2 ⟨rfl, h1, h2⟩
    have M2 : Hid (Mid (fun B => B = gr) gr ad n c 3 w w2) := Mid.of (j := 1) (k := 2) M1.out.touch rfl a1 blk1 h2 h1
    clear h1 h2 r1 x1 a1 nil1 blk1 M1
    have HP2 := Lib.hid (M2.out.touch.blk HP.out fun e => HNE.out e.symm)
    generalize numN (xs.drop 1) = q at *
    by_cases hq : (128 : Int) < q
    · have HNO : Hid (headN xs = none) := by
        show headN xs = none
        rw [HN.out, if_neg (by have := HL.out; omega)]
      go_wp2_with fail
      go_ret
      exact ⟨M2.out.touch.mono fun _ _ h => .inl h, fun _ => rfl, fun f v r h => by rw [HNO.out] at h; cases h⟩
    · obtain ⟨p0, p1, pf0, pf1⟩ := pr_cells HP2.out
      have HP3 : Hid (PrIs (w2.setCell ⟨gp, 0, none⟩ (.bool true)) gp true (.slice none 0 0) (zs 32) (.slice none 0 0)) := PrIs.found HP2.out true
      have M3 : Hid (Mid (UT2 gr gp) gr ad n c 3 w (w2.setCell ⟨gp, 0, none⟩ (.bool true))) := (M2.out.wide fun _ h => .inl h).next (V := fun B => B = gp) (Touch.one (grown_setCell _ _ _)) HNE.out fun _ h => .inr h
      have hq2 : (q : Int) ≤ 128 := by omega
      go_wp2_with fail
      clear p0 p1 pf0 pf1 HP2 M2
      generalize w2.setCell ⟨gp, 0, none⟩ (.bool true) = w3 at *
      obtain ⟨A3, r3, x3, a3, nil3, blk3⟩ := M3.out.rb HX.out (fun h => h.elim HG.out.1 HG.out.2) h3
      by_cases hcut : n - 3 < q
      · refine (take_short gr A3 (n - 3) (c - 3) q false w3 r3 hcut).mono ?_
        rintro e w4 ⟨rfl, h1, h2⟩
        have HP4 := Lib.hid ((Touch.one h2).blk HP3.out fun e => HNE.out e.symm)
        have HR4 := Lib.hid h1
        have HT4 := Lib.hid (M3.out.touch.trans ((Touch.one h2).mono fun _ _ h => Or.inl h))
        have HNO : Hid (headN xs = none) := by
          show headN xs = none
          rw [HN.out, if_neg (by have := HL.out; omega)]
        clear h1 h2 r3 x3 a3 nil3 blk3 M3
        have pc := pr_cells HP4.out
        have hd := (rd_cells (BlkIs.far HR4.out (p := ⟨gp, 1, none⟩) HNE.out (.slice none 0 0))).2.1
        go_wp2_with fail
        go_ret
        exact ⟨HT4.out.trans ((Touch.one (grown_setCell _ _ _)).mono fun _ _ h => Or.inr h), fun _ => rfl, fun f v r h => by rw [HNO.out] at h; cases h⟩
      · refine (take_ok gr A3 (n - 3) (c - 3) q false w3 r3 (by omega) (by have := HNC.out; omega) nil3 (by have := HCM.out; omega)).mono ?_
        rintro e w4 ⟨rfl, h1, h2⟩
        have HP4 := Lib.hid ((Touch.one h2).blk HP3.out fun e => HNE.out e.symm)
        have M4 : Hid (Mid (UT2 gr gp) gr ad n c (3 + q) w w4) := Mid.of (j := 3) (k := q) M3.out.touch (.inl rfl) a3 blk3 h2 h1
        have HX4 : Hid (RB w4 A3 q ((xs.drop 3).take q)) := ((Touch.one h2).rb x3 fun ad' e e2 => HG.out.1 ((blk3 ad' e).symm.trans e2)).take (by omega)
        have HA3 : Hid (A3 = none → q = 0) := fun e => by have := nil3 e; have := HNC.out; omega
        have HYS : Hid (headN xs = some (true, (xs.drop 3).take q, xs.drop (3 + q))) := by
          show headN xs = _
          rw [HN.out, if_pos (by have := HL.out; omega)]
        have HWS : Hid (w.heap.size ≤ w4.heap.size) := M4.out.touch.size
        have HPL : Hid (gp < w4.heap.size) := HP4.out.lt
        obtain ⟨A4, hr4, _⟩ := M4.out.rd
        have HR4 := Lib.hid hr4
        clear h1 h2 r3 x3 a3 nil3 blk3 M3 hr4
        generalize (xs.drop 3).take q = vs at *
        go_wp2_with (at_builtin; refine appendRB (o := ⟨some 33, _, _, _, _, _⟩) und_bytes info_byte w4 rfl (.const (.slice none 0 0)) (.tmp 32) rfl w4.heap.size _ [] (Own.nil _ _ _) A3 q q vs HX4.out HA3.out rfl rfl (by simp; omega) (Nat.le_refl _) ?_; intro v5 w5 ho hg5; replace ho : OwnU w5 w4.heap.size v5 vs := ho; obtain ⟨A5, c5, rfl, _⟩ := ho.form; have HO5 := Lib.hid ho; have HB5 : Hid (Below w4.heap.size w4 w5) := ⟨hg5.os, hg5.tape, hg5.output, hg5.size, fun k hk => hg5.block k hk (by simp [Value.ownBlock])⟩; have HP5 := Lib.hid (BlkIs.below HP4.out HB5.out); have HR5 := Lib.hid (BlkIs.below HR4.out HB5.out); have pc := pr_cells HP5.out; have hd := (rd_cells (BlkIs.far HR5.out (p := ⟨gp, 1, none⟩) HNE.out (.slice A5 vs.length c5))).2.1; clear ho hg5)
        go_ret
        have M6 := (M4.out.next (V := fun _ => False) (Touch.ofBelow HB5.out) (fun h => h) (fun _ h => h.elim)).next (V := fun B => B = gp) (Touch.one (grown_setCell w5 1 (.slice A5 vs.length c5))) HNE.out fun _ h => .inr h
        refine ⟨M6.touch, fun h => (by rw [HYS.out] at h; cases h), fun f v r h => ?_⟩
        rw [HYS.out] at h
        injection h with h
        injection h with e1 h
        injection h with e2 e3
        subst e1 e2 e3
        obtain ⟨A6, r6, x6, a6, n6, b6⟩ := M6.rb HX.out (fun h => h.elim HG.out.1 HG.out.2) (by omega)
        have hdl : (xs.drop (3 + q)).length = n - (3 + q) := by rw [List.length_drop, HL.out]
        refine ⟨rfl, _, A6, c - (3 + q), PrIs.val HP5.out _, (Touch.one (grown_setCell w5 1 _)).own (HO5.out.mono HWS.out) fun B hB e => by have := (HO5.out.lt B hB).1; have := HPL.out; omega, by rw [hdl]; exact r6, by rw [hdl]; exact x6, by rw [hdl]; have := HNC.out; omega, Nat.le_trans (Nat.sub_le _ _) HCM.out, n6, fun ad' e => ?_⟩
        rw [b6 ad' e]
        exact ⟨HG.out.1, HG.out.2, HB.out⟩
  · refine (number_short gr A1 (n - 1) (c - 1) false w1 r1 (by omega)).mono ?_
    rintro e w2 ⟨rfl, h1, h2⟩
    have HNO : Hid (headN xs = none) := by
      show headN xs = none
      rw [HN.out, if_neg (by have := HL.out; omega)]
    have M2 := Lib.hid (M1.out.touch.trans (Touch.one h2))
    have HR2 := Lib.hid h1
    have HP2 := Lib.hid (M2.out.blk HP.out fun e => HNE.out e.symm)
    obtain ⟨p0, p1, pf0, pf1⟩ := pr_cells HP2.out
    have HP3 : Hid (PrIs (w2.setCell ⟨gp, 0, none⟩ (.bool true)) gp true (.slice none 0 0) (zs 32) (.slice none 0 0)) := PrIs.found HP2.out true
    have HR3 : Hid (RdIs (w2.setCell ⟨gp, 0, none⟩ (.bool true)) gr none 0 0 true) := BlkIs.far HR2.out HNE.out _
    have M3 : Hid (Touch (UT2 gr gp) w (w2.setCell ⟨gp, 0, none⟩ (.bool true))) := (M2.out.mono fun _ _ h => Or.inl h).trans ((Touch.one (grown_setCell _ _ _)).mono fun _ _ h => Or.inr h)
    clear h1 h2 r1 x1 a1 nil1 blk1 M1
    go_wp2_with fail
    clear p0 p1 pf0 pf1 HP2 HR2 M2
    generalize w2.setCell ⟨gp, 0, none⟩ (.bool true) = w3 at *
    refine (take_ok gr none 0 0 0 true w3 HR3.out (Nat.le_refl _) (Nat.le_refl _) (fun _ => rfl) (Nat.zero_le _)).mono ?_
    rintro e w4 ⟨rfl, ⟨A4, h1, _, h5, _⟩, h2⟩
    have HP4 := Lib.hid ((Touch.one h2).blk HP3.out fun e => HNE.out e.symm)
    have HR4 := Lib.hid h1
    have HT4 := Lib.hid (M3.out.trans ((Touch.one h2).mono fun _ _ h => Or.inl h))
    clear h1 h2 h5
    have pc := pr_cells HP4.out
    have hd := (rd_cells (BlkIs.far HR4.out (p := ⟨gp, 1, none⟩) HNE.out (.slice none 0 0))).2.1
    go_wp2_with fail
    go_ret
    exact ⟨HT4.out.trans ((Touch.one (grown_setCell _ _ _)).mono fun _ _ h => Or.inr h), fun _ => rfl, fun f v r h => by rw [HNO.out] at h; cases h⟩
end Go.Proofs.YtfnlhfaihoojfaaDoor

/- Laws for proof.Decode: a proof as one value, lists of digests. -/
namespace Go.Proofs.YtfnlhfaihoojfaaDoor
open Go.RowKit
theorem answer_any (gr gp : Nat) (A : Option Addr) (n c : Nat) (xs : List Nat) (w : World) (hr : RdIs w gr A n c false) (hp : PrIs w gp false (.slice none 0 0) (zs 32) (.slice none 0 0)) (hne : gr ≠ gp) (hx : RB w A n xs) (hg : ∀ ad, A = some ad → ad.block ≠ gr ∧ ad.block ≠ gp) (hnc : n ≤ c) (hA : A = none → c = 0) (hc : c ≤ maxLen) :
    Calls Tryd.prog 77 #[.pointer (some ⟨gr, 0, none⟩), .pointer (some ⟨gp, 0, none⟩)] w (Answered gr gp xs w) := by
  by_cases h0 : xs.length = 0
  · exact answer_nil gr gp A n c xs w hr hx h0
  · by_cases h1 : xs.getD 0 0 = 1
    · exact answer_one gr gp A n c xs w hr hp hne hx hg hnc hA hc h0 h1
    · exact answer_tag gr gp A n c xs w hr hp hne hx hg hnc hA hc h0 h1
section
variable {P : Program}
/-- 'copy' as one step of a region that draws its order. -/
theorem stepCopy {ops : Array Oper} {Q : Exit → Act → World → Prop} {K : Act → World → Prop} {E : Prop} {o : Oper} {a : Act} {w : World} (hgd : o.guard = none) (d s : Operand) (dT sT : TypeId)
    (ho : o.op = .call { callee := .builtin .copy, args := #[d, s], argTypes := #[dT, sT] }) (elem : TypeId) (hu : P.underlying dT = some (.slice elem)) (hsz : (P.info? elem).map (·.size) = some 1)
    (sp : Option Addr) (g off dLen dCap sLen sCap : Nat) (hd : a.eval d = .slice (some ⟨g, off, none⟩) dLen dCap) (hs : a.eval s = .slice sp sLen sCap)
    (L : List Value) (t : TypeId) (hL : BlkIs w g t L.toArray) (xs : List Nat) (hx : RB w sp sLen xs) (hle : sLen ≤ dLen) (hfit : off + sLen ≤ L.length)
    (h : ∀ w', BlkIs w' g t (splice L off (bvs xs)).toArray → w.grownBy w' (some g) → K (a.put o.dst (goInt sLen)) w') :
    if Region.wanted o (yielded ops a.tmps) = true then Oper.wp P o a w K Q else E := by
  have hw : Region.wanted o (yielded ops a.tmps) = true := by simp [Region.wanted, hgd]
  rw [if_pos hw]
  have hl : (bvs xs).length = sLen := by simp [bvs, hx.1]
  by_cases h0 : sLen = 0
  · obtain rfl : xs = [] := List.eq_nil_of_length_eq_zero (by have := hx.1; omega)
    subst h0
    have hrun := run_copy_none (P := P) w dT sT o.type elem (some ⟨g, off, none⟩) sp dLen dCap 0 sCap hu hsz (by simp)
    unfold Oper.wp
    simp [execOp, ho, resolve, invoke, builtin, hd, hs, hrun, Result.andThen]
    exact h w (by simpa [splice, bvs] using hL) (World.grownBy.refl w _)
  · obtain ⟨ad, rfl, _, hc⟩ := hx.2.2 (by omega)
    have hrun := run_copy_row (P := P) w dT sT o.type elem g off dLen dCap ad sLen sCap L.toArray t (bvs xs) hu hsz hL (by rw [hl]; exact (Nat.min_eq_left hle).symm) (fun j v hj => by
      simp only [bvs, List.getElem?_map, Option.map_eq_some_iff] at hj
      obtain ⟨y, hy, rfl⟩ := hj
      exact hc j y hy) (by rw [hl]; simpa using hfit) (bvs_oneCell xs)
    rw [hl] at hrun
    unfold Oper.wp
    simp [execOp, ho, resolve, invoke, builtin, hd, hs, hrun, Result.andThen]
    exact h _ (show _ = _ by
      have := setRow_heap w g L.toArray (L.take off ++ (bvs xs ++ L.drop (off + sLen))).toArray t (0, 0) hL
      simpa [splice, hl] using this) (grown_setRow _)
/-- 'l = append(l, d)' of a list of digests. -/
theorem append32_run {t e : TypeId} {z : Value} {by_ : Nat} (ht : P.underlying t = some (.slice e)) (hinfo : (P.info? e).map (fun i => (i.zero, i.size, i.bytes)) = some (some z, 32, by_)) (hzs : z.cells.size = 32)
    {o : Oper} {a : Act} (w : World) (s x : Operand) (ho : o.op = .call { callee := .builtin .append, args := #[s, x], argTypes := #[t, t] })
    (base : Nat) (v : Value) (n : Nat) (xs : List Value) (hown : w.ownsRow base e 32 v n xs) (cs : List Value) (hcl : cs.length = 32) (hone : ∀ u ∈ cs, u.oneCell' = true) (hs : a.eval s = v) (hx : a.eval x = .slice (some ⟨w.heap.size, 0, none⟩) 1 1)
    (hlen : (n + 1) * by_ ≤ 140737488355328) (hm : n + 1 ≤ 140737488355328) (hbase : base ≤ w.heap.size) :
    ∃ v' w', (execOp a.eval o).run P (w.alloc (.cells cs.toArray e)) = .ok (.value v') w' ∧ w'.ownsRow base e 32 v' (n + 1) (xs ++ cs) ∧ w.grownBy w' v.ownBlock ∧ Lies w v v' := by
  obtain ⟨i, hi, hz, hs1, hby⟩ := info_parts hinfo
  obtain ⟨v', w', hr, h1, h2, _, h4⟩ := run_append_own_at (P := P) (w.alloc (.cells cs.toArray e)) base t o.type e i z 32 by_ ht hi hz hs1 hby hzs (by decide) v n xs (hown.alloc _)
    ⟨w.heap.size, 0, none⟩ 1 1 cs (by omega) (fun j u hj => by
      rw [add_lit, cell_of_row _ _ _ _ _ _ (heap_alloc_new w _), Nat.zero_add, List.getElem?_toArray]
      exact hj) hone (by unfold maxLen; omega) hlen (by simp; omega)
  refine ⟨v', w', ?_, h1, grown_trans (World.grownBy_alloc _ _ _) h2, ?_⟩
  · unfold execOp
    simp only [ho, resolve, invoke, builtin, Sem.run_bind, Sem.run_pure, Result.andThen_ok, List.map_toArray, List.map_cons, List.map_nil, hs, hx, hr]
  · intro k hk
    rcases h4 with h4 | h4
    · rw [h4] at hk
      exact .inl hk
    · rw [h4] at hk
      injection hk with hk
      simp at hk
      exact .inr (by omega)
theorem wpOp_append32 {t e : TypeId} {z : Value} {by_ : Nat} (ht : P.underlying t = some (.slice e)) (hinfo : (P.info? e).map (fun i => (i.zero, i.size, i.bytes)) = some (some z, 32, by_)) (hzs : z.cells.size = 32)
    {ops : Array Oper} {Q : Exit → Act → World → Prop} {K : Act → World → Prop} {o : Oper} {a : Act} (hw : Region.wanted o (yielded ops a.tmps) = true) (w : World) (s x : Operand) (ho : o.op = .call { callee := .builtin .append, args := #[s, x], argTypes := #[t, t] })
    (base : Nat) (v : Value) (n : Nat) (xs : List Value) (hown : w.ownsRow base e 32 v n xs) (cs : List Value) (hcl : cs.length = 32) (hone : ∀ u ∈ cs, u.oneCell' = true) (hs : a.eval s = v) (hx : a.eval x = .slice (some ⟨w.heap.size, 0, none⟩) 1 1)
    (hlen : (n + 1) * by_ ≤ 140737488355328) (hm : n + 1 ≤ 140737488355328) (hbase : base ≤ w.heap.size)
    (h : ∀ v' w', w'.ownsRow base e 32 v' (n + 1) (xs ++ cs) → w.grownBy w' v.ownBlock → Lies w v v' → K (a.put o.dst v') w') :
    if Region.wanted o (yielded ops a.tmps) = true then o.wp P a (w.alloc (.cells cs.toArray e)) K Q else K (a.put o.dst undef) (w.alloc (.cells cs.toArray e)) := by
  obtain ⟨v', w', hr, h1, h2, h3⟩ := append32_run ht hinfo hzs w s x ho base v n xs hown cs hcl hone hs hx hlen hm hbase
  rw [if_pos hw]
  unfold Oper.wp
  rw [hr]
  exact h v' w' h1 h2 h3
end
theorem info_pr : (Tryd.prog.info? 57).map (fun i => (i.zero, i.size)) = some (some (.agg (prC false (.slice none 0 0) (zs 32) (.slice none 0 0)).toArray), 35) := by kernel_rfl
theorem row_pr : (Tryd.prog.underlying 57).map (·.isRow) = some true := by kernel_rfl
theorem size_pr : (Tryd.prog.info? 57).map (·.size) = some 35 := (zero_of_info info_pr).2
theorem prC_length {f : Bool} {v s : Value} {bits : List Nat} (h : bits.length = 32) : (prC f v bits s).length = 35 := by simp [prC, bvs, h]
theorem prC_one {f : Bool} {v s : Value} {bits : List Nat} (hv : v.oneCell' = true) (hs : s.oneCell' = true) : ∀ u ∈ prC f v bits s, u.oneCell' = true := fun u hu => by
  simp only [prC, List.mem_cons, List.mem_append, List.not_mem_nil, or_false] at hu
  rcases hu with rfl | rfl | hu | rfl
  · rfl
  · exact hv
  · exact bvs_oneCell bits u hu
  · exact hs
end Go.Proofs.YtfnlhfaihoojfaaDoor

/- A list of one struct or array, built. No program is named here. -/
namespace Go.Proofs.YtfnlhfaihoojfaaDoor
open Go.RowKit
section
variable {P : Program}
theorem fold_at (off : Nat) : ∀ (xs : List Value) (k : Nat) (c : Array Value) (j : Nat), off + k + xs.length ≤ c.size →
    ((xs.zipIdx k).foldl (fun (cs : Array Value) (p : Value × Nat) => cs.setIfInBounds (off + p.2) p.1) c)[j]? = if off + k ≤ j ∧ j < off + k + xs.length then xs[j - (off + k)]? else c[j]?
  | [], k, c, j, _ => by
    rw [if_neg (by simp)]
    rfl
  | x :: xs, k, c, j, h => by
    rw [List.zipIdx_cons, List.foldl_cons, fold_at off xs (k + 1) _ j (by simp at h ⊢; omega)]
    simp only [List.length_cons] at h ⊢
    by_cases h1 : off + (k + 1) ≤ j ∧ j < off + (k + 1) + xs.length
    · rw [if_pos h1, if_pos (by omega), show j - (off + k) = (j - (off + (k + 1))) + 1 by omega, List.getElem?_cons_succ]
    · rw [if_neg h1]
      by_cases h2 : j = off + k
      · subst h2
        rw [if_pos (by omega), Nat.sub_self, List.getElem?_cons_zero, Array.getElem?_setIfInBounds_self_of_lt (by omega)]
      · rw [if_neg (by omega), Array.getElem?_setIfInBounds_ne (by omega)]
theorem fold_arr (off : Nat) (v c : Array Value) (h : off + v.size ≤ c.size) (j : Nat) : (v.zipIdx.foldl (fun (cs : Array Value) (p : Value × Nat) => cs.setIfInBounds (off + p.2) p.1) c)[j]? = if off ≤ j ∧ j < off + v.size then v[j - off]? else c[j]? := by
  have := fold_at off v.toList 0 c j (by simpa using h)
  rw [Nat.add_zero] at this
  rw [← Array.foldl_toList, Array.toList_zipIdx, this]
  simp
theorem fold_size (off : Nat) : ∀ (xs : List (Value × Nat)) (c : Array Value), (xs.foldl (fun (cs : Array Value) (p : Value × Nat) => cs.setIfInBounds (off + p.2) p.1) c).size = c.size
  | [], c => rfl
  | x :: xs, c => by
    rw [List.foldl_cons, fold_size off xs]
    simp
theorem fold_whole (v c : Array Value) (h : v.size = c.size) : v.zipIdx.foldl (fun (cs : Array Value) (p : Value × Nat) => cs.setIfInBounds (0 + p.2) p.1) c = v := by
  apply Array.ext_getElem?
  intro j
  rw [fold_arr 0 v c (by omega) j]
  split
  · rfl
  · rw [Array.getElem?_eq_none (by omega), Array.getElem?_eq_none (by omega)]
theorem buildSlice1_run {t e : TypeId} {z : Value} {n : Nat} (ht : P.underlying t = some (.slice e)) (hi : (P.info? e).map (fun i => (i.zero, i.size)) = some (some z, n)) (h0 : 0 < n) (h1 : n ≤ 1000) (v : Value) (hv : v.cells.size = n) (w : World) :
    (Instr.buildSlice t 1 #[(0, v)]).run P w = .ok (.slice (some ⟨w.heap.size, 0, none⟩) 1 1) (w.alloc (.cells v.cells e)) := by
  obtain ⟨i, hi1, hi2, hi3⟩ : ∃ i, P.info? e = some i ∧ i.zero = some z ∧ i.size = n := by
    cases hq : P.info? e with
    | none => simp [hq] at hi
    | some i =>
      simp [hq] at hi
      exact ⟨i, rfl, hi.1, hi.2⟩
  have hw := fold_whole v.cells ((Array.range (1 * n)).map (z.cells[· % z.cells.size]!)) (by simp [hv])
  have hfill : Instr.fill (fun i => some (i * n, n)) ((Array.range (1 * n)).map (z.cells[· % z.cells.size]!)) [(0, v)] = some v.cells := by
    unfold Instr.fill
    simp only [Nat.zero_mul]
    rw [if_neg (by simp [hv])]
    unfold Instr.fill
    exact congrArg some hw
  have hsz : (sizeOf e).run P w = .ok n w := by simp [sizeOf, typeInfo, hi1, hi3]
  have hze : (zeroValue e).run P w = .ok z w := by simp [zeroValue, typeInfo, hi1, hi2]
  have g1 : ¬ 1 * n > 2 ^ 24 := by omega
  have g2 : ¬ 1 * n = 0 := by omega
  unfold Instr.buildSlice
  simp only [Sem.run_bind, run_underlying ht, Result.andThen_ok, hsz, if_neg g1, if_neg g2, hze, Sem.run_pure, hfill]
  simp [newRow, newObj, Result.andThen]
  rfl
theorem wpOp_buildSlice1 {ops : Array Oper} {Q : Exit → Act → World → Prop} {K : Act → World → Prop} {o : Oper} {a : Act} (hw : Region.wanted o (yielded ops a.tmps) = true) (w : World) (t e : TypeId) (z : Value) (n : Nat) (x : Operand) (ho : o.op = .buildSlice t 1 #[(0, x)])
    (ht : P.underlying t = some (.slice e)) (hi : (P.info? e).map (fun i => (i.zero, i.size)) = some (some z, n)) (h0 : 0 < n) (h1 : n ≤ 1000) (cs : Array Value) (hx : a.eval x = .agg cs) (hv : cs.size = n)
    (h : K (a.put o.dst (.slice (some ⟨w.heap.size, 0, none⟩) 1 1)) (w.alloc (.cells cs e))) :
    if Region.wanted o (yielded ops a.tmps) = true then o.wp P a w K Q else K (a.put o.dst undef) w := by
  rw [if_pos hw]
  have hr := buildSlice1_run ht hi h0 h1 (.agg cs) hv w
  unfold Oper.wp execOp
  simp only [ho, List.map_toArray, List.map_cons, List.map_nil, hx, Sem.run_bind, hr, Result.andThen_ok, Sem.run_pure]
  exact h
end
end Go.Proofs.YtfnlhfaihoojfaaDoor

/- A drawn region whose last store changes what an earlier load reads: S is shown anew only as long as that store (number s) has not come up. No program is named here. -/
namespace Go.Proofs.YtfnlhfaihoojfaaDoor
open Go.RowKit
section
variable {P : Program} {ops : Array Oper} {Q : Exit → Act → World → Prop} {md : Region.Mode} {S : World → Prop} {s : Nat}
def UpTo (S : World → Prop) (s : Nat) (listed : Array Bool) (w : World) : Prop := listed.getD s true = false → S w
def wpAnyU (P : Program) (md : Region.Mode) (ops : Array Oper) (Q : Exit → Act → World → Prop) (S : World → Prop) (s : Nat) : Nat → Array Bool → Act → World → Prop
  | 0, listed, a, w => Region.ready md ops listed = [] ∧ Q .normal a w
  | fuel + 1, listed, a, w =>
    (Region.ready md ops listed = [] → Q .normal a w) ∧
    ∀ i ∈ Region.ready md ops listed, wpOp P ops Q i (fun a' w' => UpTo S s (listed.setIfInBounds i true) w' ∧ wpAnyU P md ops Q S s fuel (listed.setIfInBounds i true) a' w') a w
theorem wpAny_of_upTo : ∀ (fuel : Nat) (listed : Array Bool) (a : Act) (w : World), wpAnyU P md ops Q S s fuel listed a w → wpAny P md ops Q fuel listed a w
  | 0, _, _, _, h => h
  | fuel + 1, _, _, _, h => ⟨h.1, fun i hi => wpOp_mono (fun a' w' h' => wpAny_of_upTo fuel _ a' w' h'.2) (h.2 i hi)⟩
/-- s waits for i, by the chain ch. -/
def waitsBy (md : Region.Mode) (ops : Array Oper) (ch : List Nat) (i s : Nat) : Bool :=
  ch.contains s && (ch.all fun c => match ops[c]? with
    | some oc => oc.after.any fun e => Region.binds md e && (e.on == i || ch.contains e.on)
    | none => false)
theorem not_ready {ch : List Nat} {i : Nat} {listed : Array Bool} (hch : waitsBy md ops ch i s = true) (hi : listed.getD i true = false) (hun : ∀ c ∈ ch, listed.getD c true = false) {j : Nat} (hj : j ∈ Region.ready md ops listed) : j ∉ ch := fun hc => by
  obtain ⟨_, oj, hoj, hall⟩ := mem_ready.1 hj
  unfold waitsBy at hch
  rw [Bool.and_eq_true] at hch
  have h1 := List.all_eq_true.1 hch.2 j hc
  rw [hoj] at h1
  dsimp only at h1
  rw [Array.any_eq_true'] at h1
  obtain ⟨e, he, h1⟩ := h1
  rw [Bool.and_eq_true, Bool.or_eq_true, beq_iff_eq, List.contains_iff_mem] at h1
  have h2 := hall e he h1.1
  have h3 : listed.getD e.on true = false := by
    rcases h1.2 with h3 | h3
    · rw [h3]; exact hi
    · exact hun _ h3
  rcases Nat.lt_or_ge e.on listed.size with h' | h'
  · simp [h'] at h2 h3
    rw [h3] at h2
    cases h2
  · simp [Array.getElem?_eq_none h'] at h2
theorem wpAnyU_first {i : Nat} {oi : Oper} {v : Value} {ch : List Nat} (hi : ops[i]? = some oi) (hsel : ∀ (j : Nat) (o : Oper) cs b, ops[j]? = some o → o.op ≠ .select cs b)
    (hQ : ∀ c a w, Q (.panic c) (a.put oi.dst v) w → Q (.panic c) a w) (hch : waitsBy md ops ch i s = true) (hni : i ∉ ch) :
    ∀ (fuel : Nat) (listed : Array Bool) (a : Act) (w : World),
      (∀ j oj, ops[j]? = some oj → j ≠ i → listed.getD j true = false → (∀ e ∈ oj.after, Region.binds md e = true → e.on ≠ i) → oi.apart ops oj = true) →
      i ∈ Region.ready md ops listed → YieldsIf P ops S oi v a → S w → (∀ c ∈ ch, listed.getD c true = false) →
      wpAnyU P md ops Q S s fuel (listed.setIfInBounds i true) (a.put oi.dst v) w → wpAnyU P md ops Q S s (fuel + 1) listed a w := by
  intro fuel
  induction fuel with
  | zero =>
    intro listed a w _ hr hy hS hun H
    refine ⟨fun h => (by rw [h] at hr; cases hr), fun j hj => ?_⟩
    by_cases hji : j = i
    · subst hji; exact hy.wpOp hi hS ⟨fun _ => hS, H⟩
    · have := ready_mono hj hji
      rw [H.1] at this
      cases this
  | succ fuel ih =>
    intro listed a w hfree hr hy hS hun H
    refine ⟨fun h => (by rw [h] at hr; cases hr), fun j hj => ?_⟩
    by_cases hji : j = i
    · subst hji; exact hy.wpOp hi hS ⟨fun _ => hS, H⟩
    · have h1 := H.2 j (ready_mono hj hji)
      have hi0 : listed.getD i true = false := (mem_ready.1 hr).1
      have hjc := not_ready hch hi0 hun hj
      obtain ⟨hjun, oj, hoj, hall⟩ := mem_ready.1 hj
      have hnot : ∀ e ∈ oj.after, Region.binds md e = true → e.on ≠ i := fun e he hb heq => by
        have h1 := hall e he hb
        rw [heq] at h1
        rcases Nat.lt_or_ge i listed.size with h' | h'
        · simp [h'] at hi0 h1; rw [hi0] at h1; cases h1
        · simp [Array.getElem?_eq_none h'] at h1
      have h2 := wpOp_putIf hoj (hfree j oj hoj hji hjun hnot) (fun cs b => hsel i oi cs b hi) (fun cs b => hsel j oj cs b hoj) hQ hy h1
      have hfree' : ∀ k ok, ops[k]? = some ok → k ≠ i → (listed.setIfInBounds j true).getD k true = false →
          (∀ e ∈ ok.after, Region.binds md e = true → e.on ≠ i) → oi.apart ops ok = true := fun k ok hk hki hun2 hno => by
        refine hfree k ok hk hki ?_ hno
        by_cases hjk : j = k
        · subst hjk; exact hjun
        · rw [getD_set_ne true hjk] at hun2; exact hun2
      have hun' : ∀ c ∈ ch, (listed.setIfInBounds j true).getD c true = false := fun c hc => by
        have hne : j ≠ c := fun e => hjc (by rw [e]; exact hc)
        rw [getD_set_ne true hne]
        exact hun c hc
      have hsc : s ∈ ch := by
        unfold waitsBy at hch
        rw [Bool.and_eq_true, List.contains_iff_mem] at hch
        exact hch.1
      have hS' : ∀ w' : World, UpTo S s ((listed.setIfInBounds i true).setIfInBounds j true) w' → S w' := fun w' h => h (by
        have hn1 : j ≠ s := fun e => hjc (by rw [e]; exact hsc)
        have hn2 : i ≠ s := fun e => hni (by rw [e]; exact hsc)
        rw [getD_set_ne true hn1, getD_set_ne true hn2]
        exact hun s hsc)
      refine wpOp_mono (fun a' w' h3 => ⟨fun _ => hS' w' h3.2.1, ih (listed.setIfInBounds j true) a' w' hfree' (ready_mono hr (Ne.symm hji)) h3.1 (hS' w' h3.2.1) hun' ?_⟩) h2
      rw [Array.setIfInBounds_comm _ _ hji]
      exact h3.2.2
theorem wpAnyU_take {i : Nat} {oi : Oper} {v : Value} {fuel : Nat} {listed : Array Bool} {a : Act} {w : World} (ch : List Nat) (hi : ops[i]? = some oi)
    (hs : Region.noSelect ops = true) (hf : Region.free md ops listed i = true) (hr : (Region.ready md ops listed).contains i = true)
    (hQ : ∀ c a w, Q (.panic c) (a.put oi.dst v) w → Q (.panic c) a w) (hch : waitsBy md ops ch i s = true) (hni : ch.contains i = false) (hun : (ch.all fun c => !(listed.getD c true)) = true) (hy : YieldsIf P ops S oi v a) (hS : S w)
    (h : wpAnyU P md ops Q S s fuel (listed.setIfInBounds i true) (a.put oi.dst v) w) : wpAnyU P md ops Q S s (fuel + 1) listed a w :=
  wpAnyU_first hi (Region.noSelect_spec hs) hQ hch (fun hc => by rw [List.contains_iff_mem.2 hc] at hni; cases hni) fuel listed a w (Region.free_spec hi hf) (by simpa using hr) hy hS (fun c hc => by
    have := List.all_eq_true.1 hun c hc
    simpa using this) h
theorem wpAnyU_done {listed : Array Bool} {a : Act} {w : World} (hr : Region.ready md ops listed = []) (h : Q .normal a w) : ∀ fuel, wpAnyU P md ops Q S s fuel listed a w
  | 0 => ⟨hr, h⟩
  | _ + 1 => ⟨fun _ => h, by rw [hr]; simp⟩
/-- One operation comes up alone. -/
theorem wpAnyU_one {i : Nat} {o : Oper} {fuel : Nat} {listed : Array Bool} {a : Act} {w : World} (hr : Region.ready md ops listed = [i]) (ho : ops[i]? = some o)
    (h : ∀ K' : Act → World → Prop, Shut (∀ a w, UpTo S s (listed.setIfInBounds i true) w → wpAnyU P md ops Q S s fuel (listed.setIfInBounds i true) a w → K' a w) → if Region.wanted o (yielded ops a.tmps) = true then Oper.wp P o a w K' Q else K' (a.put o.dst undef) w) :
    wpAnyU P md ops Q S s (fuel + 1) listed a w :=
  ⟨fun h0 => (by rw [hr] at h0; cases h0), fun j hj => by
    rw [hr] at hj
    obtain rfl : j = i := by simpa using hj
    exact wpOp_step ho (fun K' hK => h K' (fun a w hS hW => hK a w ⟨hS, hW⟩))⟩
theorem wp_region_upTo {id : Nat} {a : Act} {w : World} (s : Nat) (hm : P.follows .mixedOrders = true) (hS : S w.drew)
    (h : S w.drew → wpAnyU P .any ops Q S s ops.size (Array.replicate ops.size false) a w.drew) : (Code.region id ops true).wp P Q a w :=
  wp_region_any hm (wpAny_of_upTo _ _ _ _ (h hS))
end
end Go.Proofs.YtfnlhfaihoojfaaDoor
