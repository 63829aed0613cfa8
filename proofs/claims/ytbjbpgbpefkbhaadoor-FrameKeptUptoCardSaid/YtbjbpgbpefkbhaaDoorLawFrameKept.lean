/- ledgerlaw5.FrameKept: the walk. -/
import Derived.Test.YtbjbpgbpefkbhaaDoorAgain5
import Derived.Test.YtbjbpgbpefkbhaaDoorKnown5
import Derived.Test.YtbjbpgbpefkbhaaDoorKnownSup
import Derived.Deep.Slices
import Derived.Deep.QuietTactic
import Derived.BigQuiet
namespace Go.Proofs.YtbjbpgbpefkbhaaDoor
open Go.RowKit
/-- The Book begins. -/
theorem KSt.begin {w0 w : World} (zf : Nat → List Nat) (hb : Below w0.heap.size w0 w) :
    KSt w0 (w.alloc (.cells #[.slice none 0 0, .slice none 0 0, .slice none 0 0, .slice none 0 0] 49)) (w.heap.size + 1) w.heap.size 0 0 (.slice none 0 0) zf := by
  have hs : (w.alloc (.cells #[.slice none 0 0, .slice none 0 0, .slice none 0 0, .slice none 0 0] 49)).heap.size = w.heap.size + 1 := by simp
  have h0 := hb.size
  have hheads : Heads (w.alloc (.cells #[.slice none 0 0, .slice none 0 0, .slice none 0 0, .slice none 0 0] 49)) w.heap.size w0.heap.size (.slice none 0 0) (.slice none 0 0) (.slice none 0 0) (.slice none 0 0) [] [] [] [] (fun B => B = w.heap.size) := by
    refine ⟨BlkIs.new w _ _, World.ownsRow_nil _ _ _ _, World.ownsRow_nil _ _ _ _, World.ownsRow_nil _ _ _ _, World.ownsRow_nil _ _ _ _, apart_nil _ _ _, apart_nil _ _ _, apart_nil _ _ _, apart_nil _ _ _, apart_nil _ _ _, apart_nil _ _ _, ?_, ?_, ?_⟩
    · exact ⟨fun h => (by cases h), fun h => (by cases h), fun h => (by cases h), fun h => (by cases h)⟩
    · exact ⟨rfl, fun B h => by rcases h with h | h | h | h <;> cases h⟩
    · intro B h
      subst h
      exact ⟨h0, by omega⟩
  refine ⟨[], fun B => B = w.heap.size, fun _ => False, [], ⟨⟨_, _, _, _, hheads⟩, ?_, ?_, ?_⟩, rfl, Asked.nil _ _ _ _ _, rfl, hb.alloc h0 _, ?_, ?_, ?_, ?_, ?_⟩
  · intro i q h
    simp at h
  · exact fun _ _ h => h
  · exact fun _ h => h.elim
  · rintro B (h | h)
    · omega
    · exact h.elim
  · intro B h
    cases h
  · intro i y B h
    simp at h
  · omega
  · omega
theorem und_try : Tryd.prog.underlying 52 = Tryd.prog.underlying 52 := rfl
theorem size_try : (Tryd.prog.info? 52).map (·.size) = some 10 := by kernel_rfl
theorem row_try : (Tryd.prog.underlying 52).map (·.isRow) = some true := by kernel_rfl
theorem try_row : ∃ d, Tryd.prog.underlying 52 = some d ∧ d.isRow = true := by
  have h := row_try
  cases hu : Tryd.prog.underlying 52 with
  | none => rw [hu] at h; cases h
  | some d =>
    rw [hu] at h
    exact ⟨d, rfl, by simpa using h⟩
/-- A try is read out of the list that came in. -/
theorem loadTry {ops : Array Oper} {rest : List Oper} {o : Oper} {a : Act} {w : World} {Q : Exit → Act → World → Prop} (hgd : o.guard = none) (x : Operand) (ho : o.op = .load 52 x)
    (g off : Nat) (cs : List Value) (hx : a.eval x = .pointer (some ⟨g, off, none⟩)) (hc : w.rangeAt g off cs) (hl : cs.length = 10)
    (h : wpList Tryd.prog ops Q rest (a.put o.dst (.agg cs.toArray)) w) : wpList Tryd.prog ops Q (o :: rest) a w := by
  obtain ⟨d, hu, hd⟩ := try_row
  exact wpList_load_mid hgd _ x ho g off hx cs d hc hu hd (by rw [hl]; exact size_try) h
theorem stopAt {P : Program} {ops : Array Oper} {rest : List Oper} {o : Oper} {a : Act} {w : World} {Q : Exit → Act → World → Prop} (h : Hid (wpList P ops Q (o :: rest) a w)) : wpList P ops Q (o :: rest) a w := h
/-- What is kept between the rounds. -/
def FK (w0 w : World) (gb k b : Nat) (va vw : Value) (zf : Nat → List Nat) : Prop :=
  ∃ M a Z ms, a ≤ k ∧ KZ w0 w M gb a b va zf Z ∧ Wants w w0.heap.size vw ms zf Z ∧ ms.length = b
theorem FK.st {w0 w : World} {gb k b : Nat} {va vw : Value} {zf : Nat → List Nat} (h : FK w0 w gb k b va vw zf) : ∃ M a, a ≤ k ∧ KSt w0 w M gb a b va zf := by
  obtain ⟨M, a, Z, ms, h1, h2, _⟩ := h
  exact ⟨M, a, h1, h2.st⟩
theorem FK.forms {w0 w : World} {gb k b : Nat} {va vw : Value} {zf : Nat → List Nat} (h : FK w0 w gb k b va vw zf) : (∃ A c, va = .slice A b c) ∧ ∃ A c, vw = .slice A b c := by
  obtain ⟨M, a, Z, ms, h1, h2, h3, h4⟩ := h
  exact ⟨h2.st.len, by rw [← h4]; exact row_len h3.row⟩
set_option maxRecDepth 20000 in
set_option maxHeartbeats 8000000 in
theorem frameKept_walk (P0 : Option Addr) (N cap : Nat) (X : Nat → TryN) (w0 : World) (hp : TryAt w0 P0 N X) (hN : N ≤ 1048576) (hX : ∀ k, k < N → (X k).a.length ≤ 1048576 ∧ (X k).b.length ≤ 1048576) (hd : DivT w0) :
    Calls Tryd.prog 8 #[.slice P0 N cap] w0 fun e w' => e = .returned (.bool true) ∧ Below w0.heap.size w0 w' := by
  have HT := Lib.hid hp
  have HD := Lib.hid hd
  have HXL := Lib.hid hX
  obtain ⟨zf, hzf⟩ : ∃ zf : Nat → List Nat, ∀ i, zf i = againN (X (i / 2)).call (X (i / 2)).kind (X (i / 2)).page (X (i / 2)).a (X (i / 2)).s := ⟨_, fun _ => rfl⟩
  have HZF := Lib.hid hzf
  have hN2 : (N : Int) ≤ 1048576 := by omega
  clear hp hd hzf hN hX
  go_enter Tryd.func8, Tryd.ntmps8
  go_wp2_with fail
  refine (knownF_any w0).mono ?_
  rintro e w1 ⟨rfl, hb⟩
  have HB1 := Lib.hid hb
  clear hb
  go_wp2_with fail
  refine (knownSup_any w1).mono ?_
  rintro e w2 ⟨rfl, hb⟩
  have HB2 := Lib.hid (HB1.out.trans (hb.mono HB1.out.size))
  clear hb HB1
  have HK := Lib.hid (KSt.begin zf HB2.out)
  go_wp2_with fail
  generalize w2.alloc (.cells #[.slice none 0 0, .slice none 0 0, .slice none 0 0, .slice none 0 0] 49) = w3 at *
  generalize w2.heap.size = gb at *
  have HF : Hid (FK w0 w3 gb 0 0 (.slice none 0 0) (.slice none 0 0) zf) := ⟨_, 0, _, [], Nat.le_refl _, KZ.of HK.out, Wants.nil _ _ _ _, rfl⟩
  clear HK HB2
  go_loopw [4, 5, 6, 7, 8, 9, 10, 11] (fun va vw i _ _ _ _ _ wr => ∃ k : Nat, i = .int .i64 (k : Int) ∧ Hid (k ≤ N) ∧ ∃ A c A' c', va = .slice A (2 * k) c ∧ vw = .slice A' (2 * k) c' ∧ Hid (FK w0 wr gb k (2 * k) (.slice A (2 * k) c) (.slice A' (2 * k) c') zf)) (fun _ _ i _ _ _ _ _ _ => N - (intOf i).toNat)
  case atStart => exact ⟨0, rfl, Nat.zero_le _, none, 0, none, 0, rfl, rfl, HF⟩
  case round =>
    clear HF
    obtain ⟨k, rfl, HKN, A0, c0, A1, c1, rfl, rfl, HF⟩ := hrel
    by_cases hlt : (k : Int) < N
    · obtain ⟨b, o, A, c, B, d, rfl, hb, hR, hA, hAc, hB, hBd⟩ := HT.out k (by omega)
      obtain ⟨M, a, Z, ms, ha, hkz, hw, hms⟩ := HF.out
      have HKB := Lib.hid hkz.st.below
      have hrng := range_below HKB.out hb hR
      have HAx := Lib.hid (hA.below HKB.out)
      have HBx := Lib.hid (hB.below HKB.out)
      have HZ0 : Hid (zf (2 * k) = againN (X k).call (X k).kind (X k).page (X k).a (X k).s) := by
        show zf (2 * k) = _
        rw [HZF.out, show 2 * k / 2 = k by omega]
      have HZ1 : Hid (zf (2 * k + 1) = againN (X k).call (X k).kind (X k).page (X k).a (X k).s) := by
        show zf (2 * k + 1) = _
        rw [HZF.out, show (2 * k + 1) / 2 = k by omega]
      obtain ⟨hla, hlb⟩ := HXL.out k (by omega)
      have HRG := Lib.hid hR
      have HA0 := Lib.hid hA
      have HBK : Hid (b < w0.heap.size) := hb
      have HKZ := Lib.hid hkz
      have HWT := Lib.hid hw
      have HMS := Lib.hid hms
      have HAK := Lib.hid ha
      clear hA hB hR hb HF hkz hw hms ha
      generalize X k = t at *
      obtain ⟨call, kind, page, xs, ys, ⟨s1, s2, s3, s4, s5⟩⟩ := t
      have HA0 : Hid (RB w0 A xs.length xs) := HA0.out
      dsimp only at hrng HAx HBx HZ0 HZ1 hla hlb hAc hBd
      have HRG2 : Hid (w0.rangeAt b (o + k * 10) [.int .i64 call, .int .i64 kind, .int .i64 page, .slice A xs.length c, .slice B ys.length d, .int .i64 s1, .int .i64 s2, .int .i64 s3, .int .i64 s4, .int .i64 s5]) := HRG.out
      have hrng2 : wr.rangeAt b (o + k * 10) [.int .i64 call, .int .i64 kind, .int .i64 page, .slice A xs.length c, .slice B ys.length d, .int .i64 s1, .int .i64 s2, .int .i64 s3, .int .i64 s4, .int .i64 s5] := hrng
      have HR1 := Lib.hid hrng2
      have HHA := Lib.hid hAc
      have HLA := Lib.hid hla
      have HLB := Lib.hid hlb
      clear hrng hrng2 HRG hAc hBd hla hlb
      go_wp2_with (refine loadTry (o := ⟨some 31, _, _, _, _, _⟩) (by rfl) (.tmp 30) (by rfl) b (o + k * 10) _ (by rfl) HR1.out (by rfl) ?_)
      refine (plays_any w0 M gb a (2 * k) (.slice A0 (2 * k) c0) zf Z call kind page s1 s2 s3 s4 s5 A B c d xs ys wr HAx.out HBx.out HLA.out HLB.out HKZ.out (by have := HAK.out; omega) (HD.out.below HKB.out)).mono ?_
      rintro e w1 ⟨rfl, ⟨a1, ha1, hk1⟩, ht⟩
      have HK1 := Lib.hid hk1
      have HW1 : Hid (Wants w1 w0.heap.size (.slice A1 (2 * k) c1) ms zf Z) := HWT.out.touch ht fun B hZ hU => hU.1 hZ
      have HA1 : Hid (a1 ≤ k + 1) := by
        show a1 ≤ k + 1
        have := HAK.out
        omega
      have HB1 := Lib.hid hk1.st.below
      have HRB : Hid (∀ w, Below w0.heap.size w0 w → w.rangeAt b (o + k * 10) [.int .i64 call, .int .i64 kind, .int .i64 page, .slice A xs.length c, .slice B ys.length d, .int .i64 s1, .int .i64 s2, .int .i64 s3, .int .i64 s4, .int .i64 s5]) := fun w hb => range_below hb HBK.out HRG2.out
      have HAB : Hid (∀ w, Below w0.heap.size w0 w → w.heap.size ≥ w0.heap.size ∧ RB w A xs.length xs) := fun w hb => ⟨hb.size, HA0.out.below hb⟩
      have HV1 : Hid (∀ B, (Value.slice A1 (2 * k) c1).ownBlock = some B → B < w1.heap.size) := fun B hB => (HW1.out.row.lt B hB).2
      have HV0 : Hid (∀ B, (Value.slice A0 (2 * k) c0).ownBlock = some B → B < w1.heap.size) := by
        obtain ⟨ys1, _, _, hrw⟩ := HK1.out.named
        exact fun B hB => (hrw.lt B hB).2
      clear hk1 ht ha1 HKZ HWT HR1 HAx HBx HKB HAK
      go_wp2_with fail
      refine (held_K HK1.out.st (by have := HA1.out; omega)).mono ?_
      rintro e w2 ⟨rfl, rfl⟩
      have HR2 := Lib.hid (HRB.out w2 HB1.out)
      go_wp2_with (refine loadTry (o := ⟨some 45, _, _, _, _, _⟩) (by rfl) (.tmp 44) (by rfl) b (o + k * 10) _ (by rfl) HR2.out (by rfl) ?_)
      refine (again_any call kind page s1 s2 s3 s4 s5 A B c d xs ys w2 (HAB.out w2 HB1.out).2 HHA.out HLA.out (HD.out.below HB1.out)).mono ?_
      rintro e w3 ⟨⟨l, m, rfl, hl, hm, hlm⟩, hb⟩
      have HL3 := Lib.hid hl
      have HM3 := Lib.hid hm
      have HLM := Lib.hid hlm
      have HLL := Lib.hid hl.lt
      have HML := Lib.hid hm.lt
      have HK3 := Lib.hid (HK1.out.keep hb)
      have HW3 := Lib.hid (HW1.out.below hb)
      have HS3 := Lib.hid hb.size
      have HB3 := Lib.hid (HB1.out.trans (hb.mono HB1.out.size))
      obtain ⟨Al, cl, rfl, _⟩ := hl.form
      obtain ⟨Am, cm, rfl, _⟩ := hm.form
      have HR3 := Lib.hid (HRB.out w3 HB3.out)
      clear hl hm hlm hb HK1 HW1 HR2 HB1
      go_wp2_with (refine loadTry (o := ⟨some 53, _, _, _, _, _⟩) (by rfl) (.tmp 52) (by rfl) b (o + k * 10) _ (by rfl) HR3.out (by rfl) ?_)
      refine (again_any call kind page s1 s2 s3 s4 s5 A B c d xs ys w3 (HAB.out w3 HB3.out).2 HHA.out HLA.out (HD.out.below HB3.out)).mono ?_
      rintro e w4 ⟨⟨l2, m2, rfl, hl, _, _⟩, hb⟩
      have HQ4 := Lib.hid hl
      have HL4 := Lib.hid (HL3.out.below hb)
      have HM4 := Lib.hid (HM3.out.below hb)
      have HK4 := Lib.hid (HK3.out.keep hb)
      have HW4 := Lib.hid (HW3.out.below hb)
      have HS4 := Lib.hid hb.size
      have HB4 := Lib.hid (HB3.out.trans (hb.mono HB3.out.size))
      obtain ⟨Aq, cq, rfl, _⟩ := hl.form
      clear hl hb HL3 HM3 HK3 HW3 HR3 HB3 HRB HAB
      obtain ⟨ys4, hkr, hyl, hrw⟩ := HK4.out.named
      have HKR := Lib.hid hkr
      have HYN := Lib.hid hyl
      have HRW := Lib.hid hrw
      have HGB := Lib.hid HB4.out.size
      have HGM := Lib.hid HK4.out.st.ge
      clear hkr hyl hrw HK4
      generalize againN call kind page xs ⟨s1, s2, s3, s4, s5⟩ = zz at *
      go_wp2_with (first
        | (with_reducible refine stopAt (o := ⟨some 66, _, _, _, _, _⟩) ?_)
        | (at_builtin; refine appendVals (o := ⟨some 61, _, _, _, _, _⟩) und_rows info_bytes w4 (by rfl) (.tmp 57) (.tmp 60) (by rfl) w0.heap.size _ ys4 HRW.out [.slice Al zz.length cl, .slice Aq zz.length cq] (by intro u hu; simp at hu; rcases hu with rfl | rfl <;> rfl) #[.slice Al zz.length cl, .slice Aq zz.length cq] rfl 2 rfl (by omega) (by rfl) w4.heap.size rfl (by rfl) (by have := HYN.out; omega) HGB.out ?_; intro va w5 hrow hgr hlies))
      have HK5 := Lib.hid (KZ.push (Y := fun B => (Value.slice Am zz.length cm).ownBlock = some B) (N1 := w3.heap.size) HKR.out (by rw [HZ0.out]; exact HL4.out.mono (by have := HGM.out; omega)) (by rw [HZ1.out]; exact HQ4.out.mono (by have := HGM.out; have := HS3.out; omega)) HLL.out (fun B hB => HQ4.out.ge B hB) HS3.out (fun B hB => ⟨(HML.out B hB).1, Nat.lt_of_lt_of_le (HML.out B hB).2 HS4.out, fun e => HLM.out B e hB, fun e => by have := HQ4.out.ge B e; have := (HML.out B hB).2; omega⟩) hgr hlies hrow)
      have HVZ : Hid (∀ B, Z B → (Value.slice A0 (2 * k) c0).ownBlock ≠ some B) := (by obtain ⟨_, _, _, _, _, _, _, _, _, _, _, _, _, hz, _⟩ := HKR.out; exact fun B hB => (hz B hB).2.2.1)
      have HW5 := Lib.hid (HW4.out.touch (Touch.grown hgr) fun B hZ hU => HVZ.out B hZ hU.symm)
      have HM5 : Hid (OwnU w5 w2.heap.size (.slice Am zz.length cm) zz) := ((Touch.grown hgr).own HM4.out fun B hB e => by have h1 := HRW.out.lt B e.symm; have h2 := (HML.out B hB).1; have h3 := HV0.out B e.symm; omega)
      have HB5 := Lib.hid (HK5.out.st.below)
      have HG5 := Lib.hid HB5.out.size
      clear hrow hgr hlies HKR HYN HRW HGB HL4 HQ4 HM4 HW4 HB4 HVZ
      refine Lib.hid ?_
      refine appendVals (o := ⟨some 66, _, _, _, _, _⟩) und_rows info_bytes w5 (by rfl) (.tmp 62) (.tmp 65) (by rfl) w0.heap.size _ ms HW5.out.row [.slice Am zz.length cm, .slice Am zz.length cm] (by intro u hu; simp at hu; subst hu; rfl) #[.slice Am zz.length cm, .slice Am zz.length cm] rfl 2 rfl (by omega) (by rfl) w5.heap.size rfl (by rfl) (by have := HMS.out; omega) HG5.out ?_
      intro vw w6 hrow hgr hlies
      have HW6 := Lib.hid (Wants.push HW5.out (by rw [HMS.out, HZ0.out]; exact HM5.out.mono (by have := HGM.out; omega)) (by rw [HMS.out, HZ1.out]; exact HM5.out.mono (by have := HGM.out; omega)) (fun B h1 h2 => by have := HV1.out B h2; have := (HML.out B h1).1; omega) hgr hrow hlies)
      have HK6 := Lib.hid ((HK5.out.wtouch (Touch.grown hgr) (fun B hU => .inl (HW5.out.inZ B (.inl hU.symm))) (fun B hU => (HW5.out.row.lt B hU.symm).1)).more (Z' := fun B => Z B ∨ (Value.slice Am zz.length cm).ownBlock = some B ∨ w5.heap.size ≤ B ∧ B < w6.heap.size) fun B hB => by
        rcases hB with hB | hB | hB
        · exact .inl (.inl hB)
        · exact .inl (.inr hB)
        · exact .inr hB)
      have HF6 : Hid (FK w0 w6 gb (k + 1) (2 * k + 2) va vw zf) := ⟨_, a1, _, _, HA1.out, HK6.out, HW6.out, by rw [List.length_append, HMS.out]; rfl⟩
      obtain ⟨⟨A6, c6, ev⟩, A7, c7, ew⟩ := HF6.out.forms
      subst ev ew
      clear hrow hgr hlies HW5 HM5 HB5 HG5 HK5 HW6 HK6
      go_wp2_with fail
      go_roundw
      case rel => exact ⟨k + 1, by go_num, (show k + 1 ≤ N by omega), A6, c6, A7, c7, rfl, rfl, HF6⟩
      case measure => simp [intOf]; omega
    · obtain rfl : k = N := by have := HKN.out; omega
      obtain ⟨M, a, Z, ms, ha, hkz, hw, hms⟩ := HF.out
      obtain ⟨ys, hyl, h3⟩ := hkz.st.three
      have HYL := Lib.hid hyl
      have HMS := Lib.hid hms
      have HAK := Lib.hid ha
      have H3 := Lib.hid h3
      have HW0 := Lib.hid hw
      have hN3 : (k : Int) ≤ 1048576 := by omega
      have HZL : Hid (∀ i, i < 2 * k → (zf i).length ≤ 1048576) := fun i hi => by
        rw [HZF.out]
        exact againN_len _ _ _ _ _ (HXL.out (i / 2) (by omega)).1
      clear hyl h3 HF HKN hlt ha hkz hw hms HT HXL HZF
      go_wp2_with fail
      go_loopw [12] (fun i y => ∃ j : Nat, i = .int .i64 (j : Int) ∧ Hid (j ≤ 2 * k) ∧ Hid (K3 w0 y gb a 0 (.slice A0 (2 * k) c0) ys zf) ∧ Hid (Wants y w0.heap.size (.slice A1 (2 * k) c1) ms zf Z)) (fun i _ => 2 * k - (intOf i).toNat)
      case atStart => exact ⟨0, rfl, Nat.zero_le _, H3, HW0⟩
      case round =>
        clear H3 HW0
        obtain ⟨j, rfl, HJ, H3, HW⟩ := hrel
        by_cases hlt : (j : Int) < 2 * k
        · obtain ⟨g, A, d, rfl, hc1, _, ho⟩ := H3.out.form (i := j) (by have := HYL.out; omega) (Nat.zero_le _)
          obtain ⟨g2, d2, e2, hc2⟩ := row_at HW.out.row (i := j) (by have := HMS.out; omega)
          injection e2 with e2 e4 e3
          clear e4
          subst e2 e3
          have hmj : ms[j]? = some (ms.getD j (.slice none 0 0)) := by
            rw [List.getElem?_eq_getElem (by have := HMS.out; omega)]
            simp [List.getD, show j < ms.length by have := HMS.out; omega]
          have hm := HW.out.own j _ hmj
          obtain ⟨A2, d3, em, _⟩ := hm.form
          rw [hmj, em] at hc2
          rw [em] at hm
          have HO := Lib.hid ho
          have HM := Lib.hid hm
          have HL := Lib.hid (HZL.out j (by omega))
          clear ho hm hmj em
          generalize zf j = zj at *
          have HCA := Lib.hid (lt_of_cell hc1)
          have HCB := Lib.hid (lt_of_cell hc2)
          have HQ : Hid (∀ W, Below wr.heap.size wr W → Calls Tryd.prog 11 #[.slice A zj.length d, .slice A2 zj.length d3] W fun e w' => e = .returned (.bool true) ∧ ∃ q, w' = W.drewN q) := fun W hb => same_true (HO.out.below hb).reads (HM.out.below hb).reads (by have := HL.out; omega) rfl
          go_wp2_with fail
          go_quiet ((go_at_call 11; exact Calls.quiet_of (HQ.out _ (drewN_below (Below.refl _ _) _))))
          rename_i nq
          have hb : Below wr.heap.size wr (wr.drewN nq) := drewN_below (Below.refl _ _) _
          have HK5 := Lib.hid (H3.out.keep hb)
          have HW5 := Lib.hid (HW.out.below hb)
          clear hb hc1 hc2 HQ HO HM
          go_wp2_with fail
          go_roundw
          case rel => exact ⟨j + 1, by go_num, (show j + 1 ≤ 2 * k by omega), HK5, HW5⟩
          case measure => simp [intOf]; omega
        · clear HJ
          go_wp2_with fail
          go_loopw [13] (fun i y => ∃ q : Nat, i = .int .i64 (q : Int) ∧ Hid (q ≤ 2 * k) ∧ Hid (K3 w0 y gb a q (.slice A0 (2 * k) c0) ys zf)) (fun i _ => 2 * k - (intOf i).toNat)
          case atStart => exact ⟨0, rfl, Nat.zero_le _, H3⟩
          case round =>
            clear H3 HW
            obtain ⟨q, rfl, HJ, H3⟩ := hrel
            by_cases hlt : (q : Int) < 2 * k
            · obtain ⟨g, A, d, rfl, hc1, hy, ho⟩ := H3.out.form (i := q) (by have := HYL.out; omega) (Nat.le_refl _)
              have HPT := Lib.hid (put_3 _ H3.out hy (by have := HZL.out q (by omega); omega) (by have := HAK.out; omega))
              clear ho hy
              go_wp2_with fail
              refine HPT.out.mono ?_
              rintro e w5 ⟨rfl, h5⟩
              have HK5 := Lib.hid h5
              clear h5 HPT H3 hc1
              go_wp2_with fail
              go_roundw
              case rel => exact ⟨q + 1, by go_num, (show q + 1 ≤ 2 * k by omega), HK5⟩
              case measure => simp [intOf]; omega
            · have HHB := Lib.hid (by have := HJ.out; have := HAK.out; omega : a + q ≤ 1073741824)
              clear HJ
              go_wp2_with fail
              refine (knownF_any _).mono ?_
              rintro e w5 ⟨rfl, hb⟩
              have HK5 := Lib.hid (H3.out.keep hb)
              clear hb H3
              go_wp2_with fail
              refine (knownSup_any _).mono ?_
              rintro e w6 ⟨rfl, hb⟩
              have HK6 := Lib.hid (HK5.out.keep hb)
              clear hb HK5
              go_wp2_with fail
              refine (held_3 HK6.out HHB.out).mono ?_
              rintro e w7 ⟨rfl, rfl⟩
              go_wp2_with fail
              go_ret
              exact ⟨rfl, HK6.out.below⟩
end Go.Proofs.YtbjbpgbpefkbhaaDoor
