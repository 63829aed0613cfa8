/- client.Extract. -/
import Derived.Test.YtfnlhfaihoojfaaDoorTexts
import Derived.Test.YtfnlhfaihoojfaaDoorEqB
namespace Go.Proofs.YtfnlhfaihoojfaaDoor
open Go.RowKit
theorem Rws.form {w : World} {base : Nat} {v : Value} {ys : List Value} {zf : Nat → List Nat} (h : Rws w base v ys zf) (hn : 0 < ys.length) : ∃ g c, v = .slice (some ⟨g, 0, none⟩) ys.length c := by
  rcases h.row.2 with ⟨_, h0⟩ | ⟨g, cap, cur, e, _⟩
  · omega
  · exact ⟨g, cap, e⟩
theorem Rws.cell {w : World} {base g n c : Nat} {ys : List Value} {zf : Nat → List Nat} (h : Rws w base (.slice (some ⟨g, 0, none⟩) n c) ys zf) {i : Nat} (hi : i < ys.length) : ∃ A k, w.cell? ⟨g, i, none⟩ = some (.slice A (zf i).length k) ∧ ys[i]? = some (.slice A (zf i).length k) ∧ OwnU w base (.slice A (zf i).length k) (zf i) := by
  have hy : ys[i]? = some ys[i] := List.getElem?_eq_getElem hi
  have ho := h.own i _ hy
  obtain ⟨A, k, e1, _⟩ := ho.form
  rcases h.row.2 with ⟨e, _⟩ | ⟨g', cap, cur, e, _, h2, _, _, _, h3⟩
  · cases e
  · injection e with e _ _
    injection e with e
    injection e with e
    subst e
    refine ⟨A, k, ?_, ?_, ?_⟩
    · rw [cell_of_row w g i cur 22 (0, 0) h2, ← e1]
      have h4 := congrArg (fun l : List Value => l[i]?) h3
      simp only [List.getElem?_take, Nat.mul_one, if_pos hi, hy] at h4
      simpa using h4
    · rw [hy, e1]
    · rw [← e1]; exact ho
theorem Ready.other {w w' : World} {g g2 : Nat} {c c2 : Ck} {p : Pr} (h : Ready w g c p) (ht : Touch (fun B => B = g2) w w') (h2 : CkIs w g2 c2) (hn : g2 ≠ g) (ht1 : g2 ≠ 0) (ht2 : g2 ≠ 2) : Ready w' g c p := by
  refine h.far ht ⟨fun e => hn e.symm, fun B hB e => ?_, fun B hB e => ?_, fun e => ht1 e.symm, fun e => ht2 e.symm⟩
  · exact row_blk h.sums h2 (by decide) (by rw [hB, e])
  · rcases h.blank with h1 | ⟨B', h1, h3⟩
    · rw [h1] at hB; cases hB
    · rw [h1] at hB
      injection hB with hB
      have hB : B' = B := hB
      subst hB
      exact blk_ne (cs := (bvs (flatE c.wd 256)).toArray) (cs' := c2.C.toArray) (t := 29) (t' := 59) h3 h2 (by decide) e
/-- What Extract answers. -/
def Extracted (wd : Int) (rs ks xs ys : List Nat) (w : World) (e : Ending) (w' : World) : Prop :=
  Below w.heap.size w w' ∧ ((errP wd rs ks xs ≠ 0 ∨ errP wd rs ks ys ≠ 0 ∨ xs = ys) → e = .returned (.tuple #[.slice none 0 0, .slice none 0 0, .bool false])) ∧
  (errP wd rs ks xs = 0 → errP wd rs ks ys = 0 → xs ≠ ys → ∃ V1 V2 h p q, e = .returned (.tuple #[V1, V2, .bool true]) ∧ decN xs = some p ∧ decN ys = some q ∧ h ≤ 256 ∧ OwnU w' w.heap.size V1 (textP wd ks p h) ∧ OwnU w' w.heap.size V2 (textP wd ks q h) ∧ Apart V1 V2 ∧
    textP wd ks p h ≠ textP wd ks q h ∧ ∀ j, h < j → j ≤ 256 → textP wd ks p j = textP wd ks q j)
theorem ext_none {wd : Int} {rs ks xs ys : List Nat} {w w' : World} (hb : Below w.heap.size w w') (h : errP wd rs ks xs ≠ 0 ∨ errP wd rs ks ys ≠ 0) : Extracted wd rs ks xs ys w (.returned (.tuple #[.slice none 0 0, .slice none 0 0, .bool false])) w' :=
  ⟨hb, fun _ => rfl, fun h1 h2 _ => by rcases h with h | h <;> contradiction⟩
set_option maxRecDepth 20000 in
set_option maxHeartbeats 4000000 in
theorem extract_any (wd : Int) (rs ks xs ys : List Nat) (A : Option Addr) (n k : Nat) (A2 : Option Addr) (n2 k2 : Nat) (w : World) (hr : rs.length = 32) (hrB : IsB rs) (hk : ks.length = 32) (hkB : IsB ks)
    (hx : RB w A n xs) (hlt : ∀ ad, A = some ad → ad.block < w.heap.size) (hnc : n ≤ k) (hA : A = none → k = 0) (hkm : k ≤ maxLen) (hn : n ≤ 140737488355328)
    (hx2 : RB w A2 n2 ys) (hlt2 : ∀ ad, A2 = some ad → ad.block < w.heap.size) (hnc2 : n2 ≤ k2) (hA2 : A2 = none → k2 = 0) (hkm2 : k2 ≤ maxLen) (hn2 : n2 ≤ 140737488355328) (ht : Tabs w) :
    Calls Tryd.prog 15 #[.int .i64 wd, .agg (bvs rs).toArray, .agg (bvs ks).toArray, .slice A n k, .slice A2 n2 k2] w (Extracted wd rs ks xs ys w) := by
  have HRL := Lib.hid hr
  have HRB := Lib.hid hrB
  have HKL := Lib.hid hk
  have HKB := Lib.hid hkB
  have HX := Lib.hid hx
  have HP := Lib.hid (And.intro hlt (And.intro hnc (And.intro hA (And.intro hkm hn))))
  have HX2 := Lib.hid hx2
  have HP2 := Lib.hid (And.intro hlt2 (And.intro hnc2 (And.intro hA2 (And.intro hkm2 hn2))))
  have HT := Lib.hid ht
  clear hr hrB hk hkB hx hlt hnc hA hkm hn ht hx2 hlt2 hnc2 hA2 hkm2 hn2
  go_enter Tryd.func15, Tryd.ntmps15
  go_wp2_with (with_reducible refine stopAt (o := ⟨some 22, _, _, _, _, _⟩) ?_)
  refine start2 (G := fun w2 => Hid (wpList _ _ _ _ _ w2)) fun w2 H1 H2 HW HS => ?_
  have HR2 : Hid (BlkB w2 w.heap.size 29 rs) := H1
  have HK2 : Hid (BlkB w2 (w.heap.size + 1) 31 ks) := H2
  clear H1 H2
  refine Lib.hid ?_
  go_wp2_with (first
    | (refine wpList_load_arr (o := ⟨some 22, _, _, _, _, _⟩) (by rfl) 29 (.tmp 6) rfl ⟨w.heap.size, 0, none⟩ 32 rs rfl (HR2.out.whole HRB.out HRL.out) (by omega) (by kernel_rfl) (by kernel_rfl) ?_)
    | (refine wpList_load_arr (o := ⟨some 23, _, _, _, _, _⟩) (by rfl) 31 (.tmp 7) rfl ⟨w.heap.size + 1, 0, none⟩ 32 ks rfl (HK2.out.whole HKB.out HKL.out) (by omega) (by kernel_rfl) (by kernel_rfl) ?_))
  refine (held_none wd rs ks xs A n k w2 HRL.out HRB.out HKL.out HKB.out (HX.out.below HW.out) (fun ad e => Nat.lt_of_lt_of_le (HP.out.1 ad e) HW.out.size) HP.out.2.1 HP.out.2.2.1 HP.out.2.2.2.1 HP.out.2.2.2.2 (HT.out.below HW.out)).mono ?_
  rintro e w3 ⟨g, c, rfl, hg, hck, hok, hwd, hky, hbl, hbe, hyes⟩
  have HE := Lib.hid hyes
  have HCK := Lib.hid hck
  have HCO := Lib.hid hok
  have HCW := Lib.hid (And.intro hwd hky)
  have HBL := Lib.hid hbl
  have HG := Lib.hid hg
  have HB3 : Hid (Below w.heap.size w w3) := HW.out.trans (hbe.mono HW.out.size)
  have HR3 : Hid (BlkB w3 w.heap.size 29 rs) := BlkIs.below HR2.out hbe
  have HK3 : Hid (BlkB w3 (w.heap.size + 1) 31 ks) := BlkIs.below HK2.out hbe
  clear hg hck hok hwd hky hbl hbe hyes HR2 HK2
  go_wp2_with (first
    | (refine wpList_load_arr (o := ⟨some 30, _, _, _, _, _⟩) (by rfl) 29 (.tmp 6) rfl ⟨w.heap.size, 0, none⟩ 32 rs rfl (HR3.out.whole HRB.out HRL.out) (by omega) (by kernel_rfl) (by kernel_rfl) ?_)
    | (refine wpList_load_arr (o := ⟨some 31, _, _, _, _, _⟩) (by rfl) 31 (.tmp 7) rfl ⟨w.heap.size + 1, 0, none⟩ 32 ks rfl (HK3.out.whole HKB.out HKL.out) (by omega) (by kernel_rfl) (by kernel_rfl) ?_))
  refine start1 (G := fun w4 => Calls _ _ _ w4 _) fun w4 H1 HW4 HS4 => ?_
  have HSC : Hid (w4.cell? ⟨w3.heap.size, 0, none⟩ = some (.pointer (some ⟨g, 0, none⟩))) := BlkIs.cell H1.out 0
  have HB4 : Hid (Below w.heap.size w w4) := HB3.out.trans (HW4.out.mono HB3.out.size)
  have HC4 : Hid (CkIs w4 g c) := BlkIs.below HCK.out HW4.out
  have HBL4 : Hid (BlankOk w4 wd c.blank) := by
    rcases HBL.out with h1 | ⟨B, h1, h2⟩
    · exact .inl h1
    · exact .inr ⟨B, h1, BlkIs.below h2 HW4.out⟩
  clear H1 HBL HR3 HK3
  refine (held_some w3.heap.size 1 g c wd rs ks ys A2 n2 k2 w4 HRL.out HRB.out HKL.out HKB.out (HX2.out.below HB4.out) (fun ad e => Nat.lt_of_lt_of_le (HP2.out.1 ad e) HB4.out.size) HP2.out.2.1 HP2.out.2.2.1 HP2.out.2.2.2.1 HP2.out.2.2.2.2 (HT.out.below HB4.out) HSC.out HC4.out HCO.out HBL4.out).mono ?_
  rintro e w5 ⟨g2, c2, rfl, hg2, hck2, hok2, hwd2, hky2, hbl2, hbe2, hyes2⟩
  have HE2 := Lib.hid hyes2
  have HCK2 := Lib.hid hck2
  have HCW2 := Lib.hid (And.intro hwd2 hky2)
  have HG2 := Lib.hid hg2
  have HB5 : Hid (Below w.heap.size w w5) := HB4.out.trans (hbe2.mono HB4.out.size)
  have HB45 := Lib.hid (HW4.out.trans (hbe2.mono HW4.out.size))
  have HC5 : Hid (CkIs w5 g c) := BlkIs.below HC4.out hbe2
  clear hg2 hck2 hok2 hwd2 hky2 hbl2 hbe2 hyes2 HSC HBL4
  obtain ⟨q1, HQ1⟩ : ∃ q, Hid (errP wd rs ks xs = q) := ⟨_, rfl⟩
  obtain ⟨q2, HQ2⟩ : ∃ q, Hid (errP wd rs ks ys = q) := ⟨_, rfl⟩
  rw [HQ1.out] at HE ⊢
  rw [HQ2.out] at HE2 ⊢
  by_cases h1 : q1 = 0
  · by_cases h2 : q2 = 0
    · obtain ⟨p, hp, hf, hpp, hr, ho⟩ := HE.out h1
      obtain ⟨q, hp2, hf2, hpp2, hr2, ho2⟩ := HE2.out h2
      subst h1 h2
      have HPD := Lib.hid (And.intro hp (And.intro hf hpp))
      have HPD2 := Lib.hid (And.intro hp2 (And.intro hf2 hpp2))
      have HRa : Hid (Ready w5 g c p) := hr.below HB45.out
      have HRb := Lib.hid hr2
      have HVa : Hid (ValIs w5 c.v p.val) := (valIs_own ho hr.pok.vl).below HB45.out
      have HVb : Hid (OwnU w5 w4.heap.size c2.v q.val) := ho2
      clear hp hf hpp hr ho hp2 hf2 hpp2 hr2 ho2 HE HE2
      go_wp2_with fail
      refine (texts_any g c p w5 HRa.out HVa.out).mono ?_
      rintro e w6 ⟨V1, ys1, b1, rfl, hrw1, hyl1, hra6, hnb1, ht6⟩
      obtain ⟨gl1, cl1, e1⟩ := hrw1.form (by omega)
      rw [hyl1] at e1
      subst e1
      have hglt : g < w4.heap.size := HC4.out.lt
      have hgn : g ≠ g2 := by have := HG2.out; omega
      have HR6 : Hid (Ready w6 g2 c2 q) := HRb.out.other ht6 HC5.out hgn HRa.out.g1 HRa.out.g2
      have HV6 : Hid (ValIs w6 c2.v q.val) := valIs_own (ht6.own HVb.out fun B hB e => by have := (HVb.out.lt B hB).1; omega) HRb.out.pok.vl
      have HW1 := Lib.hid hrw1
      have HY1 := Lib.hid hyl1
      have HG0 : Hid (w.heap.size ≤ g) := Nat.le_trans HW.out.size HG.out
      have HB6 : Hid (Below w.heap.size w w6) := ht6.toBelow HB5.out HB5.out.size fun B e => by rw [e]; exact HG0.out
      have HG25 : Hid (w4.heap.size ≤ g2 ∧ g2 < w5.heap.size) := ⟨HG2.out, HCK2.out.lt⟩
      clear hrw1 hyl1 hra6 hnb1 ht6 hglt hgn
      go_wp2_with fail
      refine (texts_any g2 c2 q w6 HR6.out HV6.out).mono ?_
      rintro e w7 ⟨V2, ys2, b2, rfl, hrw2, hyl2, hrb7, hnb2, ht7⟩
      obtain ⟨gl2, cl2, e2⟩ := hrw2.form (by omega)
      rw [hyl2] at e2
      subst e2
      have hw1 : Rws w7 w5.heap.size (.slice (some ⟨gl1, 0, none⟩) 257 cl1) ys1 (textP c.wd c.key p) := HW1.out.touch ht7 fun B hB hu => by
        have := (HW1.out.lt B hu).1
        have := HG25.out
        omega
      rw [HCW.out.1, HCW.out.2] at hw1
      rw [HCW2.out.1, HCW2.out.2] at hrw2
      have HW17 := Lib.hid hw1
      have HW27 := Lib.hid hrw2
      have HLT1 : Hid (∀ B, RwsU (.slice (some ⟨gl1, 0, none⟩) 257 cl1) ys1 B → w5.heap.size ≤ B ∧ B < w6.heap.size) := HW1.out.lt
      have HY2 := Lib.hid hyl2
      have HB7 : Hid (Below w.heap.size w w7) := ht7.toBelow HB6.out HB6.out.size fun B e => by rw [e]; have := HG25.out.1; have := HB4.out.size; omega
      have HL5 : Hid (w.heap.size ≤ w5.heap.size ∧ w.heap.size ≤ w6.heap.size) := ⟨HB5.out.size, HB6.out.size⟩
      have HOK : Hid (p.Ok ∧ q.Ok) := ⟨HRa.out.pok, HRb.out.pok⟩
      clear hw1 hrw2 hyl2 hrb7 hnb2 ht7 HW1 HR6 HV6 HRa HRb HVa HVb HB6 HC5 HC4 HCK HCK2 HCO HCW HCW2 HB5 HB45 HB4 HB3
      go_wp2_with fail
      go_loopw [19] (fun i wr => ∃ h : Nat, h ≤ 257 ∧ i = .int .i64 ((h : Int) - 1) ∧ Hid (Below w7.heap.size w7 wr) ∧ Hid (∀ j, h ≤ j → j ≤ 256 → textP wd ks p j = textP wd ks q j)) (fun i _ => (intOf i + 1).toNat)
      case atStart => exact ⟨257, by omega, rfl, Below.refl _ _, fun j h1 h2 => by omega⟩
      case round =>
        obtain ⟨h, hh, rfl, HBr, HAll⟩ := hrel
        by_cases h0 : h = 0
        · subst h0
          have hneg : ((0 : Nat) : Int) - 1 = -1 := rfl
          rw [hneg]
          go_wp2_with fail
          go_ret3
          have hpq : p = q := texts_all (w := wd) (k := ks) HOK.out.1 HOK.out.2 HPD.out.2.1 HPD2.out.2.1 fun j hj => HAll.out j (Nat.zero_le _) hj
          have hxy : xs = ys := by
            rw [(decN_some HX.out.2.1 HPD.out.1).2, (decN_some HX2.out.2.1 HPD2.out.1).2, hpq]
          exact ⟨HB7.out.trans (HBr.out.mono HB7.out.size), fun _ => rfl, fun _ _ hne => absurd hxy hne⟩
        · obtain ⟨m, rfl⟩ : ∃ m, h = m + 1 := ⟨h - 1, by omega⟩
          have hm1 : ((m + 1 : Nat) : Int) - 1 = (m : Int) := by omega
          rw [hm1]
          have hm256 : (m : Int) < 257 := by omega
          clear hm1 h0
          obtain ⟨A1, k1, hc1, hy1, ho1⟩ := (HW17.out.below HBr.out).cell (i := m) (by rw [HY1.out]; omega)
          obtain ⟨B1, l1, hc2, hy2, ho2⟩ := (HW27.out.below HBr.out).cell (i := m) (by rw [HY2.out]; omega)
          have HO1 := Lib.hid ho1
          have HO2 := Lib.hid ho2
          have HYY := Lib.hid (And.intro hy1 hy2)
          have HSS : Hid (∀ wx, Below wr.heap.size wr wx → wx.cell? ⟨gl1, m, none⟩ = some (.slice A1 (textP wd ks p m).length k1) ∧ wx.cell? ⟨gl2, m, none⟩ = some (.slice B1 (textP wd ks q m).length l1)) := fun wx hb =>
            ⟨(hb.cell (p := ⟨gl1, m, none⟩) (World.block_lt_of_cell? wr ⟨gl1, m, none⟩ hc1)).trans hc1, (hb.cell (p := ⟨gl2, m, none⟩) (World.block_lt_of_cell? wr ⟨gl2, m, none⟩ hc2)).trans hc2⟩
          clear ho1 ho2 hy1 hy2 hc1 hc2
          go_upto_region 9 with fail
          refine wp_region_held_drew (S := fun w' => w'.cell? ⟨gl1, m, none⟩ = some (.slice A1 (textP wd ks p m).length k1) ∧ w'.cell? ⟨gl2, m, none⟩ = some (.slice B1 (textP wd ks q m).length l1)) (by kernel_rfl) (HSS.out _ (drewN_below (Below.refl _ _) 1)) fun hH => ?_
          have HBd : Hid (Below wr.heap.size wr wr.drew) := drewN_below (Below.refl _ _) 1
          generalize wr.drew = w8 at *
          refine wpAnyH_take (i := 0) (oi := ⟨some 52, _, _, _, _, _⟩) rfl (by kernel_rfl) (by kernel_rfl) (by kernel_rfl) (fun _ _ _ h => h) (Or.inl ⟨by rfl, fun w hw => by ((try dsimp only at hw); go_split_ands; go_simp; with_reducible rfl)⟩) (by assumption) ?_
          try simp only [Act.put, List.setIfInBounds_toArray, List.set_cons_zero, List.set_cons_succ]
          refine wpAnyH_take (i := 1) (oi := ⟨some 53, _, _, _, _, _⟩) rfl (by kernel_rfl) (by kernel_rfl) (by kernel_rfl) (fun _ _ _ h => h) (Or.inl ⟨by rfl, fun w hw => by ((try dsimp only at hw); go_split_ands; go_simp; with_reducible rfl)⟩) (by assumption) ?_
          try simp only [Act.put, List.setIfInBounds_toArray, List.set_cons_zero, List.set_cons_succ]
          refine wpAnyH_take (i := 2) (oi := ⟨some 54, _, _, _, _, _⟩) rfl (by kernel_rfl) (by kernel_rfl) (by kernel_rfl) (fun _ _ _ h => h) (Or.inl ⟨by rfl, fun w hw => by ((try dsimp only at hw); go_split_ands; go_simp; with_reducible rfl)⟩) (by assumption) ?_
          try simp only [Act.put, List.setIfInBounds_toArray, List.set_cons_zero, List.set_cons_succ]
          refine wpAnyH_take (i := 3) (oi := ⟨some 55, _, _, _, _, _⟩) rfl (by kernel_rfl) (by kernel_rfl) (by kernel_rfl) (fun _ _ _ h => h) (Or.inl ⟨by rfl, fun w hw => by ((try dsimp only at hw); go_split_ands; go_simp; with_reducible rfl)⟩) (by assumption) ?_
          try simp only [Act.put, List.setIfInBounds_toArray, List.set_cons_zero, List.set_cons_succ]
          refine wpAnyH_take (i := 4) (oi := ⟨some 56, _, _, _, _, _⟩) rfl (by kernel_rfl) (by kernel_rfl) (by kernel_rfl) (fun _ _ _ h => h) (Or.inl ⟨by rfl, fun w hw => by ((try dsimp only at hw); go_split_ands; go_simp; with_reducible rfl)⟩) (by assumption) ?_
          try simp only [Act.put, List.setIfInBounds_toArray, List.set_cons_zero, List.set_cons_succ]
          refine wpAnyH_take (i := 5) (oi := ⟨some 57, _, _, _, _, _⟩) rfl (by kernel_rfl) (by kernel_rfl) (by kernel_rfl) (fun _ _ _ h => h) (Or.inl ⟨by rfl, fun w hw => by ((try dsimp only at hw); go_split_ands; go_simp; with_reducible rfl)⟩) (by assumption) ?_
          try simp only [Act.put, List.setIfInBounds_toArray, List.set_cons_zero, List.set_cons_succ]
          refine wpAnyH_take (i := 6) (oi := ⟨some 58, _, _, _, _, _⟩) rfl (by kernel_rfl) (by kernel_rfl) (by kernel_rfl) (fun _ _ _ h => h) (Or.inl ⟨by rfl, fun w hw => by ((try dsimp only at hw); go_split_ands; go_simp; with_reducible rfl)⟩) (by assumption) ?_
          try simp only [Act.put, List.setIfInBounds_toArray, List.set_cons_zero, List.set_cons_succ]
          refine wpAnyH_take (i := 7) (oi := ⟨some 59, _, _, _, _, _⟩) rfl (by kernel_rfl) (by kernel_rfl) (by kernel_rfl) (fun _ _ _ h => h) (Or.inl ⟨by rfl, fun w hw => by ((try dsimp only at hw); go_split_ands; go_simp; with_reducible rfl)⟩) (by assumption) ?_
          try simp only [Act.put, List.setIfInBounds_toArray, List.set_cons_zero, List.set_cons_succ]
          refine wpAnyH_ready (rs := [8]) (by kernel_rfl) (by simp) ?_
          refine AllReadyH.cons rfl (fun K hK => ?_) (AllReadyH.nil)
          go_simp
          go_at_call 39
          have HO1d := Lib.hid (HO1.out.below HBd.out)
          have HO2d := Lib.hid (HO2.out.below HBd.out)
          refine (equal_any A1 B1 (textP wd ks p m).length (textP wd ks q m).length k1 l1 (textP wd ks p m) (textP wd ks q m) w8 HO1d.out.reads HO2d.out.reads).mono ?_
          rintro e w9 ⟨rfl, rfl⟩
          refine hK.out _ _ hH (fun hH => ?_)
          clear hK
          have HB9 : Hid (Below w7.heap.size w7 w9) := HBr.out.trans (HBd.out.mono HBr.out.size)
          by_cases hq : textP wd ks p m = textP wd ks q m
          · rw [decide_eq_true hq]
            have HQ := Lib.hid hq
            clear hq
            refine wpAnyH_take (i := 9) (oi := ⟨some 61, _, _, _, _, _⟩) rfl (by kernel_rfl) (by kernel_rfl) (by kernel_rfl) (fun _ _ _ h => h) (Or.inl ⟨by rfl, fun w hw => by ((try dsimp only at hw); go_split_ands; go_simp; with_reducible rfl)⟩) (by assumption) ?_
            try simp only [Act.put, List.setIfInBounds_toArray, List.set_cons_zero, List.set_cons_succ]
            refine wpAnyH_done (by kernel_rfl) ?_ _
            clear hH
            go_wp2_with fail
            go_roundw
            case rel => exact ⟨m, by omega, by go_num, HB9.out, fun j h1 h2 => by
              rcases Nat.lt_or_ge m j with h3 | h3
              · exact HAll.out j (by omega) h2
              · obtain rfl : j = m := by omega
                exact HQ.out⟩
            case measure => simp [intOf]
          · rw [decide_eq_false hq]
            have HQ := Lib.hid hq
            clear hq
            refine wpAnyH_take (i := 9) (oi := ⟨some 61, _, _, _, _, _⟩) rfl (by kernel_rfl) (by kernel_rfl) (by kernel_rfl) (fun _ _ _ h => h) (Or.inl ⟨by rfl, fun w hw => by ((try dsimp only at hw); go_split_ands; go_simp; with_reducible rfl)⟩) (by assumption) ?_
            try simp only [Act.put, List.setIfInBounds_toArray, List.set_cons_zero, List.set_cons_succ]
            refine wpAnyH_done (by kernel_rfl) ?_ _
            have hc12 := hH
            clear hH
            go_upto_region 10 with fail
            refine wp_region_held_drew (S := fun w' => w'.cell? ⟨gl1, m, none⟩ = some (.slice A1 (textP wd ks p m).length k1) ∧ w'.cell? ⟨gl2, m, none⟩ = some (.slice B1 (textP wd ks q m).length l1)) (by kernel_rfl) hc12 fun hH => ?_
            have HBe : Hid (Below w9.heap.size w9 w9.drew) := drewN_below (Below.refl _ _) 1
            generalize w9.drew = w10 at *
            refine wpAnyH_take (i := 0) (oi := ⟨some 62, _, _, _, _, _⟩) rfl (by kernel_rfl) (by kernel_rfl) (by kernel_rfl) (fun _ _ _ h => h) (Or.inl ⟨by rfl, fun w hw => by ((try dsimp only at hw); go_split_ands; go_simp; with_reducible rfl)⟩) (by assumption) ?_
            try simp only [Act.put, List.setIfInBounds_toArray, List.set_cons_zero, List.set_cons_succ]
            refine wpAnyH_take (i := 1) (oi := ⟨some 63, _, _, _, _, _⟩) rfl (by kernel_rfl) (by kernel_rfl) (by kernel_rfl) (fun _ _ _ h => h) (Or.inl ⟨by rfl, fun w hw => by ((try dsimp only at hw); go_split_ands; go_simp; with_reducible rfl)⟩) (by assumption) ?_
            try simp only [Act.put, List.setIfInBounds_toArray, List.set_cons_zero, List.set_cons_succ]
            refine wpAnyH_take (i := 2) (oi := ⟨some 64, _, _, _, _, _⟩) rfl (by kernel_rfl) (by kernel_rfl) (by kernel_rfl) (fun _ _ _ h => h) (Or.inl ⟨by rfl, fun w hw => by ((try dsimp only at hw); go_split_ands; go_simp; with_reducible rfl)⟩) (by assumption) ?_
            try simp only [Act.put, List.setIfInBounds_toArray, List.set_cons_zero, List.set_cons_succ]
            refine wpAnyH_take (i := 3) (oi := ⟨some 65, _, _, _, _, _⟩) rfl (by kernel_rfl) (by kernel_rfl) (by kernel_rfl) (fun _ _ _ h => h) (Or.inl ⟨by rfl, fun w hw => by ((try dsimp only at hw); go_split_ands; go_simp; with_reducible rfl)⟩) (by assumption) ?_
            try simp only [Act.put, List.setIfInBounds_toArray, List.set_cons_zero, List.set_cons_succ]
            refine wpAnyH_take (i := 4) (oi := ⟨some 66, _, _, _, _, _⟩) rfl (by kernel_rfl) (by kernel_rfl) (by kernel_rfl) (fun _ _ _ h => h) (Or.inl ⟨by rfl, fun w hw => by ((try dsimp only at hw); go_split_ands; go_simp; with_reducible rfl)⟩) (by assumption) ?_
            try simp only [Act.put, List.setIfInBounds_toArray, List.set_cons_zero, List.set_cons_succ]
            refine wpAnyH_take (i := 5) (oi := ⟨some 67, _, _, _, _, _⟩) rfl (by kernel_rfl) (by kernel_rfl) (by kernel_rfl) (fun _ _ _ h => h) (Or.inl ⟨by rfl, fun w hw => by ((try dsimp only at hw); go_split_ands; go_simp; with_reducible rfl)⟩) (by assumption) ?_
            try simp only [Act.put, List.setIfInBounds_toArray, List.set_cons_zero, List.set_cons_succ]
            refine wpAnyH_take (i := 6) (oi := ⟨some 68, _, _, _, _, _⟩) rfl (by kernel_rfl) (by kernel_rfl) (by kernel_rfl) (fun _ _ _ h => h) (Or.inl ⟨by rfl, fun w hw => by ((try dsimp only at hw); go_split_ands; go_simp; with_reducible rfl)⟩) (by assumption) ?_
            try simp only [Act.put, List.setIfInBounds_toArray, List.set_cons_zero, List.set_cons_succ]
            refine wpAnyH_take (i := 7) (oi := ⟨some 69, _, _, _, _, _⟩) rfl (by kernel_rfl) (by kernel_rfl) (by kernel_rfl) (fun _ _ _ h => h) (Or.inl ⟨by rfl, fun w hw => by ((try dsimp only at hw); go_split_ands; go_simp; with_reducible rfl)⟩) (by assumption) ?_
            try simp only [Act.put, List.setIfInBounds_toArray, List.set_cons_zero, List.set_cons_succ]
            refine wpAnyH_take (i := 8) (oi := ⟨some 10, _, _, _, _, _⟩) rfl (by kernel_rfl) (by kernel_rfl) (by kernel_rfl) (fun _ _ _ h => h) (Or.inl ⟨by rfl, fun w hw => by ((try dsimp only at hw); go_split_ands; go_simp; with_reducible rfl)⟩) (by assumption) ?_
            try simp only [Act.put, List.setIfInBounds_toArray, List.set_cons_zero, List.set_cons_succ]
            refine wpAnyH_take (i := 9) (oi := ⟨some 11, _, _, _, _, _⟩) rfl (by kernel_rfl) (by kernel_rfl) (by kernel_rfl) (fun _ _ _ h => h) (Or.inl ⟨by rfl, fun w hw => by ((try dsimp only at hw); go_split_ands; go_simp; with_reducible rfl)⟩) (by assumption) ?_
            try simp only [Act.put, List.setIfInBounds_toArray, List.set_cons_zero, List.set_cons_succ]
            refine wpAnyH_take (i := 10) (oi := ⟨some 12, _, _, _, _, _⟩) rfl (by kernel_rfl) (by kernel_rfl) (by kernel_rfl) (fun _ _ _ h => h) (Or.inl ⟨by rfl, fun w hw => by ((try dsimp only at hw); go_split_ands; go_simp; with_reducible rfl)⟩) (by assumption) ?_
            try simp only [Act.put, List.setIfInBounds_toArray, List.set_cons_zero, List.set_cons_succ]
            refine wpAnyH_done (by kernel_rfl) ?_ _
            clear hH hc12
            go_wp2_with fail
            go_ret3
            refine ⟨HB7.out.trans ((HB9.out.trans (HBe.out.mono HB9.out.size)).mono HB7.out.size), fun h => ?_, fun _ _ _ => ⟨_, _, m, p, q, rfl, HPD.out.1, HPD2.out.1, by omega, (HO1d.out.below HBe.out).mono HL5.out.1, (HO2d.out.below HBe.out).mono HL5.out.2, fun B hB hB' => ?_, HQ.out, fun j h1 h2 => HAll.out j (by omega) h2⟩⟩
            · rcases h with h | h | h
              · exact absurd HQ1.out h
              · exact absurd HQ2.out h
              · exfalso
                have h3 := HPD.out.1
                rw [h, HPD2.out.1] at h3
                injection h3 with h3
                exact HQ.out (by rw [h3])
            · have h3 := (HLT1.out B (.inr ⟨m, _, HYY.out.1, hB⟩)).2
              have h4 := (HO2.out.lt B hB').1
              omega
    · have h2' : ¬ (q2 : Int) = 0 := by omega
      subst h1
      have HN := Lib.hid h2
      clear h2 HE HE2
      go_wp2_with fail
      go_ret3
      exact ext_none HB5.out (.inr (by rw [HQ2.out]; exact HN.out))
  · have h1' : ¬ (q1 : Int) = 0 := by omega
    have HN := Lib.hid h1
    clear h1 HE HE2
    go_wp2_with fail
    go_ret3
    exact ext_none HB5.out (.inl (by rw [HQ1.out]; exact HN.out))
end Go.Proofs.YtfnlhfaihoojfaaDoor
