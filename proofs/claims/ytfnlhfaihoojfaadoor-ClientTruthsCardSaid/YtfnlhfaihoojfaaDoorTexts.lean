/- client: texts. -/
import Derived.Test.YtfnlhfaihoojfaaDoorTexts1
import Derived.Test.YtfnlhfaihoojfaaDoorClimb2
namespace Go.Proofs.YtfnlhfaihoojfaaDoor
open Go.RowKit
theorem eye_texts (base B1 B4 g : Nat) (c : Ck) (p : Pr) : Eye 61 #[.pointer (some ⟨B1, 0, none⟩), .pointer (some ⟨B4, 0, none⟩)] g c p (pathD c.wd c.key (nodeD c.wd (startT c.key p.found p.val)) (nearP c.wd p)) (TxJ base B1 B4 g (textP c.wd c.key p)) where
  enters := entersF Tryd.func61 (by kernel_rfl) (by kernel_rfl)
  lt := fun h B hB => h.lt B hB
  keep := fun h ht hn => h.keep ht hn
  call := fun h U b w hh hj hr hf => by
    have h1 := pathD_facts c.wd c.key (nearP c.wd p) (nodeD_length c.wd (startT c.key p.found p.val)) (nodeD_isB c.wd (startT c.key p.found p.val)) h
    have h2 := nearP_facts (w := c.wd) hr.pok hh
    exact texts1_any base B1 B4 g (textP c.wd c.key p) c p h U b w _ _ hh h1.2 h1.1 h2.2 h2.1 rfl hj hr hf
theorem own_list {w : World} {g : Nat} {y : Value} {t : TypeId} (h : BlkIs w g t #[y]) : w.ownsRow g t 1 (.slice (some ⟨g, 0, none⟩) 1 1) 1 [y] :=
  ⟨rfl, .inr ⟨g, 1, #[y], rfl, Nat.le_refl _, h, Nat.le_refl _, by simp [maxLen], rfl, rfl⟩⟩
theorem ValIs.below {w w' : World} {v : Value} {xs : List Nat} (h : ValIs w v xs) (hb : Below w.heap.size w w') : ValIs w' v xs := by
  obtain ⟨A, n, k, h1, h2, h3⟩ := h
  exact ⟨A, n, k, h1, h2.below hb, h3⟩
/-- What texts tells. -/
def Textd (g : Nat) (c : Ck) (p : Pr) (w : World) (e : Ending) (w' : World) : Prop :=
  ∃ V ys b, e = .returned V ∧ Rws w' w.heap.size V ys (textP c.wd c.key p) ∧ ys.length = 257 ∧ Ready w' g (c.blanked b) p ∧ NewB w c.blank b ∧ Touch (fun B => B = g) w w'
set_option maxRecDepth 20000 in
set_option maxHeartbeats 2000000 in
theorem texts_any (g : Nat) (c : Ck) (p : Pr) (w : World) (hr : Ready w g c p) (hv : ValIs w c.v p.val) :
    Calls Tryd.prog 38 #[.pointer (some ⟨g, 0, none⟩)] w (Textd g c p w) := by
  have HR := Lib.hid hr
  have HV := Lib.hid hv
  clear hr hv
  go_enter Tryd.func38, Tryd.ntmps38
  go_wp2_with (with_reducible refine stopAt (o := ⟨some 5, _, _, _, _, _⟩) ?_)
  refine start1 (G := fun w2 => Hid (wpList _ _ _ _ _ w2)) fun w2 H1 HW HS => ?_
  have HB1 : Hid (BlkIs w2 w.heap.size 53 #[.pointer (some ⟨g, 0, none⟩)]) := H1
  have HR2 : Hid (Ready w2 g c p) := HR.out.below HW.out
  clear H1
  refine Lib.hid ?_
  go_wp2_with (with_reducible refine stopAt (o := ⟨some 6, _, _, _, _, _⟩) ?_)
  refine start1 (G := fun w3 => Hid (wpList _ _ _ _ _ w3)) fun w3 H1 HW3 HS3 => ?_
  have HO3 : Hid (OwnU w3 w2.heap.size (.slice (some ⟨w2.heap.size, 0, none⟩) 1 1) [2]) := ⟨own_list H1.out, fun x hx => by simp at hx; omega⟩
  have HB13 : Hid (BlkIs w3 w.heap.size 53 #[.pointer (some ⟨g, 0, none⟩)]) := BlkIs.below HB1.out HW3.out
  have HR3 : Hid (Ready w3 g c p) := HR2.out.below HW3.out
  have HB3 : Hid (Below w.heap.size w w3) := HW.out.trans (HW3.out.mono HW.out.size)
  have HLO : Hid (w.heap.size ≤ w2.heap.size) := HW.out.size
  clear H1 HR2 HB1
  obtain ⟨_, _, cf, cv, _, _⟩ := ck_cells HR3.out.ck HR3.out.ok
  rw [← HR3.out.found] at cf
  have c1 := BlkIs.cell HB13.out 0
  refine Lib.hid ?_
  go_upto_if 10 with fail
  clear cf c1
  go_cut [3] from 5 (fun s3 wx => ∃ (A : Option Addr) (m k : Nat), s3 = .slice A m k ∧ Hid (OwnU wx w.heap.size (.slice A m k) (startT c.key p.found p.val)) ∧ Hid (BlkIs wx w.heap.size 53 #[.pointer (some ⟨g, 0, none⟩)]) ∧ Hid (Below w3.heap.size w3 wx) ∧ Hid (∀ B, (Value.slice A m k).ownBlock = some B → w.heap.size < B))
  case first =>
    cases hfd : p.found with
    | false =>
      go_wp2_with fail
      go_meet
      case rel => exact ⟨_, _, _, rfl, by rw [hfd]; exact HO3.out.mono HLO.out, HB13.out, Below.refl _ _, fun B hB => by injection hB with hB; have := HS.out; have h2 : w2.heap.size = B := hB; omega⟩
    | true =>
      have hfd2 : c.f = true := by rw [← HR3.out.found, hfd]
      obtain ⟨Av, nv, kv, hcv, hxv, hnv, hlv⟩ := HV.out
      rw [hcv] at cv
      have hxv3 : RB w3 Av nv p.val := hxv.below HB3.out
      have HXV := Lib.hid hxv3
      have HNV := Lib.hid hnv
      have HLV := Lib.hid hlv
      have hrk : w3.rangeAt g 1 (bvs c.key) := by
        have h : BlkIs w3 g _ c.C.toArray := HR3.out.ck
        rw [Ck.byKey] at h
        exact h.rangeOf rfl
      have HSS : Hid (∀ wx, Below w3.heap.size w3 wx → wx.cell? ⟨w.heap.size, 0, none⟩ = some (.pointer (some ⟨g, 0, none⟩)) ∧ wx.rangeAt g 1 (bvs c.key) ∧ wx.cell? ⟨g, 67, none⟩ = some (.slice Av nv kv)) := fun wx hb =>
        ⟨BlkIs.cell (BlkIs.below HB13.out hb) 0, fun j v hj => (hb.cell (p := ⟨g, 1 + j, none⟩) HR3.out.ck.lt).trans (hrk j v hj), (hb.cell (p := ⟨g, 67, none⟩) HR3.out.ck.lt).trans cv⟩
      have HKL : Hid (c.key.length = 32 ∧ IsB c.key) := ⟨HR3.out.ok.kl, HR3.out.ok.kB⟩
      clear hrk cv hcv hxv hnv hlv hxv3
      go_upto_region 3 with fail
      have huk := und_key
      have hszk : (Tryd.prog.info? 31).map (·.size) = some (bvs c.key).length := by rw [size_key]; simp [bvs, HKL.out.1]
      refine wp_region_held_drew (S := fun w' => w'.cell? ⟨w.heap.size, 0, none⟩ = some (.pointer (some ⟨g, 0, none⟩)) ∧ w'.rangeAt g 1 (bvs c.key) ∧ w'.cell? ⟨g, 67, none⟩ = some (.slice Av nv kv)) (by kernel_rfl) (HSS.out _ (drewN_below (Below.refl _ _) 1)) fun hH => ?_
      have HB0 : Hid (Below w3.heap.size w3 w3.drew) := drewN_below (Below.refl _ _) 1
      generalize w3.drew = w3d at *
      refine wpAnyH_take (i := 0) (oi := ⟨some 11, _, _, _, _, _⟩) rfl (by kernel_rfl) (by kernel_rfl) (by kernel_rfl) (fun _ _ _ h => h) (Or.inl ⟨by rfl, fun w hw => by ((try dsimp only at hw); go_split_ands; go_simp; with_reducible rfl)⟩) (by assumption) ?_
      try simp only [Act.put, List.setIfInBounds_toArray, List.set_cons_zero, List.set_cons_succ]
      refine wpAnyH_take (i := 1) (oi := ⟨some 12, _, _, _, _, _⟩) rfl (by kernel_rfl) (by kernel_rfl) (by kernel_rfl) (fun _ _ _ h => h) (Or.inl ⟨by rfl, fun w hw => by ((try dsimp only at hw); go_split_ands; go_simp; with_reducible rfl)⟩) (by assumption) ?_
      try simp only [Act.put, List.setIfInBounds_toArray, List.set_cons_zero, List.set_cons_succ]
      refine wpAnyH_take (i := 2) (oi := ⟨some 13, _, _, _, _, _⟩) rfl (by kernel_rfl) (by kernel_rfl) (by kernel_rfl) (fun _ _ _ h => h) (Or.inl ⟨by rfl, fun w hw => by ((try dsimp only at hw); go_split_ands; go_simp; with_reducible rfl)⟩) (by assumption) ?_
      try simp only [Act.put, List.setIfInBounds_toArray, List.set_cons_zero, List.set_cons_succ]
      refine wpAnyH_take (i := 3) (oi := ⟨some 14, _, _, _, _, _⟩) rfl (by kernel_rfl) (by kernel_rfl) (by kernel_rfl) (fun _ _ _ h => h) (yieldsIf_load_mid (by rfl) _ _ rfl _ _ rfl _ _ (fun w hw => by (try dsimp only at hw); go_split_ands; assumption) (by assumption) rfl (by assumption)) (by assumption) ?_
      try simp only [Act.put, List.setIfInBounds_toArray, List.set_cons_zero, List.set_cons_succ]
      refine wpAnyH_take (i := 4) (oi := ⟨some 15, _, _, _, _, _⟩) rfl (by kernel_rfl) (by kernel_rfl) (by kernel_rfl) (fun _ _ _ h => h) (Or.inl ⟨by rfl, fun w hw => by ((try dsimp only at hw); go_split_ands; go_simp; with_reducible rfl)⟩) (by assumption) ?_
      try simp only [Act.put, List.setIfInBounds_toArray, List.set_cons_zero, List.set_cons_succ]
      refine wpAnyH_take (i := 5) (oi := ⟨some 16, _, _, _, _, _⟩) rfl (by kernel_rfl) (by kernel_rfl) (by kernel_rfl) (fun _ _ _ h => h) (Or.inl ⟨by rfl, fun w hw => by ((try dsimp only at hw); go_split_ands; go_simp; with_reducible rfl)⟩) (by assumption) ?_
      try simp only [Act.put, List.setIfInBounds_toArray, List.set_cons_zero, List.set_cons_succ]
      refine wpAnyH_take (i := 6) (oi := ⟨some 17, _, _, _, _, _⟩) rfl (by kernel_rfl) (by kernel_rfl) (by kernel_rfl) (fun _ _ _ h => h) (Or.inl ⟨by rfl, fun w hw => by ((try dsimp only at hw); go_split_ands; go_simp; with_reducible rfl)⟩) (by assumption) ?_
      try simp only [Act.put, List.setIfInBounds_toArray, List.set_cons_zero, List.set_cons_succ]
      refine wpAnyH_take (i := 7) (oi := ⟨some 18, _, _, _, _, _⟩) rfl (by kernel_rfl) (by kernel_rfl) (by kernel_rfl) (fun _ _ _ h => h) (Or.inl ⟨by rfl, fun w hw => by ((try dsimp only at hw); go_split_ands; go_simp; with_reducible rfl)⟩) (by assumption) ?_
      try simp only [Act.put, List.setIfInBounds_toArray, List.set_cons_zero, List.set_cons_succ]
      refine wpAnyH_take (i := 8) (oi := ⟨some 19, _, _, _, _, _⟩) rfl (by kernel_rfl) (by kernel_rfl) (by kernel_rfl) (fun _ _ _ h => h) (Or.inl ⟨by rfl, fun w hw => by ((try dsimp only at hw); go_split_ands; go_simp; with_reducible rfl)⟩) (by assumption) ?_
      try simp only [Act.put, List.setIfInBounds_toArray, List.set_cons_zero, List.set_cons_succ]
      clear huk hszk hH
      refine wpAnyH_ready (rs := [9]) (by kernel_rfl) (by simp) ?_
      refine AllReadyH.cons rfl (fun K hK => ?_) (AllReadyH.nil)
      go_simp
      go_at_call 60
      refine (leafText_any c.key Av nv kv p.val w3d HKL.out.2 HKL.out.1 (HXV.out.below HB0.out) HNV.out HLV.out).mono ?_
      rintro e w4 ⟨V, rfl, ho4, hb4⟩
      have HB4 : Hid (Below w3.heap.size w3 w4) := HB0.out.trans (hb4.mono HB0.out.size)
      have HO4 : Hid (OwnU w4 w3d.heap.size V (leafT c.key p.val)) := ho4
      have HLD : Hid (w3.heap.size ≤ w3d.heap.size) := HB0.out.size
      obtain ⟨A4, c4, hv4, _⟩ := ho4.form
      subst hv4
      refine hK.out _ _ (HSS.out _ HB4.out) (fun hH => ?_)
      clear hK hb4 ho4
      refine wpAnyH_take (i := 10) (oi := ⟨some 3, _, _, _, _, _⟩) rfl (by kernel_rfl) (by kernel_rfl) (by kernel_rfl) (fun _ _ _ h => h) (Or.inl ⟨by rfl, fun w hw => by ((try dsimp only at hw); go_split_ands; go_simp; with_reducible rfl)⟩) (by assumption) ?_
      try simp only [Act.put, List.setIfInBounds_toArray, List.set_cons_zero, List.set_cons_succ]
      refine wpAnyH_done (by kernel_rfl) ?_ _
      go_wp2_with fail
      go_meet
      case rel => exact ⟨_, _, _, rfl, by rw [hfd]; exact HO4.out.mono (by have := HLD.out; have := HB3.out.size; omega), BlkIs.below HB13.out HB4.out, HB4.out, fun B hB => by have := (HO4.out.lt B hB).1; have := HLD.out; have := HB13.out.lt; omega⟩
  case rest =>
    obtain ⟨A0, m0, k0, rfl, HO, HB1c, HBc, HLc⟩ := hcut
    have HRc : Hid (Ready wc g c p) := HR3.out.below HBc.out
    have HBw : Hid (Below w.heap.size w wc) := HB3.out.trans (HBc.out.mono HB3.out.size)
    clear HB13 HR3 HO3
    go_upto_region 5 with fail
    refine start2 (G := fun w2 => Code.wp _ _ _ _ w2) fun w4 H1 H2 HW4 HS4 => ?_
    have HL4 : Hid (BlkIs w4 wc.heap.size 22 #[.slice A0 m0 k0]) := H1
    have HV4 : Hid (BlkIs w4 (wc.heap.size + 1) 78 #[.slice (some ⟨wc.heap.size, 0, none⟩) 1 1]) := H2
    have HBw4 : Hid (Below w.heap.size w w4) := HBw.out.trans (HW4.out.mono HBw.out.size)
    have HB14 : Hid (BlkIs w4 w.heap.size 53 #[.pointer (some ⟨g, 0, none⟩)]) := BlkIs.below HB1c.out HW4.out
    have HR4 : Hid (Ready w4 g c p) := HRc.out.below HW4.out
    have HO4 : Hid (OwnU w4 w.heap.size (.slice A0 m0 k0) (startT c.key p.found p.val)) := HO.out.below HW4.out
    have HLT : Hid (w.heap.size < wc.heap.size) := HB1c.out.lt
    have HRW : Hid (Rws w4 w.heap.size (.slice (some ⟨wc.heap.size, 0, none⟩) 1 1) [.slice A0 m0 k0] (textP c.wd c.key p)) := by
      refine ⟨row_mono (own_list HL4.out) (Nat.le_of_lt HLT.out), fun i y hy => ?_, fun i y hy B hB hy' => ?_⟩
      · match i, hy with
        | 0, hy =>
          obtain rfl : Value.slice A0 m0 k0 = y := by simpa using hy
          exact HO4.out
        | i + 1, hy => simp at hy
      · match i, hy with
        | 0, hy =>
          obtain rfl : Value.slice A0 m0 k0 = y := by simpa using hy
          injection hB with hB
          have h1 : wc.heap.size = B := hB
          have h2 := (HO.out.lt B hy').2
          omega
        | i + 1, hy => simp at hy
    have HJ4 : Hid (TxJ w.heap.size w.heap.size (wc.heap.size + 1) g (textP c.wd c.key p) 0 (fun B => B = wc.heap.size + 1 ∨ B = w.heap.size ∨ RwsU (.slice (some ⟨wc.heap.size, 0, none⟩) 1 1) [.slice A0 m0 k0] B) w4) :=
      ⟨_, _, HV4.out, HB14.out, HRW.out, rfl, Nat.le_refl _, by have := HLT.out; omega, fun B => Iff.rfl⟩
    have HFar : Hid (Far (fun B => B = wc.heap.size + 1 ∨ B = w.heap.size ∨ RwsU (.slice (some ⟨wc.heap.size, 0, none⟩) 1 1) [.slice A0 m0 k0] B) g c) := HR.out.farNew.mono fun B hB => HJ4.out.ge B hB
    clear H1 H2 HL4 HV4 HO HB1c HBc HLc HRc HO4 HRW
    have hc1 : w4.cell? ⟨w.heap.size, 0, none⟩ = some (.pointer (some ⟨g, 0, none⟩)) := BlkIs.cell HB14.out 0
    refine wp_region_held_drew (S := fun w' => w'.cell? ⟨w.heap.size, 0, none⟩ = some (.pointer (some ⟨g, 0, none⟩))) (by kernel_rfl) hc1 fun hH => ?_
    clear hc1
    have HBd : Hid (Below w4.heap.size w4 w4.drew) := drewN_below (Below.refl _ _) 1
    have HRd : Hid (Ready w4.drew g c p) := HR4.out.below HBd.out
    have HJd := Lib.hid (HJ4.out.keep (Touch.ofBelow HBd.out) fun _ h => h.elim)
    have HBwd : Hid (Below w.heap.size w w4.drew) := HBw4.out.trans (HBd.out.mono HBw4.out.size)
    generalize w4.drew = w5 at *
    refine wpAnyH_take (i := 0) (oi := ⟨some 23, _, _, _, _, _⟩) rfl (by kernel_rfl) (by kernel_rfl) (by kernel_rfl) (fun _ _ _ h => h) (Or.inl ⟨by rfl, fun w hw => by ((try dsimp only at hw); go_split_ands; go_simp; with_reducible rfl)⟩) (by assumption) ?_
    try simp only [Act.put, List.setIfInBounds_toArray, List.set_cons_zero, List.set_cons_succ]
    refine wpAnyH_take (i := 1) (oi := ⟨some 24, _, _, _, _, _⟩) rfl (by kernel_rfl) (by kernel_rfl) (by kernel_rfl) (fun _ _ _ h => h) (Or.inl ⟨by rfl, fun w hw => by ((try dsimp only at hw); go_split_ands; go_simp; with_reducible rfl)⟩) (by assumption) ?_
    try simp only [Act.put, List.setIfInBounds_toArray, List.set_cons_zero, List.set_cons_succ]
    refine wpAnyH_take (i := 3) (oi := ⟨some 26, _, _, _, _, _⟩) rfl (by kernel_rfl) (by kernel_rfl) (by kernel_rfl) (fun _ _ _ h => h) (Or.inl ⟨by rfl, fun w hw => by ((try dsimp only at hw); go_split_ands; go_simp; with_reducible rfl)⟩) (by assumption) ?_
    try simp only [Act.put, List.setIfInBounds_toArray, List.set_cons_zero, List.set_cons_succ]
    clear hH
    refine wpAnyH_ready (rs := [2]) (by kernel_rfl) (by simp) ?_
    refine AllReadyH.cons rfl (fun K hK => ?_) (AllReadyH.nil)
    go_simp
    go_at_call 36
    refine (first_any g c p.val w5 HRd.out.ck HRd.out.ok (HV.out.below HBwd.out) HRd.out.tabs).mono ?_
    rintro e w6 ⟨rfl, hb6⟩
    rw [← HRd.out.found]
    have HR6 : Hid (Ready w6 g c p) := HRd.out.below hb6
    have HJ6 := Lib.hid (HJd.out.keep (Touch.ofBelow hb6) fun _ h => h.elim)
    have HB6 : Hid (Below w.heap.size w w6) := HBwd.out.trans (hb6.mono HBwd.out.size)
    have hcell : w6.cell? ⟨w.heap.size, 0, none⟩ = some (.pointer (some ⟨g, 0, none⟩)) := by
      obtain ⟨_, _, _, h2, _⟩ := HJ6.out
      exact BlkIs.cell h2 0
    refine hK.out _ _ hcell (fun hH => ?_)
    clear hK hb6 hcell HRd HJd
    refine wpAnyH_ready (rs := [4]) (by kernel_rfl) (by simp) ?_
    refine AllReadyH.cons rfl (fun K hK => ?_) (AllReadyH.nil)
    go_simp
    go_at_call 35
    refine (climb_any 61 #[.pointer (some ⟨w.heap.size, 0, none⟩), .pointer (some ⟨wc.heap.size + 1, 0, none⟩)] g c p (nodeD c.wd (startT c.key p.found p.val)) _ _ c.blank w6 (eye_texts w.heap.size w.heap.size (wc.heap.size + 1) g c p) HJ6.out HR6.out HFar.out (nodeD_length _ _) (nodeD_isB _ _)).mono ?_
    rintro e w7 ⟨rfl, U7, b7, hj7, hr7, hnb7, ht7, hnu7, hf7⟩
    have HR7 : Hid (Ready w7 g (c.blanked b7) p) := hr7
    have HNB : Hid (NewB w c.blank b7) := by
      rcases hnb7 with h1 | ⟨B', h1, h2⟩
      · exact .inl h1
      · exact .inr ⟨B', Nat.le_trans HB6.out.size h1, h2⟩
    have HT7 : Hid (Touch (fun B => B = g) w w7) := ((Touch.ofBelow HB6.out).mono fun _ _ h => h.elim).andThen ht7 fun B hB h => by
      rcases h with h | h
      · have := HJ6.out.ge B h
        omega
      · exact h
    obtain ⟨v7, ys7, q1, q2, q3, q4, _, _, _⟩ := hj7
    obtain ⟨v7a, v7n, v7c, e7⟩ := row_form q3.row
    subst e7
    have HQ3 := Lib.hid q3
    have HQ4 := Lib.hid q4
    have hc2 := BlkIs.cell q2 0
    have hc4 : w7.cell? ⟨wc.heap.size + 1, 0, none⟩ = some (.slice v7a v7n v7c) := BlkIs.cell q1 0
    refine hK.out _ _ hc2 (fun hH => ?_)
    clear hK hr7 hnb7 ht7 hnu7 hf7 q1 q2 q3 q4 hc2
    refine wpAnyH_done (by kernel_rfl) ?_ _
    go_wp2_with fail
    go_ret
    exact ⟨_, ys7, b7, rfl, HQ3.out, HQ4.out, HR7.out, HNB.out, HT7.out⟩
end Go.Proofs.YtfnlhfaihoojfaaDoor
