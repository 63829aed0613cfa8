/- client.Path. -/
import Derived.Test.YtfnlhfaihoojfaaDoorTexts
import Derived.Test.YtfnlhfaihoojfaaDoorFr
namespace Go.Proofs.YtfnlhfaihoojfaaDoor
open Go.RowKit
/-- The digests that the watcher has seen. -/
def seenL (ds : Nat → List Nat) : Nat → List Nat
  | 0 => []
  | n + 1 => seenL ds n ++ ds n
def PxJ (base B4 : Nat) (ds : Nat → List Nat) (h : Nat) (U : Nat → Prop) (w : World) : Prop :=
  ∃ v, BlkIs w B4 42 #[v] ∧ w.ownsRow base 29 32 v h (bvs (seenL ds h)) ∧ (∀ B, U B ↔ B = B4 ∨ v.ownBlock = some B) ∧ base ≤ B4 ∧ (∀ B, v.ownBlock = some B → B ≠ B4)
section
variable {base B4 h : Nat} {ds : Nat → List Nat} {U V : Nat → Prop} {w w' : World}
theorem PxJ.lt (hj : PxJ base B4 ds h U w) : ∀ B, U B → B < w.heap.size := fun B hB => by
  obtain ⟨v, h1, h2, h3, _⟩ := hj
  rcases (h3 B).1 hB with rfl | h
  · exact h1.lt
  · exact (row_lt h2 h).2
theorem PxJ.keep (hj : PxJ base B4 ds h U w) (ht : Touch V w w') (hn : ∀ B, V B → ¬ U B) : PxJ base B4 ds h U w' := by
  obtain ⟨v, h1, h2, h3, h4⟩ := hj
  exact ⟨v, ht.blk h1 (fun hV => hn _ hV ((h3 _).2 (.inl rfl))), ht.row h2 (fun B hB hV => hn _ hV ((h3 _).2 (.inr hB))), h3, h4⟩
end
set_option maxRecDepth 20000 in
set_option maxHeartbeats 2000000 in
theorem path1_any (base B4 g : Nat) (ds : Nat → List Nat) (c : Ck) (p : Pr) (h : Nat) (U : Nat → Prop) (b : Value) (w : World) (n : List Nat) (hh : h < 256) (hd : IsB (ds h)) (hdl : (ds h).length = 32)
    (hj : PxJ base B4 ds h U w) (hr : Ready w g (c.blanked b) p) (hf : Far U g (c.blanked b)) :
    Calls Tryd.prog 37 #[.int .i64 h, .agg (bvs (ds h)).toArray, .agg (bvs n).toArray, .pointer (some ⟨B4, 0, none⟩)] w (Eyed g c p (PxJ base B4 ds) h U b w) := by
  have HLTU := Lib.hid hj.lt
  obtain ⟨v, h1, h2, h3, h4, h5⟩ := hj
  have HB := Lib.hid h1
  have HO := Lib.hid h2
  have HU := Lib.hid h3
  have HBA := Lib.hid h4
  have HNE := Lib.hid h5
  have HR := Lib.hid hr
  have HF := Lib.hid hf
  have HD := Lib.hid (And.intro hdl hd)
  have HSL : Hid (seenL ds (h + 1) = seenL ds h ++ ds h) := rfl
  have hhI : (h : Int) < 256 := by omega
  clear hd hdl hr hf h1 h2 h3 h4 h5
  obtain ⟨va, vn, vc, rfl⟩ := row_form HO.out
  obtain ⟨D, hD⟩ : ∃ D, ds h = D := ⟨_, rfl⟩
  rw [hD] at HD HSL ⊢
  clear hD
  go_enter Tryd.func37, Tryd.ntmps37
  go_wp2_with (with_reducible refine stopAt (o := ⟨some 7, _, _, _, _, _⟩) ?_)
  refine start2 (G := fun w2 => Hid (wpList _ _ _ _ _ w2)) fun w2 H1 H2 HW HS => ?_
  have HD2 : Hid (BlkB w2 w.heap.size 29 D) := H1
  have HB2 : Hid (BlkIs w2 B4 42 #[.slice va vn vc]) := BlkIs.below HB.out HW.out
  have HO2 : Hid (w2.ownsRow base 29 32 (.slice va vn vc) h (bvs (seenL ds h))) := (Touch.ofBelow HW.out).row HO.out fun _ _ h => h
  have HBL : Hid (B4 < w.heap.size) := HB.out.lt
  have hc7 := BlkIs.cell HB2.out 0
  clear H1 H2
  refine Lib.hid ?_
  go_wp2_with (first
    | ((with_reducible refine stopAt (o := ⟨some 8, _, _, _, _, _⟩) ?_); refine wpList_load_arr (o := ⟨some 8, _, _, _, _, _⟩) (by rfl) 29 (.tmp 5) rfl ⟨w.heap.size, 0, none⟩ 32 D rfl (HD2.out.whole HD.out.2 HD.out.1) (by omega) (by kernel_rfl) (by kernel_rfl) ?_)
    | ((with_reducible refine stopAt (o := ⟨some 9, _, _, _, _, _⟩) ?_); refine buildSlice1 (o := ⟨some 9, _, _, _, _, _⟩) rfl w2 42 29 _ 32 (.tmp 8) rfl und_dgl info_dig (by decide) (by decide) (bvs D).toArray rfl (by simp [bvs, HD.out.1]) ?_)
    | (with_reducible refine stopAt (o := ⟨some 10, _, _, _, _, _⟩) ?_))
  clear hc7
  have hd1 : (bvs D).length = 32 := by simp [bvs, HD.out.1]
  have hbs : base ≤ w2.heap.size := by have := HBA.out; have := HBL.out; have := HW.out.size; omega
  refine append1D (t := 42) (e := 29) (o := ⟨some 10, _, _, _, _, _⟩) und_dgl info_dig3 (by rfl) w2 (by rfl) (.tmp 7) (.tmp 9) (by rfl) base (.slice va vn vc) h (bvs (seenL ds h)) HO2.out (bvs D) hd1 (fun u hu => bvs_oneCell _ u hu) (by rfl) (by rfl) (by omega) (by omega) hbs ?_
  intro v3 w3 ho3 hg3 hl3
  obtain ⟨s3a, s3n, s3c, e3⟩ := row_form ho3
  subst e3
  have hne : ¬ some B4 = (Value.slice va vn vc).ownBlock := fun e => HNE.out B4 e.symm rfl
  have HB3 : Hid (BlkIs w3 B4 42 #[.slice va vn vc]) := (Touch.grown hg3).blk HB2.out hne
  have HO3 : Hid (w3.ownsRow base 29 32 (.slice s3a s3n s3c) (h + 1) (bvs (seenL ds (h + 1)))) := by
    rw [HSL.out, show bvs (seenL ds h ++ D) = bvs (seenL ds h) ++ bvs D by simp [bvs]]
    exact ho3
  have HT3 : Hid (Touch (fun B => some B = (Value.slice va vn vc).ownBlock) w w3) := ((Touch.ofBelow HW.out).mono fun _ _ h => h.elim).trans (Touch.grown hg3)
  have HL3 : Hid (∀ B, (Value.slice s3a s3n s3c).ownBlock = some B → (Value.slice va vn vc).ownBlock = some B ∨ w2.heap.size ≤ B) := hl3
  have hc10 := BlkIs.cell HB3.out 0
  have hf10 := BlkIs.frozen HB3.out 0
  have HWS : Hid (w.heap.size ≤ w2.heap.size) := HW.out.size
  clear ho3 hg3 hl3 hd1 hbs HB2 HO2 HD2 hne
  go_wp2_with fail
  refine bodyPost_end (results_none rfl _ _ _) rfl ⟨rfl, ?_⟩
  have hne3 : ∀ B, (Value.slice s3a s3n s3c).ownBlock = some B → B ≠ B4 := fun B hB => by
    rcases HL3.out B hB with h | h
    · exact HNE.out B h
    · have := HBL.out; have := HWS.out; omega
  have t4 : Touch (fun B => B = B4) w3 (w3.setCell ⟨B4, 0, none⟩ (.slice s3a s3n s3c)) := Touch.one (grown_setCell w3 0 _)
  have HT4 : Touch U w (w3.setCell ⟨B4, 0, none⟩ (.slice s3a s3n s3c)) := (HT3.out.mono fun B _ e => (HU.out B).2 (.inr e.symm)).trans (t4.mono fun B _ e => (HU.out B).2 (.inl e))
  have HNU : NewU w U (fun B => B = B4 ∨ (Value.slice s3a s3n s3c).ownBlock = some B) := fun B hB => by
    rcases hB with rfl | hB
    · exact .inl ((HU.out _).2 (.inl rfl))
    · rcases HL3.out B hB with h | h
      · exact .inl ((HU.out _).2 (.inr h))
      · exact .inr (Nat.le_trans HWS.out h)
  refine ⟨fun B => B = B4 ∨ (Value.slice s3a s3n s3c).ownBlock = some B, b, ⟨.slice s3a s3n s3c, BlkIs.stored HB3.out 0 _, t4.row HO3.out fun B hB e => hne3 B hB e, fun B => Iff.rfl, HBA.out, hne3⟩, HR.out.far HT4 HF.out, .inl rfl, HT4.mono fun _ _ h => .inl h, HNU, HF.out.same HR.out HNU⟩
theorem eye_path (base B4 g : Nat) (c : Ck) (p : Pr) : Eye 37 #[.pointer (some ⟨B4, 0, none⟩)] g c p (pathD c.wd c.key (nodeD c.wd (startT c.key p.found p.val)) (nearP c.wd p)) (PxJ base B4 (pathD c.wd c.key (nodeD c.wd (startT c.key p.found p.val)) (nearP c.wd p))) where
  enters := entersF Tryd.func37 (by kernel_rfl) (by kernel_rfl)
  lt := fun h B hB => h.lt B hB
  keep := fun h ht hn => h.keep ht hn
  call := fun h U b w hh hj hr hf => by
    have h1 := pathD_facts c.wd c.key (nearP c.wd p) (nodeD_length c.wd (startT c.key p.found p.val)) (nodeD_isB c.wd (startT c.key p.found p.val)) h
    exact path1_any base B4 g _ c p h U b w _ hh h1.2 h1.1 hj hr hf
theorem last_range {w : World} {base g n c : Nat} {L D : List Nat} (h : w.ownsRow base 29 32 (.slice (some ⟨g, 0, none⟩) (n + 1) c) (n + 1) (bvs L ++ bvs D)) (hl : L.length = n * 32) (hd : D.length = 32) : w.rangeAt g (n * 32) (bvs D) := fun j u hj => by
  have hlb : (bvs L).length = n * 32 := by simp [bvs, hl]
  have hj32 : j < 32 := by
    have := (List.getElem?_eq_some_iff.1 hj).1
    simpa [bvs, hd] using this
  rw [World.ownsRow.cellAt h _ (by omega), List.getElem?_append_right (by omega), hlb, Nat.add_sub_cancel_left, hj]
theorem seen_length {ds : Nat → List Nat} (h : ∀ n, (ds n).length = 32) (n : Nat) : (seenL ds n).length = n * 32 := by
  induction n with
  | zero => rfl
  | succ n ih => rw [seenL, List.length_append, ih, h]; omega
set_option maxRecDepth 20000 in
set_option maxHeartbeats 4000000 in
theorem path_ok (wd : Int) (ks xs : List Nat) (A : Option Addr) (n k : Nat) (w : World) (p : Pr) (hk : ks.length = 32) (hkB : IsB ks) (hx : RB w A n xs) (hlt : ∀ ad, A = some ad → ad.block < w.heap.size) (hnc : n ≤ k) (hA : A = none → k = 0) (hkm : k ≤ maxLen) (hn : n ≤ 140737488355328) (ht : Tabs w)
    (hw : ¬ (wd < 1 ∨ 32 < wd)) (hp : decN xs = some p) (hf : formP wd p 256 = 0) :
    Calls Tryd.prog 14 #[.int .i64 wd, .agg (bvs ks).toArray, .slice A n k] w fun e w' => Below w.heap.size w w' ∧ ∃ g c, e = .returned (.tuple #[.slice (some ⟨g, 0, none⟩) 257 c, .int .i64 0]) ∧ g < w'.heap.size ∧ w'.rangeAt g (256 * 32) (bvs (pathP wd ks p 256)) := by
  have HKL := Lib.hid (And.intro hk hkB)
  have HX := Lib.hid hx
  have HLT := Lib.hid hlt
  have HNC := Lib.hid (And.intro hnc (And.intro hA (And.intro hkm hn)))
  have HT := Lib.hid ht
  have HPD := Lib.hid (And.intro hp hf)
  have HER : Hid (errF wd xs = 0) := by show _ = _; rw [errF_some hw hp]; exact hf
  clear hk hkB hx hlt hnc hA hkm hn ht hw hp hf
  go_enter Tryd.func14, Tryd.ntmps14
  go_wp2_with (with_reducible refine stopAt (o := ⟨some 13, _, _, _, _, _⟩) ?_)
  refine start1 (G := fun w2 => Hid (wpList _ _ _ _ _ w2)) fun w2 H1 HW HS => ?_
  have HK2 : Hid (BlkB w2 w.heap.size 31 ks) := H1
  clear H1
  refine Lib.hid ?_
  go_wp2_with (first
    | ((with_reducible refine stopAt (o := ⟨some 13, _, _, _, _, _⟩) ?_); refine wpList_load_arr (o := ⟨some 13, _, _, _, _, _⟩) (by rfl) 31 (.tmp 4) rfl ⟨w.heap.size, 0, none⟩ 32 ks rfl (HK2.out.whole HKL.out.2 HKL.out.1) (by omega) (by kernel_rfl) (by kernel_rfl) ?_)
    | (refine buildAt (o := ⟨some 15, _, _, _, _, _⟩) (by rfl) 59 #[(0, .tmp 12), (1, .tmp 13), (2, .tmp 14)] rfl [(0, .int .i64 wd), (1, .agg (bvs ks).toArray), (2, .slice A n k)] (by simp [go_sem]) _ (built_ckP wd ks _ HKL.out.1 rfl) ?_)
    | (with_reducible refine stopAt (o := ⟨some 18, _, _, _, _, _⟩) ?_))
  refine start1 (G := fun w3 => Hid (wpList _ _ _ _ _ w3)) fun w3 H1 HW3 HS3 => ?_
  have HC3 : Hid (CkIs w3 w2.heap.size (newCk wd ks (.slice A n k) (zs 32))) := H1
  have HB3 : Hid (Below w.heap.size w w3) := HW.out.trans (HW3.out.mono HW.out.size)
  have HG : Hid (w.heap.size ≤ w2.heap.size) := HW.out.size
  clear H1
  refine Lib.hid ?_
  go_wp2_with fail
  refine start1 (G := fun w4 => Calls _ _ _ w4 _) fun w4 H1 HW4 HS4 => ?_
  have HC4 : Hid (CkIs w4 w2.heap.size (newCk wd ks (.slice A n k) (zs 32))) := BlkIs.below HC3.out HW4.out
  have HB4 : Hid (Below w.heap.size w w4) := HB3.out.trans (HW4.out.mono HB3.out.size)
  have HX4 : Ctx w4 w2.heap.size xs A n k := by
    have h1 := HT.out.lt
    have h2 := HG.out
    exact ⟨HT.out.below (HB4.out), by omega, by omega, HC4.out.lt, HX.out.below HB4.out, fun ad e => ⟨by have := HLT.out ad e; have := HB4.out.size; omega, by have := HLT.out ad e; omega⟩, HNC.out.1, HNC.out.2.1, HNC.out.2.2.1, HNC.out.2.2.2⟩
  have HGG : Hid (w3.heap.size ≠ w2.heap.size ∧ w3.heap.size < w4.heap.size) := by have h3 := HC3.out.lt; have h4 := HS4.out; show _ ∧ _; omega
  have HSC : Hid (∀ j, j < 3 → w4.cell? ⟨w3.heap.size, j, none⟩ = some (.func (.func (stepsK j)) #[.pointer (some ⟨w2.heap.size, 0, none⟩)] #[])) := fun j hj => by
    rw [BlkIs.cell H1.out j]
    match j, hj with
    | 0, _ => rfl
    | 1, _ => rfl
    | 2, _ => rfl
  have HS0 : Hid (Stage w4 w2.heap.size wd ks (zs 32) xs A n k 0 w4) := ⟨newCk wd ks (.slice A n k) (zs 32), HC4.out, newCk_ok HKL.out.1 HKL.out.2 (zs_length 32) (zs_isB 32), rfl, rfl, rfl, rfl, .inl rfl, Touch.refl _ _⟩
  have HCX := Lib.hid HX4
  clear H1 HX4 HC3 HC4
  refine (steps3 HCX.out HGG.out.1 HGG.out.2 HSC.out HS0.out).mono ?_
  rintro e w5 ⟨r, rfl, h0, h1⟩
  have hr0 : r = 0 := Classical.byContradiction fun h => by
    obtain ⟨e, _⟩ := h1 h
    rw [HER.out] at e
    exact h e
  subst hr0
  obtain ⟨_, c, p', hst, hp', hrd, hov, _⟩ := h0 rfl
  have hpe : p = p' := Option.some.inj (HPD.out.1.symm.trans hp')
  subst hpe
  have HRD := Lib.hid hrd
  have HVI : Hid (ValIs w5 c.v p.val) := valIs_own hov hrd.pok.vl
  have HCW := Lib.hid (And.intro hst.wdE hst.keyE)
  have HB5 : Hid (Below w.heap.size w w5) := hst.tch.toBelow HB4.out HB4.out.size fun B hB => by rw [hB]; exact HG.out
  clear h0 h1 hst hp' hrd hov HSC HS0 HCX HGG
  go_wp2_with fail
  refine start1 (G := fun w6 => Calls _ _ _ w6 _) fun w6 H1 HW6 HS6 => ?_
  have HB46 : Hid (BlkIs w6 w5.heap.size 42 #[.slice none 0 0]) := H1
  have HR6 : Hid (Ready w6 w2.heap.size c p) := HRD.out.below HW6.out
  have HFR : Hid (Far (fun B => B = w5.heap.size) w2.heap.size c) := HRD.out.farNew.mono fun B e => by rw [e]; exact Nat.le_refl _
  have HB6 : Hid (Below w.heap.size w w6) := HB5.out.trans (HW6.out.mono HB5.out.size)
  clear H1 HRD
  refine (first_any w2.heap.size c p.val w6 HR6.out.ck HR6.out.ok (HVI.out.below HW6.out) HR6.out.tabs).mono ?_
  rintro e w7 ⟨rfl, hb7⟩
  have HR7 : Hid (Ready w7 w2.heap.size c p) := HR6.out.below hb7
  have HB47 : Hid (BlkIs w7 w5.heap.size 42 #[.slice none 0 0]) := BlkIs.below HB46.out hb7
  have HB7 : Hid (Below w.heap.size w w7) := HB6.out.trans (hb7.mono HB6.out.size)
  have HEY := Lib.hid (eye_path w5.heap.size w5.heap.size w2.heap.size c p)
  have HPE : Hid (pathP wd ks p = pathD c.wd c.key (nodeD c.wd (startT c.key p.found p.val)) (nearP c.wd p)) := by
    show _ = _
    rw [HCW.out.1, HCW.out.2]
    funext j
    rfl
  rw [HR6.out.found] at HEY HPE
  clear hb7 HB46 HR6 HVI
  go_wp2_with fail
  refine (climb_any 37 #[.pointer (some ⟨w5.heap.size, 0, none⟩)] w2.heap.size c p (nodeD c.wd (startT c.key c.f p.val)) _ (fun B => B = w5.heap.size) c.blank w7 HEY.out ⟨.slice none 0 0, HB47.out, World.ownsRow_nil _ _ _ _, fun B => by simp [Value.ownBlock], Nat.le_refl _, fun B hB => by cases hB⟩ HR7.out HFR.out (nodeD_length _ _) (nodeD_isB _ _)).mono ?_
  rintro e w8 ⟨rfl, U8, b8, ⟨v8, hb8, ho8, _, _, hn8⟩, hr8, _, ht8, _, _⟩
  rw [← HPE.out] at ho8 ⊢
  obtain ⟨va, vn, vc, rfl⟩ := row_form ho8
  have HPL : Hid ((pathP wd ks p 256).length = 32 ∧ IsB (pathP wd ks p 256)) := by
    show _ ∧ _
    rw [pathP_text]
    exact ⟨nodeD_length _ _, nodeD_isB _ _⟩
  have HBB8 : Hid (BlkIs w8 w5.heap.size 42 #[.slice va vn vc]) := hb8
  have HO8 := Lib.hid ho8
  have HGE : Hid (w.heap.size ≤ w5.heap.size) := HB5.out.size
  have HB8 : Hid (Below w.heap.size w w8) := ht8.toBelow HB7.out HB7.out.size fun B hB => by
    rcases hB with h | h
    · rw [h]; exact HGE.out
    · rw [h]; exact HG.out
  have HSL : Hid ((seenL (pathP wd ks p) 256).length = 256 * 32) := by show _ = _; have := ho8.1; simpa [bvs] using this
  have HGL8 : Hid (w5.heap.size < w8.heap.size) := HBB8.out.lt
  clear hb8 ho8 hr8 ht8 hn8 HEY HPE HFR HR7 HB47
  generalize seenL (pathP wd ks p) 256 = L at *
  obtain ⟨D, HDE⟩ : ∃ D, Hid (pathP wd ks p 256 = D) := ⟨_, rfl⟩
  rw [HDE.out] at HPL ⊢
  go_wp2_with (first
    | ((with_reducible refine stopAt (o := ⟨some 11, _, _, _, _, _⟩) ?_); refine allocNew (o := ⟨some 11, _, _, _, _, _⟩) (by rfl) 29 rfl _ _ info_dig ?_; intro w9 HE9 HW9 HS9)
    | ((with_reducible refine stopAt (o := ⟨none, .store _ (.tmp 11) _, _, _, _, _⟩) ?_); refine wpList_store_part (o := ⟨none, _, _, _, _, _⟩) (by rfl) 29 (.tmp 11) (.tmp 32) rfl 0 [] (bvs (zs 32)) (bvs D) [] rfl rfl (blk_in HE9.out) rfl (by simp [bvs, zs, HPL.out.1]) (by rw [size_dig]; simp [bvs, HPL.out.1]) (fun u hu => bvs_oneCell _ u hu) ?_; intro w10 h10 g10; have HB10 : Hid (Below w8.heap.size w8 w10) := HW9.out.grown g10 HW9.out.size (fun k hk => by injection hk with hk; omega); have HC10 : Hid (BlkIs w10 w5.heap.size 42 #[.slice va vn vc]) := BlkIs.below HBB8.out HB10.out; have HD10 : Hid (BlkB w10 w8.heap.size 29 D) := blk_out h10; have hc33 := BlkIs.cell HC10.out 0)
    | ((with_reducible refine stopAt (o := ⟨some 34, _, _, _, _, _⟩) ?_); refine wpList_load_arr (o := ⟨some 34, _, _, _, _, _⟩) (by rfl) 29 (.tmp 11) rfl ⟨w8.heap.size, 0, none⟩ 32 D rfl (HD10.out.whole HPL.out.2 HPL.out.1) (by omega) (by kernel_rfl) (by kernel_rfl) ?_)
    | ((with_reducible refine stopAt (o := ⟨some 35, _, _, _, _, _⟩) ?_); refine buildSlice1 (o := ⟨some 35, _, _, _, _, _⟩) rfl w10 42 29 _ 32 (.tmp 34) rfl und_dgl info_dig (by decide) (by decide) (bvs D).toArray rfl (by simp [bvs, HPL.out.1]) ?_)
    | (with_reducible refine stopAt (o := ⟨some 36, _, _, _, _, _⟩) ?_))
  have hd1 : (bvs D).length = 32 := by simp [bvs, HPL.out.1]
  have HO10 : Hid (w10.ownsRow w5.heap.size 29 32 (.slice va vn vc) 256 (bvs L)) := (Touch.ofBelow HB10.out).row HO8.out fun _ _ h => h
  have hbs : w5.heap.size ≤ w10.heap.size := by have := HGL8.out; have := HB10.out.size; omega
  refine append1D (t := 42) (e := 29) (o := ⟨some 36, _, _, _, _, _⟩) und_dgl info_dig3 (by rfl) w10 (by rfl) (.tmp 33) (.tmp 35) (by rfl) w5.heap.size (.slice va vn vc) 256 (bvs L) HO10.out (bvs D) hd1 (fun u hu => bvs_oneCell _ u hu) (by rfl) (by rfl) (by omega) (by omega) hbs ?_
  intro v11 w11 ho11 hg11 _
  obtain ⟨g, cc, rfl, hgg, hgl, -⟩ := own_head ho11 (Nat.succ_pos 256)
  have HR11 : Hid (w11.rangeAt g (256 * 32) (bvs D)) := last_range ho11 HSL.out HPL.out.1
  have HB11 : Hid (Below w.heap.size w w11) := (HB8.out.trans (HB10.out.mono HB8.out.size)).grown hg11 (Nat.le_trans HB8.out.size HB10.out.size) fun k hk => by have := (row_lt HO8.out hk).1; have := HGE.out; omega
  have HGL := Lib.hid hgl
  clear ho11 hg11 hgg hgl hd1 hbs HO10 HD10 HC10 HB10 hc33 h10 g10 HE9 HW9 HS9
  go_wp2_with fail
  go_ret2
  first
    | exact ⟨HB11.out, g, cc, rfl, HGL.out, HR11.out⟩
    | exact ⟨HB11.out, g, cc, rfl, HGL.out, by rw [HDE.out]; exact HR11.out⟩
end Go.Proofs.YtfnlhfaihoojfaaDoor
