/- ledgerlaw1.DigestSums: the walk. -/
import Derived.Test.YtadhjgopekekgaaDoorIntact
import Derived.Test.YtadhjgopekekgaaDoorLawNames
import Derived.Deep.RegionHeld3
import Derived.BigQuiet
namespace Go.Proofs.YtadhjgopekekgaaDoor
open Go.RowKit
theorem rb_range {w : World} {b o n : Nat} {xs : List Nat} (h : RB w (some ⟨b, o, none⟩) n xs) (h0 : 0 < n) : w.rangeAt b o (bvs xs) := fun j v hv => by
  obtain ⟨ad, e, _, hc⟩ := h.2.2 h0
  injection e with e
  subst e
  simp only [bvs, List.getElem?_map, Option.map_eq_some_iff] at hv
  obtain ⟨y, hy, rfl⟩ := hv
  have := hc j y hy
  rwa [add_lit] at this
/-- One digest stands, and what is below is as it was. -/
abbrev K1 (w0 : World) (b o : Nat) (xs : List Nat) (w' : World) : Prop := w'.rangeAt b o (bvs xs) ∧ RB w' (some ⟨b, o, none⟩) 32 xs ∧ Below w0.heap.size w0 w'
theorem K1.below {w0 w w' : World} {b o : Nat} {xs : List Nat} (h : K1 w0 b o xs w) (hb : Below w.heap.size w w') : K1 w0 b o xs w' :=
  ⟨rb_range (h.2.1.below hb) (by omega), h.2.1.below hb, h.2.2.trans (hb.mono h.2.2.size)⟩
theorem K1.mk {w0 w : World} {b o : Nat} {xs : List Nat} (h : RB w (some ⟨b, o, none⟩) 32 xs) (hb : Below w0.heap.size w0 w) : K1 w0 b o xs w := ⟨rb_range h (by omega), h, hb⟩
theorem front_reads {w : World} {g n : Nat} {xs : List Nat} {t : TypeId} (h : BlkB w g t (xs ++ m80)) (hB : IsB xs) (hl : xs.length = n) : RB w (some ⟨g, 0, none⟩) n xs := by
  have hB2 : IsB (xs ++ m80) := hB.app (fun x hx => by have := (List.mem_replicate.1 hx).2; omega)
  have h1 := h.reads hB2 (o := 0) (n := n) (by rw [List.length_append]; omega)
  rwa [List.drop_zero, List.take_append_of_le_length (by omega), List.take_of_length_le (by omega)] at h1
def fl (xs : List Nat) : List Nat := xs.map (· ^^^ 255)
theorem fl_length (xs : List Nat) : (fl xs).length = xs.length := by simp [fl]
theorem fl_isB {xs : List Nat} (h : IsB xs) : IsB (fl xs) := by
  intro x hx
  simp only [fl, List.mem_map] at hx
  obtain ⟨y, hy, rfl⟩ := hx
  exact xor_lt8 (h y hy) (by omega)
theorem fl_at (xs : List Nat) {k : Nat} (h : k < xs.length) : (fl xs).getD k 0 = xs.getD k 0 ^^^ 255 := by
  simp [fl, List.getD, h]
/-- The first k letters of ys, those of xs behind them. -/
def mixK (ys xs : List Nat) (k : Nat) : List Nat := ys.take k ++ xs.drop k
theorem mixK_length {ys xs : List Nat} (h : ys.length = xs.length) (k : Nat) : (mixK ys xs k).length = xs.length := by
  simp only [mixK, List.length_append, List.length_take, List.length_drop]; omega
theorem mixK_at {ys xs : List Nat} (h : ys.length = xs.length) {k : Nat} (hk : k < xs.length) : (mixK ys xs k).getD k 0 = xs.getD k 0 := by
  unfold mixK
  simp only [List.getD]
  rw [List.getElem?_append_right (by rw [List.length_take]; omega), List.length_take, show k - min k ys.length = 0 by omega, List.getElem?_drop]
  rfl
theorem mixK_next {ys xs : List Nat} (h : ys.length = xs.length) {k : Nat} (hk : k < xs.length) : (mixK ys xs k).set k (ys.getD k 0) = mixK ys xs (k + 1) := by
  unfold mixK
  rw [List.set_append_right _ _ (by rw [List.length_take]; omega), List.length_take, show k - min k ys.length = 0 by omega, take_succ_getD (by omega), List.append_assoc]
  congr 1
  rw [List.drop_eq_getElem_cons (show k < xs.length by omega)]
  rfl
theorem mixK_zero (ys xs : List Nat) : mixK ys xs 0 = xs := by simp [mixK]
theorem mixK_end {ys xs : List Nat} (h : ys.length = xs.length) {k : Nat} (hk : k = xs.length) : mixK ys xs k = ys := by
  unfold mixK
  rw [List.take_of_length_le (by omega), List.drop_of_length_le (by omega), List.append_nil]
theorem mixK_isB {ys xs : List Nat} (h1 : IsB ys) (h2 : IsB xs) (k : Nat) : IsB (mixK ys xs k) := (h1.take k).app (h2.drop k)
theorem m80_at {xs : List Nat} {k : Nat} (hk : k < xs.length) : (xs ++ m80).getD k 0 = xs.getD k 0 := by
  simp only [List.getD]
  rw [List.getElem?_append_left hk]
theorem m80_set {xs : List Nat} {k : Nat} (x : Nat) (hk : k < xs.length) : (xs ++ m80).set k x = xs.set k x ++ m80 := List.set_append_left _ _ hk
set_option maxRecDepth 100000 in
set_option maxHeartbeats 8000000 in
theorem digsums_walk (A : Option Addr) (n c : Nat) (xs : List Nat) (w : World) (hx : RB w A n xs) (hA : A = none → c = 0) (hn : n ≤ 140737488351232) (ht : Tabs w) (ht1 : Tabs1 w) :
    Calls Tryd.prog 4 #[.slice A n c] w fun e w' => e = .returned (.bool true) ∧ Below w.heap.size w w' := by
  have he : Hid (∀ (xs : List Nat) (w : World), (Op.equalIn 10000 23 (.agg (bvs (shaN xs)).toArray) (.agg (bvs (shaN xs)).toArray)).run Tryd.prog w = .ok true w) := fun xs w => dig_same w (shaN_isB xs) (shaN_length xs)
  have HX := Lib.hid hx
  have HA := Lib.hid hA
  have HT := Lib.hid ht
  have HT1 := Lib.hid ht1
  have hlx := hx.1
  have HLX := Lib.hid hlx
  have HXB := Lib.hid hx.isB
  clear hx hA ht ht1 hlx
  go_enter Tryd.func4, Tryd.ntmps4
  go_wp2_with fail
  refine (roomy1_any A n c xs w HX.out (by omega)).mono ?_
  rintro e w1 ⟨gl, rfl, hgl, hbl, hb⟩
  have HL1 := Lib.hid hbl
  have HB1 := Lib.hid hb
  clear hb hbl
  go_wp2_with fail
  refine (dsum_any (some ⟨gl, 0, none⟩) n (n + 80) xs w1 (front_reads HL1.out HXB.out HLX.out) (by omega) (by omega) (HT.out.below HB1.out)).mono ?_
  rintro e w2 ⟨rfl, hb⟩
  have HL2 := Lib.hid (BlkIs.below HL1.out hb)
  have HB2 := Lib.hid (HB1.out.trans (hb.mono HB1.out.size))
  clear hb
  obtain ⟨D, HD⟩ : ∃ D, Hid (∀ _ : Nat, shaN xs = D) := ⟨_, fun _ => rfl⟩
  have HD0 := HD
  have HDL : Hid (∀ _ : Nat, D.length = 32) := fun _ => by rw [← HD.out 0, shaN_length]
  have HDB : Hid (IsB D) := by
    rw [← HD.out 0]
    exact shaN_isB xs
  rw [HD.out 0]
  go_wp2_with (first
    | ((with_reducible refine stopAt (o := ⟨some 5, _, _, _, _, _⟩) ?_); refine allocNew (o := ⟨some 5, _, _, _, _, _⟩) (by rfl) 23 rfl _ _ info_dig ?_; intro w3 HD3 HW3 HS3; (try simp only [Act.put, List.setIfInBounds_toArray, List.set_cons_zero, List.set_cons_succ]))
    | ((with_reducible refine stopAt (o := ⟨none, .store _ (.tmp 5) _, _, _, _, _⟩) ?_); refine storeA (o := ⟨none, _, _, _, _, _⟩) (by rfl) 23 (.tmp 5) (.tmp 16) rfl w2.heap.size 32 D (zs 32) 23 rfl rfl HD3.out size_dig (HDL.out 0) (zs_length 32) w2.heap.size w2 HW3.out (Nat.le_refl _) ?_; intro w4 HD4 HW4; have HW4 := Lib.hid HW4))
  have HL4 := Lib.hid (BlkIs.below HL2.out HW4.out)
  have HB4 := Lib.hid (HB2.out.trans (HW4.out.mono HB2.out.size))
  have HR4 := Lib.hid (HD4.out.whole HDB.out (HDL.out 0))
  have hg24 : w2.heap.size < w4.heap.size := BlkIs.lt HD4.out
  have hgl2 : gl < w2.heap.size := BlkIs.lt HL2.out
  clear HL1 HB1 HL2 HD3 HW3 HS3 HW4
  have he1 : ∀ w, (Op.equalIn 10000 23 (.agg (bvs D).toArray) (.agg (bvs D).toArray)).run Tryd.prog w = .ok true w := fun w => by rw [← HD.out 0]; exact he.out xs w
  have hu := Tryd.underlying23
  have hsz : (Tryd.prog.info? 23).map (·.size) = some (bvs D).length := by rw [size_dig]; simp [bvs, HDL.out 0]
  generalize w2.heap.size = gd at *
  go_wp2_with fail
  rename_i KK hKK
  have HKK := Lib.hid hKK
  clear hKK
  refine wp_region_held_drew (S := fun w' => w'.rangeAt gd 0 (bvs D) ∧ RB w' (some ⟨gd, 0, none⟩) 32 D ∧ Below w4.heap.size w4 w') (by kernel_rfl) (K1.below (K1.mk HR4.out (Below.refl _ _)) (drewN_below (Below.refl _ _) 1)) fun hH => ?_
  refine wpAnyH_take (i := 0) (oi := ⟨some 17, _, _, _, _, _⟩) rfl (by kernel_rfl) (by kernel_rfl) (by kernel_rfl) (fun _ _ _ h => h) (yieldsIf_load_mid (by rfl) _ _ rfl _ _ rfl _ _ (fun w hw => by (try dsimp only at hw); go_split_ands; assumption) (by assumption) rfl (by assumption)) (by assumption) ?_
  try simp only [Act.put, List.setIfInBounds_toArray, List.set_cons_zero, List.set_cons_succ]
  refine wpAnyH_take (i := 1) (oi := ⟨some 18, _, _, _, _, _⟩) rfl (by kernel_rfl) (by kernel_rfl) (by kernel_rfl) (fun _ _ _ h => h) (Or.inl ⟨by rfl, fun w hw => by (try dsimp only at hw); go_simp; with_reducible rfl⟩) (by assumption) ?_
  try simp only [Act.put, List.setIfInBounds_toArray, List.set_cons_zero, List.set_cons_succ]
  refine wpAnyH_ready (rs := [2]) (by kernel_rfl) (by simp) ?_
  refine AllReadyH.cons rfl (fun K hK => ?_) (AllReadyH.nil)
  go_simp
  go_at_call 11
  refine (refdig_any A n c xs _ (HX.out.below (HB4.out.trans (hH.2.2.mono HB4.out.size))) HA.out (by omega) (HT1.out.below (HB4.out.trans (hH.2.2.mono HB4.out.size)))).mono ?_
  rintro e w5 ⟨rfl, hb⟩
  rw [HD.out 0]
  refine hK.out _ _ (K1.below (by assumption) hb) (fun hH5 => ?_)
  clear hb hK hH
  refine wpAnyH_take (i := 3) (oi := ⟨some 20, _, _, _, _, _⟩) rfl (by kernel_rfl) (by kernel_rfl) (by kernel_rfl) (fun _ _ _ h => h) (Or.inl ⟨by rfl, fun w hw => by (try dsimp only at hw); go_simp; with_reducible rfl⟩) (by assumption) ?_
  try simp only [Act.put, List.setIfInBounds_toArray, List.set_cons_zero, List.set_cons_succ]
  refine wpAnyH_take (i := 4) (oi := ⟨some 21, _, _, _, _, _⟩) rfl (by kernel_rfl) (by kernel_rfl) (by kernel_rfl) (fun _ _ _ h => h) (Or.inl ⟨by rfl, fun w hw => by (try dsimp only at hw); go_simp; with_reducible rfl⟩) (by assumption) ?_
  try simp only [Act.put, List.setIfInBounds_toArray, List.set_cons_zero, List.set_cons_succ]
  refine wpAnyH_take (i := 5) (oi := ⟨some 22, _, _, _, _, _⟩) rfl (by kernel_rfl) (by kernel_rfl) (by kernel_rfl) (fun _ _ _ h => h) (Or.inl ⟨by rfl, fun w hw => by (try dsimp only at hw); go_simp; with_reducible rfl⟩) (by assumption) ?_
  try simp only [Act.put, List.setIfInBounds_toArray, List.set_cons_zero, List.set_cons_succ]
  refine wpAnyH_take (i := 6) (oi := ⟨some 23, _, _, _, _, _⟩) rfl (by kernel_rfl) (by kernel_rfl) (by kernel_rfl) (fun _ _ _ h => h) (Or.inl ⟨by rfl, fun w hw => by (try dsimp only at hw); go_simp; with_reducible rfl⟩) (by assumption) ?_
  try simp only [Act.put, List.setIfInBounds_toArray, List.set_cons_zero, List.set_cons_succ]
  refine wpAnyH_ready (rs := [7]) (by kernel_rfl) (by simp) ?_
  refine AllReadyH.cons rfl (fun K hK => ?_) (AllReadyH.nil)
  go_simp
  go_at_call 12
  refine (intact_true gl A n c xs _ (BlkIs.below (BlkIs.below HL4.out hH5.2.2) (Below.refl _ _)) (HX.out.below (HB4.out.trans (hH5.2.2.mono HB4.out.size))) (by omega)).mono ?_
  rintro e w6 ⟨rfl, q, hq⟩
  have hb : Below w5.heap.size w5 w6 := by rw [hq]; exact drewN_below (Below.refl _ _) q
  clear hq
  refine hK.out _ _ (K1.below (by assumption) hb) (fun hH6 => ?_)
  clear hb hK hH5
  refine wpAnyH_take (i := 8) (oi := ⟨some 25, _, _, _, _, _⟩) rfl (by kernel_rfl) (by kernel_rfl) (by kernel_rfl) (fun _ _ _ h => h) (Or.inl ⟨by rfl, fun w hw => by (try dsimp only at hw); go_simp; with_reducible rfl⟩) (by assumption) ?_
  try simp only [Act.put, List.setIfInBounds_toArray, List.set_cons_zero, List.set_cons_succ]
  refine wpAnyH_take (i := 9) (oi := ⟨some 26, _, _, _, _, _⟩) rfl (by kernel_rfl) (by kernel_rfl) (by kernel_rfl) (fun _ _ _ h => h) (Or.inl ⟨by rfl, fun w hw => by (try dsimp only at hw); go_simp; with_reducible rfl⟩) (by assumption) ?_
  try simp only [Act.put, List.setIfInBounds_toArray, List.set_cons_zero, List.set_cons_succ]
  refine wpAnyH_done (by kernel_rfl) ?_ _
  change KK _ _
  have HB6 := Lib.hid (HB4.out.trans (hH6.2.2.mono HB4.out.size))
  have HL6 := Lib.hid (BlkIs.below HL4.out hH6.2.2)
  have HD6 := Lib.hid (BlkIs.below HD4.out hH6.2.2)
  clear hH6 hu hsz he1 HR4 HL4 HB4 HD4 hg24
  refine HKK.out _ _ ?_
  clear HKK
  go_wp2_with fail
  refine (copied_any A n c xs w6 (HX.out.below HB6.out) HA.out (by omega)).mono ?_
  rintro e w7 ⟨v7, rfl, hown, hb⟩
  have HO7 : Hid (OwnU w7 w6.heap.size v7 xs) := hown
  obtain ⟨A7, c7, rfl, _⟩ := hown.form
  rw [HLX.out] at HO7
  rw [HLX.out]
  have HB7 := Lib.hid (HB6.out.trans (hb.mono HB6.out.size))
  have HL7 := Lib.hid (BlkIs.below HL6.out hb)
  have HD7 := Lib.hid (BlkIs.below HD6.out hb)
  have hgd6 : gd < w6.heap.size := BlkIs.lt HD6.out
  have hw6 : w.heap.size ≤ w6.heap.size := HB6.out.size
  clear hb hown HB6 HL6 HD6
  generalize w6.heap.size = base at *
  go_wp2_with fail
  go_loopw [7] (fun i wr => ∃ k : Nat, k ≤ n ∧ i = .int .i64 k ∧ Hid (OwnU wr base (.slice A7 n c7) (mixK (fl xs) xs k)) ∧ Hid (BlkB wr gl 5 (mixK (fl xs) xs k ++ m80)) ∧ Hid (BlkB wr gd 23 D) ∧ Hid (Below w.heap.size w wr)) (fun i _ => n - (intOf i).toNat)
  case atStart => exact ⟨0, by omega, rfl, by rw [mixK_zero]; exact HO7.out, by rw [mixK_zero]; exact HL7.out, HD7.out, HB7.out⟩
  case round =>
    clear HO7 HL7 HD7 HB7
    obtain ⟨k, hk, rfl, HO, HL, HD, HB⟩ := hrel
    obtain ⟨w8, rfl⟩ : ∃ w8, w8 = wr := ⟨_, rfl⟩
    by_cases hlt : k < n
    · have hml : (mixK (fl xs) xs k).length = n := by rw [mixK_length (fl_length xs), HLX.out]
      obtain ⟨g7, c', e', hg7, _, hfr, hcell⟩ := HO.out.shape (by omega)
      injection e' with e1 _ e3
      subst e1 e3
      have hc := hcell k (by omega)
      have hf := hfr k
      rw [mixK_at (fl_length xs) (by rw [HLX.out]; exact hlt)] at hc
      have hx8 : xs.getD k 0 < 256 := byteAt HXB.out k
      have hxor : bits .xor .u8 ((xs.getD k 0 : Nat) : Int) 255 = ((xs.getD k 0 ^^^ 255 : Nat) : Int) := xor8 _ 255 hx8 (by omega)
      have cl := HL.out.cell (i := k) (by rw [List.length_append, hml]; omega)
      have fl' := BlkIs.frozen HL.out k
      have hlk : k < (mixK (fl xs) xs k).length := by omega
      have hset := HO.out
      unfold OwnU at hset
      rw [← hml] at hset
      have hset2 := hset.set k (xs.getD k 0 ^^^ 255) (xor_lt8 hx8 (by omega))
      rw [← fl_at xs (by rw [HLX.out]; exact hlt), mixK_next (fl_length xs) (by rw [HLX.out]; exact hlt), hml, fl_at xs (by rw [HLX.out]; exact hlt)] at hset2
      have hfar : BlkB (w8.setCell ⟨g7, k, none⟩ (.int .u8 ((xs.getD k 0 ^^^ 255 : Nat) : Int))) gl 5 (mixK (fl xs) xs k ++ m80) := BlkIs.far HL.out (by show gl ≠ g7; omega) _
      have hlset := BlkB.set hfar k (xs.getD k 0 ^^^ 255)
      rw [m80_set _ hlk, ← fl_at xs (by rw [HLX.out]; exact hlt), mixK_next (fl_length xs) (by rw [HLX.out]; exact hlt), fl_at xs (by rw [HLX.out]; exact hlt)] at hlset
      have hgl7 : gl ≠ g7 := by omega
      have hgd7 : gd ≠ g7 := by omega
      have hgdl : gd ≠ gl := by omega
      have HO9 : Hid (OwnU ((w8.setCell ⟨g7, k, none⟩ (.int .u8 ((xs.getD k 0 ^^^ 255 : Nat) : Int))).setCell ⟨gl, k, none⟩ (.int .u8 ((xs.getD k 0 ^^^ 255 : Nat) : Int))) base (.slice (some ⟨g7, 0, none⟩) n c7) (mixK (fl xs) xs (k + 1))) :=
        hset2.kept (grown_setCell _ (g := gl) k _) (.inr (fun e => by injection e with e; exact hgl7 e.symm))
      have HL9 := Lib.hid hlset
      have HD9 : Hid (BlkB ((w8.setCell ⟨g7, k, none⟩ (.int .u8 ((xs.getD k 0 ^^^ 255 : Nat) : Int))).setCell ⟨gl, k, none⟩ (.int .u8 ((xs.getD k 0 ^^^ 255 : Nat) : Int))) gd 23 D) :=
        BlkIs.far (BlkIs.far HD.out (show gd ≠ g7 from hgd7) _) (show gd ≠ gl from hgdl) _
      have HB9 : Hid (Below w.heap.size w ((w8.setCell ⟨g7, k, none⟩ (.int .u8 ((xs.getD k 0 ^^^ 255 : Nat) : Int))).setCell ⟨gl, k, none⟩ (.int .u8 ((xs.getD k 0 ^^^ 255 : Nat) : Int)))) :=
        (HB.out.setCell (show w.heap.size ≤ g7 by omega) _).setCell (show w.heap.size ≤ gl by omega) _
      generalize (mixK (fl xs) xs k ++ m80).getD k 0 = z at *
      generalize xs.getD k 0 = x at *
      clear hcell hfr hset hset2 hlset hml hlk hfar
      go_wp2_with fail
      go_roundw
      case rel => exact ⟨k + 1, by omega, by go_num, HO9.out, HL9.out, HD9.out, HB9.out⟩
      case measure => simp [intOf]; omega
    · have HF : Hid (∀ _ : Nat, k = xs.length) := fun _ => by have := HLX.out; omega
      have HO9 : Hid (OwnU w8 base (.slice A7 n c7) (fl xs)) := by
        have h := HO.out
        rwa [mixK_end (fl_length xs) (HF.out 0)] at h
      have HL9 : Hid (BlkB w8 gl 5 (fl xs ++ m80)) := by
        have h := HL.out
        rwa [mixK_end (fl_length xs) (HF.out 0)] at h
      have HLF : Hid (∀ _ : Nat, (fl xs).length = n) := fun _ => by rw [fl_length, HLX.out]
      obtain ⟨E, HE⟩ : ∃ E, Hid (∀ _ : Nat, shaN (fl xs) = E) := ⟨_, fun _ => rfl⟩
      have he2 : ∀ w, (Op.equalIn 10000 23 (.agg (bvs E).toArray) (.agg (bvs E).toArray)).run Tryd.prog w = .ok true w := fun w => by rw [← HE.out 0]; exact he.out (fl xs) w
      have hcap : (n : Int) ≤ (n : Int) + 80 := by omega
      have hcap0 : (0 : Int) ≤ (n : Int) := by omega
      have HRO : Hid (RB w8 A7 n (fl xs)) := by
        have h := HO9.out.reads
        rwa [HLF.out 0] at h
      have HNO : Hid (A7 = none → c7 = 0) := HO9.out.reads'.2.2.2
      clear HO HL
      go_wp2_with fail
      refine (dsum_any (some ⟨gl, 0, none⟩) n (n + 80) (fl xs) w8 (front_reads HL9.out (fl_isB HXB.out) (HLF.out 0)) (by omega) (by omega) (HT.out.below HB.out)).mono ?_
      rintro e w9 ⟨rfl, hb⟩
      have HLa := Lib.hid (BlkIs.below HL9.out hb)
      have HDa := Lib.hid (BlkIs.below HD.out hb)
      have HRa := Lib.hid (HRO.out.below hb)
      have HBa := Lib.hid (HB.out.trans (hb.mono HB.out.size))
      clear hb
      rw [HE.out 0]
      go_wp2_with fail
      refine (refdig_any A7 n c7 (fl xs) w9 HRa.out HNO.out (by omega) (HT1.out.below HBa.out)).mono ?_
      rintro e w10 ⟨rfl, hb⟩
      have HLb := Lib.hid (BlkIs.below HLa.out hb)
      have HDb := Lib.hid (BlkIs.below HDa.out hb)
      have HRb := Lib.hid (HRa.out.below hb)
      have HBb := Lib.hid (HBa.out.trans (hb.mono HBa.out.size))
      clear hb
      rw [HE.out 0]
      go_wp2_with fail
      refine (intact_true gl A7 n c7 (fl xs) w10 HLb.out HRb.out (by omega)).mono ?_
      rintro e w11 ⟨rfl, q, hq⟩
      have hb : Below w10.heap.size w10 w11 := by rw [hq]; exact drewN_below (Below.refl _ _) q
      have HLc := Lib.hid (BlkIs.below HLb.out hb)
      have HDc := Lib.hid (BlkIs.below HDb.out hb)
      have HBc := Lib.hid (HBb.out.trans (hb.mono HBb.out.size))
      clear hb hq
      clear HLa HLb HDa HDb HRa HRb HBa HBb HB HD HL9 HO9
      go_wp2_with fail
      go_loopw [8] (fun i wr => ∃ k : Nat, k ≤ n ∧ i = .int .i64 k ∧ Hid (BlkB wr gl 5 (mixK xs (fl xs) k ++ m80)) ∧ Hid (BlkB wr gd 23 D) ∧ Hid (Below w.heap.size w wr)) (fun i _ => n - (intOf i).toNat)
      case atStart => exact ⟨0, by omega, rfl, by rw [mixK_zero]; exact HLc.out, HDc.out, HBc.out⟩
      case round =>
        clear HLc HDc HBc
        obtain ⟨j, hj, rfl, HL, HD, HB⟩ := hrel
        obtain ⟨w12, rfl⟩ : ∃ w12, w12 = wr := ⟨_, rfl⟩
        by_cases hlj : j < n
        · have hml : (mixK xs (fl xs) j).length = n := by rw [mixK_length (fl_length xs).symm, HLF.out 0]
          obtain ⟨ad, rfl, _, hcx⟩ := (HX.out.below HB.out).at_ hlj
          have cl := HL.out.cell (i := j) (by rw [List.length_append, hml]; omega)
          have fl' := BlkIs.frozen HL.out j
          have hlset := BlkB.set HL.out j (xs.getD j 0)
          rw [m80_set _ (by omega), mixK_next (fl_length xs).symm (by rw [HLF.out 0]; exact hlj)] at hlset
          have HLn := Lib.hid hlset
          have HDn : Hid (BlkB (w12.setCell ⟨gl, j, none⟩ (.int .u8 ((xs.getD j 0 : Nat) : Int))) gd 23 D) := BlkIs.far HD.out (by show gd ≠ gl; omega) _
          have HBn : Hid (Below w.heap.size w (w12.setCell ⟨gl, j, none⟩ (.int .u8 ((xs.getD j 0 : Nat) : Int)))) := HB.out.setCell (show w.heap.size ≤ gl by omega) _
          generalize (mixK xs (fl xs) j ++ m80).getD j 0 = z at *
          generalize xs.getD j 0 = x at *
          clear hml hlset
          go_wp2_with fail
          go_roundw
          case rel => exact ⟨j + 1, by omega, by go_num, HLn.out, HDn.out, HBn.out⟩
          case measure => simp [intOf]; omega
        · have HF2 : Hid (BlkB w12 gl 5 (xs ++ m80)) := by
            have h := HL.out
            rwa [mixK_end (fl_length xs).symm (by rw [HLF.out 0]; omega)] at h
          have HR4 := Lib.hid (HD.out.whole HDB.out (HDL.out 0))
          have hu := Tryd.underlying23
          have hsz : (Tryd.prog.info? 23).map (·.size) = some (bvs D).length := by rw [size_dig]; simp [bvs, HDL.out 0]
          have he1 : ∀ w, (Op.equalIn 10000 23 (.agg (bvs D).toArray) (.agg (bvs D).toArray)).run Tryd.prog w = .ok true w := fun w => by rw [← HD0.out 0]; exact he.out xs w
          go_wp2_with fail
          rename_i KK hKK
          have HKK := Lib.hid hKK
          clear hKK
          refine wp_region_held_drew (S := fun w' => w'.rangeAt gd 0 (bvs D) ∧ RB w' (some ⟨gd, 0, none⟩) 32 D ∧ Below w12.heap.size w12 w') (by kernel_rfl) (K1.below (K1.mk HR4.out (Below.refl _ _)) (drewN_below (Below.refl _ _) 1)) fun hH => ?_
          refine wpAnyH_take (i := 0) (oi := ⟨some 74, _, _, _, _, _⟩) rfl (by kernel_rfl) (by kernel_rfl) (by kernel_rfl) (fun _ _ _ h => h) (Or.inl ⟨by rfl, fun w hw => by (try dsimp only at hw); go_simp; with_reducible rfl⟩) (by assumption) ?_
          try simp only [Act.put, List.setIfInBounds_toArray, List.set_cons_zero, List.set_cons_succ]
          refine wpAnyH_take (i := 1) (oi := ⟨some 75, _, _, _, _, _⟩) rfl (by kernel_rfl) (by kernel_rfl) (by kernel_rfl) (fun _ _ _ h => h) (Or.inl ⟨by rfl, fun w hw => by (try dsimp only at hw); go_simp; with_reducible rfl⟩) (by assumption) ?_
          try simp only [Act.put, List.setIfInBounds_toArray, List.set_cons_zero, List.set_cons_succ]
          refine wpAnyH_take (i := 2) (oi := ⟨some 76, _, _, _, _, _⟩) rfl (by kernel_rfl) (by kernel_rfl) (by kernel_rfl) (fun _ _ _ h => h) (Or.inl ⟨by rfl, fun w hw => by (try dsimp only at hw); go_simp; with_reducible rfl⟩) (by assumption) ?_
          try simp only [Act.put, List.setIfInBounds_toArray, List.set_cons_zero, List.set_cons_succ]
          refine wpAnyH_take (i := 4) (oi := ⟨some 78, _, _, _, _, _⟩) rfl (by kernel_rfl) (by kernel_rfl) (by kernel_rfl) (fun _ _ _ h => h) (yieldsIf_load_mid (by rfl) _ _ rfl _ _ rfl _ _ (fun w hw => by (try dsimp only at hw); go_split_ands; assumption) (by assumption) rfl (by assumption)) (by assumption) ?_
          try simp only [Act.put, List.setIfInBounds_toArray, List.set_cons_zero, List.set_cons_succ]
          refine wpAnyH_ready (rs := [3]) (by kernel_rfl) (by simp) ?_
          refine AllReadyH.cons rfl (fun K hK => ?_) (AllReadyH.nil)
          go_simp
          go_at_call 8
          refine (dsum_any (some ⟨gl, 0, none⟩) n (n + 80) xs _ (front_reads (BlkIs.below HF2.out hH.2.2) HXB.out HLX.out) (by omega) (by omega) (HT.out.below (HB.out.trans (hH.2.2.mono HB.out.size)))).mono ?_
          rintro e w13 ⟨rfl, hb⟩
          rw [HD0.out 0]
          refine hK.out _ _ (K1.below (by assumption) hb) (fun hH5 => ?_)
          clear hb hK hH
          refine wpAnyH_take (i := 5) (oi := ⟨some 79, _, _, _, _, _⟩) rfl (by kernel_rfl) (by kernel_rfl) (by kernel_rfl) (fun _ _ _ h => h) (Or.inl ⟨by rfl, fun w hw => by (try dsimp only at hw); go_simp; with_reducible rfl⟩) (by assumption) ?_
          try simp only [Act.put, List.setIfInBounds_toArray, List.set_cons_zero, List.set_cons_succ]
          refine wpAnyH_take (i := 6) (oi := ⟨some 2, _, _, _, _, _⟩) rfl (by kernel_rfl) (by kernel_rfl) (by kernel_rfl) (fun _ _ _ h => h) (Or.inl ⟨by rfl, fun w hw => by (try dsimp only at hw); go_simp; with_reducible rfl⟩) (by assumption) ?_
          try simp only [Act.put, List.setIfInBounds_toArray, List.set_cons_zero, List.set_cons_succ]
          refine wpAnyH_done (by kernel_rfl) ?_ _
          change KK _ _
          have HBf := Lib.hid (HB.out.trans (hH5.2.2.mono HB.out.size))
          clear hH5 hu hsz he1
          refine HKK.out _ _ ?_
          clear HKK
          go_wp2_with fail
          go_ret
          exact ⟨rfl, HBf.out⟩
end Go.Proofs.YtadhjgopekekgaaDoor
