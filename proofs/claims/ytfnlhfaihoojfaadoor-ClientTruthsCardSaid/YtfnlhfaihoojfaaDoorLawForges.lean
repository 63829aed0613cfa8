/- ledgerlaw13.ClientForges: the walk. -/
import Derived.Test.YtfnlhfaihoojfaaDoorFu
import Derived.Test.YtfnlhfaihoojfaaDoorLawBinds
namespace Go.Proofs.YtfnlhfaihoojfaaDoor
open Go.RowKit
theorem formP_range (w : Int) (p : Pr) (n : Nat) : formP w p n = 0 ∨ formP w p n = 120 ∨ formP w p n = 130 := by
  induction n with
  | zero => exact .inl rfl
  | succ n ih =>
    rw [formP]
    split
    · unfold badP
      repeat' split
      all_goals simp
    · exact ih
theorem errP_range {w : Int} (h1 : 1 ≤ w) (h2 : w ≤ 32) (rs ks xs : List Nat) : errP w rs ks xs = 0 ∨ errP w rs ks xs = 120 ∨ errP w rs ks xs = 130 ∨ errP w rs ks xs = 131 := by
  unfold errP
  rw [if_neg (by omega)]
  cases decN xs with
  | none => simp
  | some p =>
    dsimp only
    have := formP_range w p 256
    split
    · split <;> simp
    · omega
theorem ans_map {w : Int} {m : List Chg} {k : List Nat} (hg : GoodM m) : ansF 0 (encN (prM w m k)) = foundL m k ∧ ansV 0 (encN (prM w m k)) = valL m k := by
  unfold ansF ansV
  rw [decN_enc (prM_ok w hg k)]
  exact ⟨rfl, rfl⟩
theorem encN_len {p : Pr} (hp : p.Ok) : 33 ≤ (encN p).length ∧ (encN p).length ≤ 100000 := by
  have h1 : p.sums.flatten.length = p.sums.length * 32 := flat_len fun s h => (hp.sB s h).2
  have h2 : p.sums.length ≤ 256 := by rw [hp.sl]; have := onesN_le (ds := p.bits); have := hp.bl; omega
  have h3 := hp.vl
  have h4 := hp.bl
  unfold encN
  split <;> simp only [List.length_append, List.length_cons, List.length_nil, h4, h1] <;> omega
theorem xor_ne {x b : Nat} (h : 0 < b) : x ^^^ b ≠ x := fun e => by
  have h1 : x ^^^ b ^^^ x = x ^^^ x := by rw [e]
  rw [Nat.xor_self, Nat.xor_comm, ← Nat.xor_assoc, Nat.xor_self, Nat.zero_xor] at h1
  omega
set_option maxRecDepth 20000 in
set_option maxHeartbeats 4000000 in
theorem clientForges_walk (a0 at_ bt : Int) (A : Option Addr) (N C : Nat) (X : Nat → Chg) (ks : List Nat) (w : World) (hx : ChsAt w A N X) (hc : N ≤ C) (hn : N * 64 ≤ 140737488355328) (hv : ∀ k, k < N → (X k).val.length ≤ 140737488355328) (hk : ks.length = 32) (hkB : IsB ks) (ht : Tabs w) (ht1 : Tabs1 w) :
    Calls Tryd.prog 6 #[.int .i64 a0, .slice A N C, .agg (bvs ks).toArray, .int .i64 at_, .int .i64 bt] w fun e w' => e = .returned (.bool true) ∧ Below w.heap.size w w' := by
  have HKL := Lib.hid (And.intro hk hkB)
  have HTT : Hid (∀ W, Below w.heap.size w W → Tabs W ∧ Tabs1 W) := fun W hb => ⟨ht.below hb, ht1.1.below hb, ht1.2.below hb⟩
  have HMP := Lib.hid (fun W (hb : Below w.heap.size w W) => mapped_any A N C X W (hx.below hb) hc hn hv)
  clear hx hc hn hv hk hkB ht ht1
  go_enter Tryd.func6, Tryd.ntmps6
  go_wp2_with fail
  refine start1 (G := fun w2 => Calls _ _ _ w2 _) fun w2 H1 HW HS => ?_
  have HK2 : Hid (BlkB w2 w.heap.size 31 ks) := H1
  clear H1
  refine (within_any a0 1 32 w2 (by omega) (by omega) (by omega)).mono ?_
  rintro e w3 ⟨⟨wd, rfl, hw1, hw2⟩, rfl⟩
  go_wp2_with fail
  refine (HMP.out w3 HW.out).mono ?_
  rintro e w4 ⟨A1, M, C1, Y, rfl, hm, hb4⟩
  have HM := Lib.hid hm
  have HGD := Lib.hid hm.good
  have HB4 : Hid (Below w.heap.size w w4) := HW.out.trans (hb4.mono HW.out.size)
  have HK4 : Hid (BlkB w4 w.heap.size 31 ks) := BlkIs.below HK2.out hb4
  have HMM : Hid (∀ W, Below w4.heap.size w4 W → MapAt W A1 M C1 Y) := fun W hb => hm.below hb
  clear hm hb4 HK2 HMP
  have HRT := Lib.hid (rroot_any wd A1 M C1 Y w4 ⟨HM.out.ents, HM.out.le, by have := HM.out.few; omega, HM.out.val, HM.out.nodup, HM.out.sorted, fun _ _ _ _ _ hb => by omega⟩ (HTT.out w4 HB4.out).2)
  have HER : Hid (errP wd (subD wd 256 (lst Y M)) ks (encN (prM wd (lst Y M) ks)) = 0) := errP_map hw1 hw2 HGD.out HM.out.nodup HKL.out.2 HKL.out.1
  have HRF : Hid ((subD wd 256 (lst Y M)).length = 32 ∧ IsB (subD wd 256 (lst Y M))) := ⟨(subD_facts wd 256 _).1, (subD_facts wd 256 _).2.1⟩
  have HXB : Hid (IsB (encN (prM wd (lst Y M) ks))) := encN_isB (prM_ok wd HGD.out ks)
  have HXL := Lib.hid (encN_len (prM_ok wd HGD.out ks))
  have HAN : Hid (ansF 0 (encN (prM wd (lst Y M) ks)) = foundL (lst Y M) ks ∧ ansV 0 (encN (prM wd (lst Y M) ks)) = valL (lst Y M) ks) := ans_map HGD.out
  have HBY := Lib.hid (fun W (hb : Below w4.heap.size w4 W) => rbytes_any wd A1 M C1 Y ks W (HMM.out W hb) HKL.out.2 HKL.out.1 (HTT.out W (HB4.out.trans (hb.mono HB4.out.size))).2)
  have HLK := Lib.hid (fun W (hb : Below w4.heap.size w4 W) => rlook_any A1 M C1 Y ks W (HMM.out W hb) HKL.out.2 HKL.out.1)
  clear HM HGD HMM
  unfold BytesRet at HBY
  unfold LookRet at HLK
  generalize subD wd 256 (lst Y M) = R at *
  generalize encN (prM wd (lst Y M) ks) = xs at *
  generalize foundL (lst Y M) ks = fd at *
  generalize valL (lst Y M) ks = vl at *
  go_wp2_with fail
  refine HRT.out.mono ?_
  rintro e w5 ⟨rfl, hb5⟩
  have HB45 : Hid (Below w4.heap.size w4 w5) := hb5
  have HK5 : Hid (BlkB w5 w.heap.size 31 ks) := BlkIs.below HK4.out hb5
  clear hb5 HRT HK4
  go_wp2_with (first
    | ((with_reducible refine stopAt (o := ⟨some 13, _, _, _, _, _⟩) ?_); refine allocNew (o := ⟨some 13, _, _, _, _, _⟩) (by rfl) 29 rfl _ _ info_dig ?_; intro w6 HE6 HW6 HS6)
    | ((with_reducible refine stopAt (o := ⟨none, .store _ (.tmp 13) _, _, _, _, _⟩) ?_); refine wpList_store_part (o := ⟨none, _, _, _, _, _⟩) (by rfl) 29 (.tmp 13) (.tmp 30) rfl 0 [] (bvs (zs 32)) (bvs R) [] rfl rfl (blk_in HE6.out) rfl (by simp [bvs, zs, HRF.out.1]) (by rw [size_dig]; simp [bvs, HRF.out.1]) (fun u hu => bvs_oneCell _ u hu) ?_; intro w7 h7 g7; have HB7 : Hid (Below w5.heap.size w5 w7) := HW6.out.grown g7 HW6.out.size (fun k hk => by injection hk with hk; omega); have HK7 : Hid (BlkB w7 w.heap.size 31 ks) := BlkIs.below HK5.out HB7.out)
    | ((with_reducible refine stopAt (o := ⟨some 33, _, _, _, _, _⟩) ?_); refine wpList_load_arr (o := ⟨some 33, _, _, _, _, _⟩) (by rfl) 31 (.tmp 7) rfl ⟨w.heap.size, 0, none⟩ 32 ks rfl (HK7.out.whole HKL.out.2 HKL.out.1) (by omega) (by kernel_rfl) (by kernel_rfl) ?_))
  have HB47 : Hid (Below w4.heap.size w4 w7) := HB45.out.trans (HB7.out.mono HB45.out.size)
  have HR7 : Hid (BlkB w7 w5.heap.size 29 R) := blk_out h7
  have HKLT : Hid (w.heap.size < w5.heap.size) := HK5.out.lt
  clear HE6 HW6 HS6 h7 g7 HK5 HB45 HB7
  refine (HBY.out w7 HB47.out).mono ?_
  rintro e w8 ⟨v, rfl, hv8, hb8⟩
  obtain ⟨Ax, cx, rfl, _⟩ := hv8.form
  have HO8 := Lib.hid hv8
  have HB48 : Hid (Below w4.heap.size w4 w8) := HB47.out.trans (hb8.mono HB47.out.size)
  have HB78 : Hid (Below w7.heap.size w7 w8) := hb8
  have HR8 : Hid (BlkB w8 w5.heap.size 29 R) := BlkIs.below HR7.out hb8
  have HK8 : Hid (BlkB w8 w.heap.size 31 ks) := BlkIs.below HK7.out hb8
  clear hv8 hb8 HBY HR7 HK7
  have HVE : Hid (∀ W c, Below w.heap.size w W → ∀ A base ys L, L ≤ 100000 → OwnU W base (.slice A L c) ys → ∀ q, errP wd R ks ys = q → Calls Tryd.prog 7 #[.int .i64 wd, .agg (bvs R).toArray, .agg (bvs ks).toArray, .slice A L c] W (Answers q ys W)) := fun W c hb A base ys L hl ho q hq => by
    obtain ⟨o1, o2, o3, o4, o5⟩ := own_facts ho
    exact verify_ans wd R ks ys A L c W HRF.out.1 HRF.out.2 HKL.out.1 HKL.out.2 o1 o2 o3 o4 o5 (by omega) (HTT.out W hb).1 q hq
  have HBw8 : Hid (Below w.heap.size w w8) := HB4.out.trans (HB48.out.mono HB4.out.size)
  go_wp2_with (first
    | ((with_reducible refine stopAt (o := ⟨some 37, _, _, _, _, _⟩) ?_); refine wpList_load_arr (o := ⟨some 37, _, _, _, _, _⟩) (by rfl) 29 (.tmp 13) rfl ⟨w5.heap.size, 0, none⟩ 32 R rfl (HR8.out.whole HRF.out.2 HRF.out.1) (by omega) (by kernel_rfl) (by kernel_rfl) ?_)
    | ((with_reducible refine stopAt (o := ⟨some 38, _, _, _, _, _⟩) ?_); refine wpList_load_arr (o := ⟨some 38, _, _, _, _, _⟩) (by rfl) 31 (.tmp 7) rfl ⟨w.heap.size, 0, none⟩ 32 ks rfl (HK8.out.whole HKL.out.2 HKL.out.1) (by omega) (by kernel_rfl) (by kernel_rfl) ?_))
  refine (HVE.out w8 cx HBw8.out Ax _ xs _ HXL.out.2 HO8.out 0 HER.out).mono ?_
  rintro e w9 ⟨hb9, Aa, ca, rfl, ho9⟩
  rw [HAN.out.2] at ho9
  have HO9 := Lib.hid ho9
  have HB9 : Hid (Below w8.heap.size w8 w9) := hb9
  have HK9 : Hid (BlkB w9 w.heap.size 31 ks) := BlkIs.below HK8.out hb9
  rw [HAN.out.1, HAN.out.2]
  clear hb9 ho9 HAN
  go_wp2_with (first
    | ((with_reducible refine stopAt (o := ⟨some 15, _, _, _, _, _⟩) ?_); refine allocNew (o := ⟨some 15, _, _, _, _, _⟩) (by rfl) 24 rfl _ _ info_ans ?_; intro w10 HE10 HW10 HS10)
    | ((with_reducible refine stopAt (o := ⟨none, .store _ (.tmp 15) _, _, _, _, _⟩) ?_); refine wpList_store_part (o := ⟨none, _, _, _, _, _⟩) (by rfl) 24 (.tmp 15) (.tmp 41) rfl 0 [] [.bool false, .slice none 0 0] [.bool fd, .slice Aa vl.length ca] [] rfl rfl HE10.out rfl rfl (by rw [size_ans]; rfl) (by intro u hu; simp at hu; rcases hu with rfl | rfl <;> rfl) ?_; intro w11 h11 g11; have HB11 : Hid (Below w9.heap.size w9 w11) := HW10.out.grown g11 HW10.out.size (fun k hk => by injection hk with hk; omega); have HK11 : Hid (BlkB w11 w.heap.size 31 ks) := BlkIs.below HK9.out HB11.out)
    | ((with_reducible refine stopAt (o := ⟨some 45, _, _, _, _, _⟩) ?_); refine wpList_load_arr (o := ⟨some 45, _, _, _, _, _⟩) (by rfl) 31 (.tmp 7) rfl ⟨w.heap.size, 0, none⟩ 32 ks rfl (HK11.out.whole HKL.out.2 HKL.out.1) (by omega) (by kernel_rfl) (by kernel_rfl) ?_))
  have HA11 : Hid (BlkIs w11 w9.heap.size 24 #[.bool fd, .slice Aa vl.length ca]) := h11
  have HB811 : Hid (Below w8.heap.size w8 w11) := HB9.out.trans (HB11.out.mono HB9.out.size)
  have HB411 : Hid (Below w4.heap.size w4 w11) := HB48.out.trans (HB811.out.mono HB48.out.size)
  have HO11 := Lib.hid (HO9.out.below HB11.out)
  clear HE10 HW10 HS10 h11 g11 HO9 HK9 HB9 HB11
  refine (HLK.out w11 HB411.out).mono ?_
  rintro e w12 ⟨hb12, Al, cl, rfl, hrl⟩
  have HB812 : Hid (Below w8.heap.size w8 w12) := HB811.out.trans (hb12.mono HB811.out.size)
  have ca0 := BlkIs.cell (BlkIs.below HA11.out hb12) 0
  have ca1 := BlkIs.cell (BlkIs.below HA11.out hb12) 1
  have hv1 := conv_rb 22 9 5 und_bytes (by kernel_rfl) (by kernel_rfl) (HO11.out.below hb12).reads
  have hv2 := conv_rb 22 9 5 und_bytes (by kernel_rfl) (by kernel_rfl) hrl
  have HO12 := Lib.hid (HO8.out.below HB812.out)
  have HR12 : Hid (BlkB w12 w5.heap.size 29 R) := BlkIs.below HR8.out HB812.out
  have HK12 : Hid (BlkB w12 w.heap.size 31 ks) := BlkIs.below HK8.out HB812.out
  have HBw12 : Hid (Below w.heap.size w w12) := HBw8.out.trans (HB812.out.mono HBw8.out.size)
  clear hb12 hrl HA11 HO11 HB811 HB411 HLK HR8 HK8 HO8 HK11
  generalize strB vl = s1 at *
  generalize vl.length = l1 at *
  have hLI : (33 : Int) ≤ xs.length := by have := HXL.out.1; omega
  have hLJ : (xs.length : Int) ≤ 100000 := by have := HXL.out.2; omega
  have HCP : Hid (Calls Tryd.prog 16 #[.slice Ax xs.length cx] w12 fun e w' => ∃ g c, e = .returned (.slice (some ⟨g, 0, none⟩) xs.length c) ∧ w12.heap.size ≤ g ∧ OwnU w' w12.heap.size (.slice (some ⟨g, 0, none⟩) xs.length c) xs ∧ Below w12.heap.size w12 w') := by
    obtain ⟨o1, o2, o3, o4, o5⟩ := own_facts HO12.out
    refine (copied_any Ax xs.length cx xs w12 o1 o4 (by omega)).mono ?_
    rintro e w' ⟨v, h1, h2, h3⟩
    obtain ⟨g, c, rfl, h4, _⟩ := h2.shape (by omega)
    exact ⟨g, c, h1, h4, h2, h3⟩
  go_wp2_with fail
  refine HCP.out.mono ?_
  rintro e w13 ⟨g, c13, rfl, hg13, ho13, hb13⟩
  have HO13 := Lib.hid ho13
  have HB13 : Hid (Below w12.heap.size w12 w13) := hb13
  have HG13 := Lib.hid hg13
  clear ho13 hb13 hg13 HCP ca0 ca1 hv1 hv2
  go_wp2_with fail
  refine (within_any at_ 0 ((xs.length : Int) - 1) w13 (by omega) (by omega) (by omega)).mono ?_
  rintro e w14 ⟨⟨r, rfl, hr1, hr2⟩, rfl⟩
  obtain ⟨i, rfl⟩ : ∃ i : Nat, r = i := ⟨r.toNat, by omega⟩
  have hiI : (i : Int) < xs.length := by omega
  have hi : i < xs.length := by omega
  obtain ⟨g', c', e1, _, hgl, hfz, hce⟩ := HO13.out.shape (by omega)
  injection e1 with e1 _ e2
  injection e1 with e1
  injection e1 with e1
  subst e1 e2
  have hcx := hce i hi
  have hfx := hfz i
  have hx8 : xs.getD i 0 < 256 := HXB.out _ (getD_mem hi)
  have HSET : Hid (∀ z, z < 256 → z ≠ xs.getD i 0 → (xs.set i z ≠ xs)) := fun z hz hne e => by
    have h1 := congrArg (fun l : List Nat => l.getD i 0) e
    simp only [List.getD_eq_getElem?_getD, List.getElem?_set_self hi, Option.getD_some] at h1
    rw [List.getD_eq_getElem?_getD] at hne
    exact hne h1
  clear hr1 hr2 hce hfz hgl hi
  generalize xs.getD i 0 = x at *
  go_upto_region 11 with fail
  refine wp_region_upTo (S := fun w' => w'.cell? ⟨g, i, none⟩ = some (.int .u8 (x : Nat))) 11 (by kernel_rfl) hcx fun hH => ?_
  have HO15 : Hid (OwnU w14.drew w12.heap.size (.slice (some ⟨g, 0, none⟩) xs.length c13) xs) := HO13.out.below (drewN_below (Below.refl _ _) 1)
  have HB15 : Hid (Below w12.heap.size w12 w14.drew) := HB13.out.trans (drewN_below (Below.refl _ _) 1)
  replace hcx : w14.drew.cell? ⟨g, i, none⟩ = some (.int .u8 (x : Nat)) := hcx
  replace hfx : w14.drew.frozen? ⟨g, i, none⟩ = false := hfx
  clear HO13 HB13
  generalize w14.drew = w15 at *
  refine wpAnyU_take (i := 0) (oi := ⟨some 72, _, _, _, _, _⟩) [10, 11] rfl (by kernel_rfl) (by kernel_rfl) (by kernel_rfl) (fun _ _ _ h => h) (by kernel_rfl) (by kernel_rfl) (by kernel_rfl) (Or.inl ⟨by rfl, fun w hw => by (try dsimp only at hw); go_simp; with_reducible rfl⟩) (by assumption) ?_
  try simp only [Act.put, List.setIfInBounds_toArray, List.set_cons_zero, List.set_cons_succ]
  refine wpAnyU_take (i := 1) (oi := ⟨some 73, _, _, _, _, _⟩) [10, 11] rfl (by kernel_rfl) (by kernel_rfl) (by kernel_rfl) (fun _ _ _ h => h) (by kernel_rfl) (by kernel_rfl) (by kernel_rfl) (Or.inl ⟨by rfl, fun w hw => by (try dsimp only at hw); go_simp; with_reducible rfl⟩) (by assumption) ?_
  try simp only [Act.put, List.setIfInBounds_toArray, List.set_cons_zero, List.set_cons_succ]
  refine wpAnyU_take (i := 2) (oi := ⟨some 74, _, _, _, _, _⟩) [4, 5, 9, 10, 11] rfl (by kernel_rfl) (by kernel_rfl) (by kernel_rfl) (fun _ _ _ h => h) (by kernel_rfl) (by kernel_rfl) (by kernel_rfl) (Or.inl ⟨by rfl, fun w hw => by (try dsimp only at hw); go_simp; with_reducible rfl⟩) (by assumption) ?_
  try simp only [Act.put, List.setIfInBounds_toArray, List.set_cons_zero, List.set_cons_succ]
  refine wpAnyU_take (i := 3) (oi := ⟨some 75, _, _, _, _, _⟩) [4, 5, 9, 10, 11] rfl (by kernel_rfl) (by kernel_rfl) (by kernel_rfl) (fun _ _ _ h => h) (by kernel_rfl) (by kernel_rfl) (by kernel_rfl) (Or.inl ⟨by rfl, fun w hw => by (try dsimp only at hw); go_simp; with_reducible rfl⟩) (by assumption) ?_
  try simp only [Act.put, List.setIfInBounds_toArray, List.set_cons_zero, List.set_cons_succ]
  refine wpAnyU_take (i := 4) (oi := ⟨some 76, _, _, _, _, _⟩) [5, 9, 10, 11] rfl (by kernel_rfl) (by kernel_rfl) (by kernel_rfl) (fun _ _ _ h => h) (by kernel_rfl) (by kernel_rfl) (by kernel_rfl) (Or.inl ⟨by rfl, fun w hw => by (try dsimp only at hw); go_simp; with_reducible rfl⟩) (by assumption) ?_
  try simp only [Act.put, List.setIfInBounds_toArray, List.set_cons_zero, List.set_cons_succ]
  refine wpAnyU_take (i := 5) (oi := ⟨some 77, _, _, _, _, _⟩) [9, 10, 11] rfl (by kernel_rfl) (by kernel_rfl) (by kernel_rfl) (fun _ _ _ h => h) (by kernel_rfl) (by kernel_rfl) (by kernel_rfl) (Or.inl ⟨by rfl, fun w hw => by (try dsimp only at hw); go_simp; with_reducible rfl⟩) (by assumption) ?_
  try simp only [Act.put, List.setIfInBounds_toArray, List.set_cons_zero, List.set_cons_succ]
  refine wpAnyU_take (i := 6) (oi := ⟨some 78, _, _, _, _, _⟩) [7, 8, 9, 10, 11] rfl (by kernel_rfl) (by kernel_rfl) (by kernel_rfl) (fun _ _ _ h => h) (by kernel_rfl) (by kernel_rfl) (by kernel_rfl) (Or.inl ⟨by rfl, fun w hw => by (try dsimp only at hw); go_simp; with_reducible rfl⟩) (by assumption) ?_
  try simp only [Act.put, List.setIfInBounds_toArray, List.set_cons_zero, List.set_cons_succ]
  refine wpAnyU_one (i := 7) (by kernel_rfl) rfl (fun K hK => ?_)
  go_simp
  go_at_call 9
  refine (within_any bt 1 255 w15 (by omega) (by omega) (by omega)).mono ?_
  rintro e w16 ⟨⟨r, rfl, hr3, hr4⟩, rfl⟩
  obtain ⟨b, rfl⟩ : ∃ b : Nat, r = b := ⟨r.toNat, by omega⟩
  refine hK.out _ _ (fun _ => hcx) ?_
  clear hK
  have hxor : bits .xor .u8 ((x : Nat) : Int) ((b : Nat) : Int) = ((x ^^^ b : Nat) : Int) := xor8 x b hx8 (by omega)
  have HZ : Hid (x ^^^ b < 256 ∧ x ^^^ b ≠ x) := ⟨xor_lt8 hx8 (by omega), xor_ne (by omega)⟩
  have hzI : ((x ^^^ b : Nat) : Int) < 256 := by have := HZ.out.1; omega
  have hwb : IntKind.u8.wrap ((b : Nat) : Int) = (b : Int) := IntWalk.u8_in _ (by omega)
  generalize x ^^^ b = z at *
  refine wpAnyU_take (i := 8) (oi := ⟨some 80, _, _, _, _, _⟩) [9, 10, 11] rfl (by kernel_rfl) (by kernel_rfl) (by kernel_rfl) (fun _ _ _ h => h) (by kernel_rfl) (by kernel_rfl) (by kernel_rfl) (Or.inl ⟨by rfl, fun w hw => by (try dsimp only at hw); go_simp; with_reducible rfl⟩) (by assumption) ?_
  try simp only [Act.put, List.setIfInBounds_toArray, List.set_cons_zero, List.set_cons_succ]
  refine wpAnyU_take (i := 9) (oi := ⟨some 81, _, _, _, _, _⟩) [10, 11] rfl (by kernel_rfl) (by kernel_rfl) (by kernel_rfl) (fun _ _ _ h => h) (by kernel_rfl) (by kernel_rfl) (by kernel_rfl) (Or.inl ⟨by rfl, fun w hw => by (try dsimp only at hw); go_simp; with_reducible rfl⟩) (by assumption) ?_
  try simp only [Act.put, List.setIfInBounds_toArray, List.set_cons_zero, List.set_cons_succ]
  refine wpAnyU_take (i := 10) (oi := ⟨some 82, _, _, _, _, _⟩) [11] rfl (by kernel_rfl) (by kernel_rfl) (by kernel_rfl) (fun _ _ _ h => h) (by kernel_rfl) (by kernel_rfl) (by kernel_rfl) (Or.inl ⟨by rfl, fun w hw => by (try dsimp only at hw); go_simp; with_reducible rfl⟩) (by assumption) ?_
  try simp only [Act.put, List.setIfInBounds_toArray, List.set_cons_zero, List.set_cons_succ]
  refine wpAnyU_one (i := 11) (by kernel_rfl) rfl (fun K hK => ?_)
  go_simp
  refine hK.out _ _ (fun h => by cases h) ?_
  refine wpAnyU_done (by kernel_rfl) ?_ _
  have HY17 : Hid (OwnU (w16.setCell ⟨g, i, none⟩ (.int .u8 (z : Int))) w12.heap.size (.slice (some ⟨g, 0, none⟩) xs.length c13) (xs.set i z)) := Own.set HO15.out i z HZ.out.1
  have HB17 : Hid (Below w12.heap.size w12 (w16.setCell ⟨g, i, none⟩ (.int .u8 (z : Int)))) := HB15.out.grown (grown_setCell w16 i _) HB15.out.size fun k hk => by injection hk with hk; have := HG13.out; omega
  have HYN := Lib.hid (HSET.out z HZ.out.1 HZ.out.2)
  clear hK hcx hfx hxor hzI hwb hr3 hr4 HO15 HB15 HSET HZ
  generalize w16.setCell ⟨g, i, none⟩ (.int .u8 (z : Int)) = w17 at *
  have HYL : Hid ((xs.set i z).length = xs.length) := by show _ = _; rw [List.length_set]
  generalize xs.set i z = ys at *
  obtain ⟨q, hq⟩ : ∃ q, errP wd R ks ys = q := ⟨_, rfl⟩
  have HQ := Lib.hid hq
  have HQR : Hid (q = 0 ∨ q = 120 ∨ q = 130 ∨ q = 131) := by rw [← hq]; exact errP_range hw1 hw2 R ks ys
  have HYB : Hid (IsB ys) := HY17.out.2
  have HO17 := Lib.hid (HO12.out.below HB17.out)
  have HR17 : Hid (BlkB w17 w5.heap.size 29 R) := BlkIs.below HR12.out HB17.out
  have HK17 : Hid (BlkB w17 w.heap.size 31 ks) := BlkIs.below HK12.out HB17.out
  have HBw17 : Hid (Below w.heap.size w w17) := HBw12.out.trans (HB17.out.mono HBw12.out.size)
  clear hq HO12 HR12 HK12 HBw12 HB17
  have HSS : Hid (∀ W, Below w17.heap.size w17 W → W.rangeAt w5.heap.size 0 (bvs R) ∧ W.rangeAt w.heap.size 0 (bvs ks)) := fun W hb => ⟨BlkIs.range (BlkIs.below HR17.out hb), BlkIs.range (BlkIs.below HK17.out hb)⟩
  have hud := und_dig
  have huk := und_key
  have hszd : (Tryd.prog.info? 29).map (·.size) = some (bvs R).length := by rw [size_dig]; simp [bvs, HRF.out.1]
  have hszk : (Tryd.prog.info? 31).map (·.size) = some (bvs ks).length := by rw [size_key]; simp [bvs, HKL.out.1]
  go_upto_region 12 with fail
  refine wp_region_held_drew (S := fun w' => w'.rangeAt w5.heap.size 0 (bvs R) ∧ w'.rangeAt w.heap.size 0 (bvs ks)) (by kernel_rfl) (HSS.out _ (drewN_below (Below.refl _ _) 1)) fun hH => ?_
  have HB18 : Hid (Below w17.heap.size w17 w17.drew) := drewN_below (Below.refl _ _) 1
  generalize w17.drew = w18 at *
  refine wpAnyH_take (i := 0) (oi := ⟨some 84, _, _, _, _, _⟩) rfl (by kernel_rfl) (by kernel_rfl) (by kernel_rfl) (fun _ _ _ h => h) (Or.inl ⟨by rfl, fun w hw => by ((try dsimp only at hw); go_split_ands; go_simp; with_reducible rfl)⟩) (by assumption) ?_
  try simp only [Act.put, List.setIfInBounds_toArray, List.set_cons_zero, List.set_cons_succ]
  refine wpAnyH_take (i := 1) (oi := ⟨some 85, _, _, _, _, _⟩) rfl (by kernel_rfl) (by kernel_rfl) (by kernel_rfl) (fun _ _ _ h => h) (yieldsIf_load_mid (by rfl) _ _ rfl _ _ rfl _ _ (fun w hw => by (try dsimp only at hw); go_split_ands; assumption) (by assumption) rfl (by assumption)) (by assumption) ?_
  try simp only [Act.put, List.setIfInBounds_toArray, List.set_cons_zero, List.set_cons_succ]
  refine wpAnyH_take (i := 2) (oi := ⟨some 86, _, _, _, _, _⟩) rfl (by kernel_rfl) (by kernel_rfl) (by kernel_rfl) (fun _ _ _ h => h) (yieldsIf_load_mid (by rfl) _ _ rfl _ _ rfl _ _ (fun w hw => by (try dsimp only at hw); go_split_ands; assumption) (by assumption) rfl (by assumption)) (by assumption) ?_
  try simp only [Act.put, List.setIfInBounds_toArray, List.set_cons_zero, List.set_cons_succ]
  refine wpAnyH_take (i := 3) (oi := ⟨some 87, _, _, _, _, _⟩) rfl (by kernel_rfl) (by kernel_rfl) (by kernel_rfl) (fun _ _ _ h => h) (Or.inl ⟨by rfl, fun w hw => by ((try dsimp only at hw); go_split_ands; go_simp; with_reducible rfl)⟩) (by assumption) ?_
  try simp only [Act.put, List.setIfInBounds_toArray, List.set_cons_zero, List.set_cons_succ]
  clear hH hud huk hszd hszk
  refine wpAnyH_ready (rs := [4]) (by kernel_rfl) (by simp) ?_
  refine AllReadyH.cons rfl (fun K hK => ?_) (AllReadyH.nil)
  go_simp
  go_at_call 16
  refine (copied_any (some ⟨g, 0, none⟩) xs.length c13 ys w18 (own_facts (HY17.out.below HB18.out)).1 (fun e => by cases e) (by omega)).mono ?_
  rintro e w19 ⟨v19, rfl, ho19, hb19⟩
  obtain ⟨Ac, cc, rfl, _⟩ := ho19.form
  have HO19 := Lib.hid ho19
  have HB19 : Hid (Below w17.heap.size w17 w19) := HB18.out.trans (hb19.mono HB18.out.size)
  refine hK.out _ _ (HSS.out _ HB19.out) (fun hH => ?_)
  clear hK ho19 hb19 HB18
  refine wpAnyH_ready (rs := [5]) (by kernel_rfl) (by simp) ?_
  refine AllReadyH.cons rfl (fun K hK => ?_) (AllReadyH.nil)
  go_simp
  go_at_call 7
  refine (HVE.out w19 cc (HBw17.out.trans (HB19.out.mono HBw17.out.size)) Ac _ ys _ (by rw [HYL.out]; exact HXL.out.2) HO19.out q HQ.out).mono ?_
  rintro e w20 ⟨hb20, Ad, cd, rfl, _⟩
  have HB20 : Hid (Below w17.heap.size w17 w20) := HB19.out.trans (hb20.mono HB19.out.size)
  refine hK.out _ _ (HSS.out _ HB20.out) (fun hH => ?_)
  clear hK hb20 HO19 HB19
  refine wpAnyH_take (i := 6) (oi := ⟨some 83, _, _, _, _, _⟩) rfl (by kernel_rfl) (by kernel_rfl) (by kernel_rfl) (fun _ _ _ h => h) (Or.inl ⟨by rfl, fun w hw => by ((try dsimp only at hw); go_split_ands; go_simp; with_reducible rfl)⟩) (by assumption) ?_
  try simp only [Act.put, List.setIfInBounds_toArray, List.set_cons_zero, List.set_cons_succ]
  refine wpAnyH_take (i := 7) (oi := ⟨some 90, _, _, _, _, _⟩) rfl (by kernel_rfl) (by kernel_rfl) (by kernel_rfl) (fun _ _ _ h => h) (Or.inl ⟨by rfl, fun w hw => by ((try dsimp only at hw); go_split_ands; go_simp; with_reducible rfl)⟩) (by assumption) ?_
  try simp only [Act.put, List.setIfInBounds_toArray, List.set_cons_zero, List.set_cons_succ]
  refine wpAnyH_take (i := 8) (oi := ⟨some 91, _, _, _, _, _⟩) rfl (by kernel_rfl) (by kernel_rfl) (by kernel_rfl) (fun _ _ _ h => h) (Or.inl ⟨by rfl, fun w hw => by ((try dsimp only at hw); go_split_ands; go_simp; with_reducible rfl)⟩) (by assumption) ?_
  try simp only [Act.put, List.setIfInBounds_toArray, List.set_cons_zero, List.set_cons_succ]
  refine wpAnyH_take (i := 9) (oi := ⟨some 16, _, _, _, _, _⟩) rfl (by kernel_rfl) (by kernel_rfl) (by kernel_rfl) (fun _ _ _ h => h) (Or.inl ⟨by rfl, fun w hw => by ((try dsimp only at hw); go_split_ands; go_simp; with_reducible rfl)⟩) (by assumption) ?_
  try simp only [Act.put, List.setIfInBounds_toArray, List.set_cons_zero, List.set_cons_succ]
  clear hH
  refine wpAnyH_done (by kernel_rfl) ?_ _
  have HR20 : Hid (BlkB w20 w5.heap.size 29 R) := BlkIs.below HR17.out HB20.out
  have HK20 : Hid (BlkB w20 w.heap.size 31 ks) := BlkIs.below HK17.out HB20.out
  have HBw20 : Hid (Below w.heap.size w w20) := HBw17.out.trans (HB20.out.mono HBw17.out.size)
  have HEX : Hid (Calls Tryd.prog 15 #[.int .i64 wd, .agg (bvs R).toArray, .agg (bvs ks).toArray, .slice Ax xs.length cx, .slice (some ⟨g, 0, none⟩) xs.length c13] w20 fun e w' => Below w20.heap.size w20 w' ∧ ∃ X1 X2 ok, e = .returned (.tuple #[X1, X2, .bool ok]) ∧ ExtRes wd 0 q xs ys w' X1 X2 ok) := by
    obtain ⟨o1, o2, o3, o4, o5⟩ := own_facts (HO17.out.below HB20.out)
    obtain ⟨p1, p2, p3, p4, p5⟩ := own_facts (HY17.out.below HB20.out)
    refine (extract_any wd R ks xs ys Ax xs.length cx (some ⟨g, 0, none⟩) xs.length c13 w20 HRF.out.1 HRF.out.2 HKL.out.1 HKL.out.2 o1 o2 o3 o4 o5 (by omega) p1 p2 p3 p4 p5 (by omega) (HTT.out w20 HBw20.out).1).mono fun e w' h => ?_
    have := ext_res HKL.out.1 HXB.out HYB.out h
    rwa [HER.out, HQ.out] at this
  have HDG : Hid (∀ W A c (T : List Nat), Below w.heap.size w W → RB W A T.length T → T.length ≤ c → T.length ≤ 200 → Calls Tryd.prog 18 #[.slice A T.length c] W fun e w' => e = .returned (.agg (bvs (shaN T)).toArray) ∧ Below W.heap.size W w') := fun W A c T hb h1 h2 h3 => dsum_any A T.length c T W h1 h2 (by omega) (HTT.out W hb).1
  clear HO17 HY17 HVE HSS HR17 HK17 HB20 HBw17
  go_wp2_with (first
    | ((with_reducible refine stopAt (o := ⟨some 94, _, _, _, _, _⟩) ?_); refine wpList_load_arr (o := ⟨some 94, _, _, _, _, _⟩) (by rfl) 29 (.tmp 13) rfl ⟨w5.heap.size, 0, none⟩ 32 R rfl (HR20.out.whole HRF.out.2 HRF.out.1) (by omega) (by kernel_rfl) (by kernel_rfl) ?_)
    | ((with_reducible refine stopAt (o := ⟨some 95, _, _, _, _, _⟩) ?_); refine wpList_load_arr (o := ⟨some 95, _, _, _, _, _⟩) (by rfl) 31 (.tmp 7) rfl ⟨w.heap.size, 0, none⟩ 32 ks rfl (HK20.out.whole HKL.out.2 HKL.out.1) (by omega) (by kernel_rfl) (by kernel_rfl) ?_))
  refine HEX.out.mono ?_
  rintro e w6 ⟨hb6, X1, X2, ok, rfl, hres⟩
  have HB6 : Hid (Below w.heap.size w w6) := HBw20.out.trans (hb6.mono HBw20.out.size)
  clear hb6 HEX HR20 HK20 HBw20
  rcases hres with ⟨rfl, rfl, rfl, hc⟩ | ⟨rfl, h1, h2, hne, Xa, xc, T1, Xb, xd, T2, rfl, rfl, r1, r2, l1', l2, l3, l4, htn, hnd⟩
  · have hq0 : q ≠ 0 := by
      rcases hc with h | h | h
      · exact absurd rfl h
      · exact h
      · exact absurd h.symm HYN.out
    rcases HQR.out with h | rfl | rfl | rfl
    · exact absurd h hq0
    · clear hq0 hc
      go_wp2_with fail
      go_ret
      exact ⟨by simp, HB6.out⟩
    · clear hq0 hc
      go_wp2_with fail
      go_ret
      exact ⟨by simp, HB6.out⟩
    · clear hq0 hc
      go_wp2_with fail
      go_ret
      exact ⟨by simp, HB6.out⟩
  · have hx1 := conv_rb 22 9 5 und_bytes (by kernel_rfl) (by kernel_rfl) r1
    have hx2 := conv_rb 22 9 5 und_bytes (by kernel_rfl) (by kernel_rfl) r2
    have hs3 : ((strB T1).toList == (strB T2).toList) = false := by rw [strB_eq r1.2.1 r2.2.1]; exact decide_eq_false htn
    have HR1 := Lib.hid (And.intro r1 (And.intro l1' l3))
    have HR2' := Lib.hid (And.intro r2 (And.intro l2 l4))
    have HND : Hid (cutN (shaN T1) wd = cutN (shaN T2) wd) := hnd
    have HS1 := Lib.hid (And.intro (shaN_isB T1) (shaN_length T1))
    have HS2 := Lib.hid (And.intro (shaN_isB T2) (shaN_length T2))
    have HD1 := Lib.hid (HDG.out w6 Xa xc T1 HB6.out r1 l1' l3)
    have HD2 : Hid (∀ W, Below w6.heap.size w6 W → Calls Tryd.prog 18 #[.slice Xb T2.length xd] W fun e w' => e = .returned (.agg (bvs (shaN T2)).toArray) ∧ Below W.heap.size W w') := fun W hb => HDG.out W Xb xd T2 (HB6.out.trans (hb.mono HB6.out.size)) (r2.below hb) l2 l4
    clear r1 r2 l1' l2 l3 l4 htn hnd HDG hne h1
    subst h2
    generalize strB T1 = s3 at *
    generalize strB T2 = s4 at *
    generalize shaN T1 = S1 at *
    generalize shaN T2 = S2 at *
    have HCL := Lib.hid (And.intro (cutN_isB HS1.out.1 wd) (cutN_length HS1.out.2 wd))
    have HCU1 : Hid (∀ W, Calls Tryd.prog 17 #[.agg (bvs S1).toArray, .int .i64 wd] W fun e w' => e = .returned (.agg (bvs (cutN S1 wd)).toArray) ∧ Below W.heap.size W w') := fun W => cut_any S1 wd W HS1.out.1 HS1.out.2
    have HCU2 : Hid (∀ W, Calls Tryd.prog 17 #[.agg (bvs S2).toArray, .int .i64 wd] W fun e w' => e = .returned (.agg (bvs (cutN S1 wd)).toArray) ∧ Below W.heap.size W w') := fun W => by rw [HND.out]; exact cut_any S2 wd W HS2.out.1 HS2.out.2
    clear HND
    generalize cutN S1 wd = D at *
    have heq : ∀ w : World, (Op.equalIn 10000 29 (.agg (bvs D).toArray) (.agg (bvs D).toArray)).run Tryd.prog w = .ok true w := fun w => by
      have := dig_cmp w HCL.out.1 HCL.out.1 HCL.out.2 HCL.out.2
      rwa [decide_eq_true rfl] at this
    go_wp2_with fail
    refine HD1.out.mono ?_
    rintro e v1 ⟨rfl, hb1⟩
    have HBv1 : Hid (Below w6.heap.size w6 v1) := hb1
    clear hb1
    go_wp2_with fail
    refine (HCU1.out v1).mono ?_
    rintro e v2 ⟨rfl, hb2⟩
    have HBv2 : Hid (Below w6.heap.size w6 v2) := HBv1.out.trans (hb2.mono HBv1.out.size)
    clear hb2
    go_wp2_with fail
    refine (HD2.out v2 HBv2.out).mono ?_
    rintro e v3 ⟨rfl, hb3⟩
    have HBv3 : Hid (Below w6.heap.size w6 v3) := HBv2.out.trans (hb3.mono HBv2.out.size)
    clear hb3
    go_wp2_with fail
    refine (HCU2.out v3).mono ?_
    rintro e v4 ⟨rfl, hb4⟩
    have HBv4 : Hid (Below w6.heap.size w6 v4) := HBv3.out.trans (hb4.mono HBv3.out.size)
    clear hb4
    go_wp2_with fail
    go_ret
    exact ⟨by simp, HB6.out.trans (HBv4.out.mono HB6.out.size)⟩
end Go.Proofs.YtfnlhfaihoojfaaDoor
