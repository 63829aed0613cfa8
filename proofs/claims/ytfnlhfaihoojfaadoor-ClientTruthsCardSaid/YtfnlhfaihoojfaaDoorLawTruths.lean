/- ledgerlaw13.ClientTruths: the walk. (printed by gen_truths.py) -/
import Derived.Test.YtfnlhfaihoojfaaDoorLawForges
import Derived.Test.YtfnlhfaihoojfaaDoorPathW
import Derived.Test.YtfnlhfaihoojfaaDoorKeysL
namespace Go.Proofs.YtfnlhfaihoojfaaDoor
open Go.RowKit
def k1 : List Nat := 1 :: zs 31
theorem built_k1 : Tryd.prog.built 31 [(0, .int .u8 1)] = some (bvs k1).toArray := by kernel_rfl
theorem k1_facts : IsB k1 ∧ k1.length = 32 := ⟨fun x hx => by
  rcases List.mem_cons.1 hx with h | h
  · omega
  · exact zs_isB 31 x h, rfl⟩
theorem rb_rangeK {w : World} {b o n : Nat} {xs : List Nat} (h : RB w (some ⟨b, o, none⟩) n xs) : w.rangeAt b o (bvs xs) := fun j v hv => by
  simp only [bvs, List.getElem?_map, Option.map_eq_some_iff] at hv
  obtain ⟨y, hy, rfl⟩ := hv
  obtain ⟨ad, e, _, hc⟩ := h.2.2 (by have := (List.getElem?_eq_some_iff.1 hy).1; have := h.1; omega)
  injection e with e
  subst e
  have := hc j y hy
  rwa [add_lit] at this
def keysX (Z : Nat → List Nat) : Nat → List Nat
  | 0 => k1
  | k + 1 => Z k
theorem flat_keysX (Z : Nat → List Nat) (n : Nat) : flatK (keysX Z) (n + 1) = k1 ++ flatK Z n := by
  induction n with
  | zero => simp [flatK, keysX]
  | succ n ih => rw [flatK, ih, flatK, List.append_assoc]; rfl
theorem kbs_own {w : World} {base g c n : Nat} {X : Nat → List Nat} (h : w.ownsRow base 31 32 (.slice (some ⟨g, 0, none⟩) n c) n (bvs (flatK X n))) (hX : ∀ k, k < n → IsB (X k) ∧ (X k).length = 32) : KBs w (some ⟨g, 0, none⟩) n X := fun k hk => by
  refine ⟨(hX k hk).1, (hX k hk).2, g, 0, rfl, (hX k hk).2, (hX k hk).1, fun _ => ⟨_, rfl, (h.lt g rfl).2, fun j x hj => ?_⟩⟩
  have hj32 : j < 32 := by
    have := (List.getElem?_eq_some_iff.1 hj).1
    rwa [(hX k hk).2] at this
  rw [add_lit, Nat.zero_add, World.ownsRow.cellAt h _ (by omega), bvs, List.getElem?_map, flatK_at (fun k hk => (hX k hk).2) hk hj32, hj]
  rfl
theorem own_key {w : World} : (w.alloc (.cells (bvs k1).toArray 31)).ownsRow w.heap.size 31 32 (.slice (some ⟨w.heap.size, 0, none⟩) 1 1) 1 (bvs k1) :=
  ⟨by simp [bvs, k1_facts.2], .inr ⟨w.heap.size, 1, (bvs k1).toArray, rfl, Nat.le_refl _, heap_alloc_new w _, Nat.le_refl _, by simp [maxLen], by simp [bvs, k1_facts.2], by rw [List.take_of_length_le (by simp [bvs, k1_facts.2])]⟩⟩
set_option maxRecDepth 20000 in
set_option maxHeartbeats 4000000 in
theorem clientTruths_walk (a0 : Int) (A : Option Addr) (N C : Nat) (X : Nat → Chg) (A2 : Option Addr) (K C2 : Nat) (Z : Nat → List Nat) (w : World) (hx : ChsAt w A N X) (hc : N ≤ C) (hn : N * 64 ≤ 140737488355328) (hv : ∀ k, k < N → (X k).val.length ≤ 140737488355328) (hk : KBs w A2 K Z) (hA2 : A2 = none → K = 0 ∧ C2 = 0) (hK : K ≤ 140737488355328) (ht : Tabs w) (ht1 : Tabs1 w) :
    Calls Tryd.prog 4 #[.int .i64 a0, .slice A N C, .slice A2 K C2] w fun e w' => e = .returned (.bool true) ∧ Below w.heap.size w w' := by
  have HTT : Hid (∀ W, Below w.heap.size w W → Tabs W ∧ Tabs1 W) := fun W hb => ⟨ht.below hb, ht1.1.below hb, ht1.2.below hb⟩
  have HMP := Lib.hid (fun W (hb : Below w.heap.size w W) => mapped_any A N C X W (hx.below hb) hc hn hv)
  have HKZ := Lib.hid (And.intro hk hA2)
  have hKI : (K : Int) ≤ 140737488355328 := by omega
  clear hx hc hn hv hk hA2 ht ht1 hK
  go_enter Tryd.func4, Tryd.ntmps4
  go_wp2_with fail
  refine (within_any a0 1 32 w (by omega) (by omega) (by omega)).mono ?_
  rintro e w1 ⟨⟨wd, rfl, hw1, hw2⟩, hw⟩
  obtain rfl : w = w1 := hw.symm
  obtain ⟨T, hT⟩ : ∃ T, IntKind.i64.wrap ((N : Int) * ((K : Int) + 1)) = T := ⟨_, rfl⟩
  by_cases hT1 : (100000 : Int) < T
  · go_wp2_with fail
    go_ret
    exact ⟨by simp, Below.refl _ _⟩
  by_cases hK1 : (100000 : Int) < (K : Int)
  · go_wp2_with fail
    go_ret
    exact ⟨by simp, Below.refl _ _⟩
  go_wp2_with fail
  clear hT hT1
  refine (HMP.out w (Below.refl _ _)).mono ?_
  rintro e w4 ⟨A1, M, C1, Y, rfl, hm, hb4⟩
  have HM := Lib.hid hm
  have HGD := Lib.hid hm.good
  have HB4 : Hid (Below w.heap.size w w4) := hb4
  have HMM : Hid (∀ W, Below w4.heap.size w4 W → MapAt W A1 M C1 Y) := fun W hb => hm.below hb
  clear hm hb4 HMP
  have HRT := Lib.hid (rroot_any wd A1 M C1 Y w4 ⟨HM.out.ents, HM.out.le, by have := HM.out.few; omega, HM.out.val, HM.out.nodup, HM.out.sorted, fun _ _ _ _ _ hb => by omega⟩ (HTT.out w4 HB4.out).2)
  have HND := Lib.hid HM.out.nodup
  have HRF : Hid ((subD wd 256 (lst Y M)).length = 32 ∧ IsB (subD wd 256 (lst Y M))) := ⟨(subD_facts wd 256 _).1, (subD_facts wd 256 _).2.1⟩
  have HBY := Lib.hid (fun W ks (hb : Below w4.heap.size w4 W) (hk : IsB ks) (hkl : ks.length = 32) => rbytes_any wd A1 M C1 Y ks W (HMM.out W hb) hk hkl (HTT.out W (HB4.out.trans (hb.mono HB4.out.size))).2)
  have HLK := Lib.hid (fun W ks (hb : Below w4.heap.size w4 W) (hk : IsB ks) (hkl : ks.length = 32) => rlook_any A1 M C1 Y ks W (HMM.out W hb) hk hkl)
  have HWW : Hid (¬ (wd < 1 ∨ 32 < wd)) := by show ¬ _; omega
  have HVE : Hid (∀ W c ks, Below w.heap.size w W → IsB ks → ks.length = 32 → ∀ A base, OwnU W base (.slice A (encN (prM wd (lst Y M) ks)).length c) (encN (prM wd (lst Y M) ks)) → Calls Tryd.prog 7 #[.int .i64 wd, .agg (bvs (subD wd 256 (lst Y M))).toArray, .agg (bvs ks).toArray, .slice A (encN (prM wd (lst Y M) ks)).length c] W (Answers 0 (encN (prM wd (lst Y M) ks)) W)) := fun W c ks hb hk hkl A base ho => by
    obtain ⟨o1, o2, o3, o4, o5⟩ := own_facts ho
    exact verify_ans wd _ ks _ A _ c W HRF.out.1 HRF.out.2 hkl hk o1 o2 o3 o4 o5 (by have := (encN_len (prM_ok wd HGD.out ks)).2; omega) (HTT.out W hb).1 0 (errP_map hw1 hw2 HGD.out HND.out hk hkl)
  have HPT : Hid (∀ W c ks, Below w.heap.size w W → IsB ks → ks.length = 32 → ∀ A base, OwnU W base (.slice A (encN (prM wd (lst Y M) ks)).length c) (encN (prM wd (lst Y M) ks)) → Calls Tryd.prog 14 #[.int .i64 wd, .agg (bvs ks).toArray, .slice A (encN (prM wd (lst Y M) ks)).length c] W fun e w' => Below W.heap.size W w' ∧ ∃ g c, e = .returned (.tuple #[.slice (some ⟨g, 0, none⟩) 257 c, .int .i64 0]) ∧ g < w'.heap.size ∧ w'.rangeAt g (256 * 32) (bvs (subD wd 256 (lst Y M)))) := fun W c ks hb hk hkl A base ho => by
    obtain ⟨o1, o2, o3, o4, o5⟩ := own_facts ho
    have h1 := path_ok wd ks _ A _ c W _ hkl hk o1 o2 o3 o4 o5 (by have := (encN_len (prM_ok wd HGD.out ks)).2; omega) (HTT.out W hb).1 HWW.out (decN_enc (prM_ok wd HGD.out ks)) (prM_form wd (lst Y M) ks)
    rwa [prM_path wd HGD.out HND.out hk hkl (Nat.le_refl _), Nat.sub_self, underL_zero] at h1
  have HAN : Hid (∀ ks, ansF 0 (encN (prM wd (lst Y M) ks)) = foundL (lst Y M) ks ∧ ansV 0 (encN (prM wd (lst Y M) ks)) = valL (lst Y M) ks) := fun ks => ans_map HGD.out
  clear HM HGD HMM HND
  unfold BytesRet at HBY
  unfold LookRet at HLK
  generalize subD wd 256 (lst Y M) = R at *
  have HK1 := Lib.hid hK1
  clear hK1
  generalize decide ((100000 : Int) < T) = d1 at *
  generalize decide ((100000 : Int) < (K : Int)) = d2 at *
  go_wp2_with fail
  refine HRT.out.mono ?_
  rintro e w5 ⟨rfl, hb5⟩
  have HB45 : Hid (Below w4.heap.size w4 w5) := hb5
  clear hb5 HRT
  go_wp2_with (first
    | ((with_reducible refine stopAt (o := ⟨some 9, _, _, _, _, _⟩) ?_); refine allocNew (o := ⟨some 9, _, _, _, _, _⟩) (by rfl) 29 rfl _ _ info_dig ?_; intro w6 HE6 HW6 HS6)
    | ((with_reducible refine stopAt (o := ⟨none, .store _ (.tmp 9) _, _, _, _, _⟩) ?_); refine wpList_store_part (o := ⟨none, _, _, _, _, _⟩) (by rfl) 29 (.tmp 9) (.tmp 35) rfl 0 [] (bvs (zs 32)) (bvs R) [] rfl rfl (blk_in HE6.out) rfl (by simp [bvs, zs, HRF.out.1]) (by rw [size_dig]; simp [bvs, HRF.out.1]) (fun u hu => bvs_oneCell _ u hu) ?_; intro w7 h7 g7; have HB7 : Hid (Below w5.heap.size w5 w7) := HW6.out.grown g7 HW6.out.size (fun k hk => by injection hk with hk; omega))
    | ((with_reducible refine stopAt (o := ⟨some 36, _, _, _, _, _⟩) ?_); refine buildAt (o := ⟨some 36, _, _, _, _, _⟩) (by rfl) 31 #[(0, .const (.int .u8 1))] rfl [(0, .int .u8 1)] (by simp [go_sem]) _ built_k1 ?_)
    | ((with_reducible refine stopAt (o := ⟨some 37, _, _, _, _, _⟩) ?_); refine buildSlice1 (o := ⟨some 37, _, _, _, _, _⟩) rfl w7 34 31 _ 32 (.tmp 36) rfl und_kyl info_key2 (by decide) (by decide) (bvs k1).toArray rfl (by simp [bvs, k1_facts.2]) ?_)
    | (with_reducible refine stopAt (o := ⟨some 39, _, _, _, _, _⟩) ?_))
  have HB47 : Hid (Below w4.heap.size w4 w7) := HB45.out.trans (HB7.out.mono HB45.out.size)
  have HBw7 : Hid (Below w.heap.size w w7) := HB4.out.trans (HB47.out.mono HB4.out.size)
  have HR7 : Hid (BlkB w7 w5.heap.size 29 R) := blk_out h7
  have HB8a : Hid (Below w7.heap.size w7 (w7.alloc (.cells (bvs k1).toArray 31))) := (Below.refl _ _).alloc (Nat.le_refl _) _
  clear HE6 HW6 HS6 h7 g7 HB45 HB7
  refine appendK (o := ⟨some 39, _, _, _, _, _⟩) _ (by rfl) (.tmp 37) (.tmp 38) (by rfl) w7.heap.size _ 1 (bvs k1) own_key A2 K C2 Z (HKZ.out.1.below (HBw7.out.trans (HB8a.out.mono HBw7.out.size))) HKZ.out.2 (by rfl) (by rfl) (by have := HK1.out; omega) (by have := HK1.out; omega) HB8a.out.size ?_
  intro v8 w8 ho8 hg8
  rw [Nat.add_comm 1 K] at ho8
  obtain ⟨g, c8, rfl, hgg, hgl, -⟩ := own_head ho8 (Nat.succ_pos K)
  have HKK : Hid (KBs w8 (some ⟨g, 0, none⟩) (K + 1) (keysX Z)) := kbs_own (by rw [flat_keysX, show bvs (k1 ++ flatK Z K) = bvs k1 ++ bvs (flatK Z K) by simp [bvs]]; exact ho8) fun k hk => by
    rcases k with _ | k
    · exact k1_facts
    · exact ⟨(HKZ.out.1 k (by omega)).1, (HKZ.out.1 k (by omega)).2.1⟩
  have HB78 : Hid (Below w7.heap.size w7 w8) := HB8a.out.grown hg8 HB8a.out.size fun k hk => by have h1 : some w7.heap.size = some k := hk; injection h1 with h1; omega
  have HR8 : Hid (BlkB w8 w5.heap.size 29 R) := BlkIs.below HR7.out HB78.out
  have HB48 : Hid (Below w4.heap.size w4 w8) := HB47.out.trans (HB78.out.mono HB47.out.size)
  have HBw8 : Hid (Below w.heap.size w w8) := HBw7.out.trans (HB78.out.mono HBw7.out.size)
  have HGL := Lib.hid hgl
  have hKI2 : (K : Int) + 1 ≤ 100001 := by have := HK1.out; omega
  clear ho8 hg8 hgg hgl HB8a HR7 HB78 HB47 HBw7
  generalize keysX Z = XX at *
  go_wp2_with fail
  go_loopw [10] (fun i wr => ∃ k : Nat, k ≤ K + 1 ∧ i = .int .i64 k ∧ Hid (Below w8.heap.size w8 wr)) (fun i _ => K + 1 - (intOf i).toNat)
  case atStart => exact ⟨0, by omega, rfl, Below.refl _ _⟩
  case round =>
    obtain ⟨k, hk, rfl, HB⟩ := hrel
    by_cases hlt : k < K + 1
    · have hlt' : (k : Int) < (K : Int) + 1 := by omega
      obtain ⟨hkB, hkl, b, o, e, hkr⟩ := HKK.out k hlt
      injection e with e
      injection e with e1 e2 e3
      subst e1 e2
      rw [Nat.zero_add] at hkr
      have HKX := Lib.hid (And.intro hkl hkB)
      have HKR := Lib.hid hkr
      clear hkB hkl hkr
      generalize XX k = ks at *
      have HB4r : Hid (Below w4.heap.size w4 wr) := HB48.out.trans (HB.out.mono HB48.out.size)
      have HBr := Lib.hid (HBw8.out.trans (HB.out.mono HBw8.out.size))
      have HBY' := Lib.hid (HBY.out wr ks HB4r.out HKX.out.2 HKX.out.1)
      have HLK' := Lib.hid (fun W hb => HLK.out W ks hb HKX.out.2 HKX.out.1)
      have HVE' := Lib.hid (fun W c hb => HVE.out W c ks hb HKX.out.2 HKX.out.1)
      have HPT' := Lib.hid (fun W c hb => HPT.out W c ks hb HKX.out.2 HKX.out.1)
      have HAN' := Lib.hid (HAN.out ks)
      clear HBY HLK HVE HPT HAN
      generalize encN (prM wd (lst Y M) ks) = xs at *
      generalize foundL (lst Y M) ks = fd at *
      generalize valL (lst Y M) ks = vl at *
      go_wp2_with (refine wpList_load_arr (o := ⟨some 51, _, _, _, _, _⟩) (by rfl) 31 (.tmp 50) rfl ⟨g, k * 32, none⟩ 32 ks rfl (HKR.out.below HB.out) (by omega) (by kernel_rfl) (by kernel_rfl) ?_)
      refine HBY'.out.mono ?_
      rintro e w9 ⟨v, rfl, hv9, hb9⟩
      obtain ⟨Ax, cx, rfl, _⟩ := hv9.form
      have HO9 := Lib.hid hv9
      have HB89 : Hid (Below w8.heap.size w8 w9) := HB.out.trans (hb9.mono HB.out.size)
      have HBw9 : Hid (Below w.heap.size w w9) := HBw8.out.trans (HB89.out.mono HBw8.out.size)
      have HB49 : Hid (Below w4.heap.size w4 w9) := HB48.out.trans (HB89.out.mono HB48.out.size)
      have HKRR : Hid (∀ W, Below w9.heap.size w9 W → RB W (some ⟨g, k * 32, none⟩) 32 ks) := fun W hb => (HKR.out.below HB89.out).below hb
      have HR9 : Hid (∀ W, Below w9.heap.size w9 W → W.rangeAt w5.heap.size 0 (bvs R)) := fun W hb => BlkIs.range (BlkIs.below (BlkIs.below HR8.out HB89.out) hb)
      have HSS : Hid (∀ W, Below w9.heap.size w9 W → W.rangeAt w5.heap.size 0 (bvs R) ∧ W.rangeAt g (k * 32) (bvs ks)) := fun W hb => ⟨HR9.out W hb, rb_rangeK (HKRR.out W hb)⟩
      clear hv9 hb9 HBY' HB HBr HB4r
      have hud := und_dig
      have huk := und_key
      have hszd : (Tryd.prog.info? 29).map (·.size) = some (bvs R).length := by rw [size_dig]; simp [bvs, HRF.out.1]
      have hszk : (Tryd.prog.info? 31).map (·.size) = some (bvs ks).length := by rw [size_key]; simp [bvs, HKX.out.1]
      go_upto_region 11 with fail
      go_cut [12, 13] from 40 to 112 (fun s12 s13 wx => ∃ B Aa ca, s12 = .pointer (some ⟨B, 0, none⟩) ∧ s13 = .int .i64 0 ∧ Hid (Below w9.heap.size w9 wx) ∧ Hid (BlkIs wx B 24 #[.bool fd, .slice Aa vl.length ca]) ∧ Hid (OwnU wx w9.heap.size (.slice Aa vl.length ca) vl))
      case first =>
        refine wp_region_held_drew (S := fun w' => w'.rangeAt w5.heap.size 0 (bvs R) ∧ w'.rangeAt g (k * 32) (bvs ks)) (by kernel_rfl) (HSS.out _ (drewN_below (Below.refl _ _) 1)) fun hH => ?_
        have HN0 : Hid (Below w9.heap.size w9 w9.drew) := drewN_below (Below.refl _ _) 1
        have HB0 : Hid (Below w.heap.size w w9.drew) := HBw9.out.trans (HN0.out.mono HBw9.out.size)
        have HO0 := Lib.hid (HO9.out.below HN0.out)
        generalize w9.drew = w0 at *
        refine wpAnyH_take (i := 0) (oi := ⟨some 54, _, _, _, _, _⟩) rfl (by kernel_rfl) (by kernel_rfl) (by kernel_rfl) (fun _ _ _ h => h) (Or.inl ⟨by rfl, fun w hw => by ((try dsimp only at hw); go_split_ands; go_simp; with_reducible rfl)⟩) (by assumption) ?_
        try simp only [Act.put, List.setIfInBounds_toArray, List.set_cons_zero, List.set_cons_succ]
        refine wpAnyH_take (i := 1) (oi := ⟨some 55, _, _, _, _, _⟩) rfl (by kernel_rfl) (by kernel_rfl) (by kernel_rfl) (fun _ _ _ h => h) (yieldsIf_load_mid (by rfl) _ _ rfl _ _ rfl _ _ (fun w hw => by (try dsimp only at hw); go_split_ands; assumption) (by assumption) rfl (by assumption)) (by assumption) ?_
        try simp only [Act.put, List.setIfInBounds_toArray, List.set_cons_zero, List.set_cons_succ]
        refine wpAnyH_take (i := 2) (oi := ⟨some 56, _, _, _, _, _⟩) rfl (by kernel_rfl) (by kernel_rfl) (by kernel_rfl) (fun _ _ _ h => h) (Or.inl ⟨by rfl, fun w hw => by ((try dsimp only at hw); go_split_ands; go_simp; with_reducible rfl)⟩) (by assumption) ?_
        try simp only [Act.put, List.setIfInBounds_toArray, List.set_cons_zero, List.set_cons_succ]
        refine wpAnyH_take (i := 3) (oi := ⟨some 57, _, _, _, _, _⟩) rfl (by kernel_rfl) (by kernel_rfl) (by kernel_rfl) (fun _ _ _ h => h) (Or.inl ⟨by rfl, fun w hw => by ((try dsimp only at hw); go_split_ands; go_simp; with_reducible rfl)⟩) (by assumption) ?_
        try simp only [Act.put, List.setIfInBounds_toArray, List.set_cons_zero, List.set_cons_succ]
        refine wpAnyH_take (i := 4) (oi := ⟨some 58, _, _, _, _, _⟩) rfl (by kernel_rfl) (by kernel_rfl) (by kernel_rfl) (fun _ _ _ h => h) (Or.inl ⟨by rfl, fun w hw => by ((try dsimp only at hw); go_split_ands; go_simp; with_reducible rfl)⟩) (by assumption) ?_
        try simp only [Act.put, List.setIfInBounds_toArray, List.set_cons_zero, List.set_cons_succ]
        refine wpAnyH_take (i := 5) (oi := ⟨some 59, _, _, _, _, _⟩) rfl (by kernel_rfl) (by kernel_rfl) (by kernel_rfl) (fun _ _ _ h => h) (yieldsIf_load_mid (by rfl) _ _ rfl _ _ rfl _ _ (fun w hw => by (try dsimp only at hw); go_split_ands; assumption) (by assumption) rfl (by assumption)) (by assumption) ?_
        try simp only [Act.put, List.setIfInBounds_toArray, List.set_cons_zero, List.set_cons_succ]
        refine wpAnyH_take (i := 6) (oi := ⟨some 60, _, _, _, _, _⟩) rfl (by kernel_rfl) (by kernel_rfl) (by kernel_rfl) (fun _ _ _ h => h) (Or.inl ⟨by rfl, fun w hw => by ((try dsimp only at hw); go_split_ands; go_simp; with_reducible rfl)⟩) (by assumption) ?_
        try simp only [Act.put, List.setIfInBounds_toArray, List.set_cons_zero, List.set_cons_succ]
        refine wpAnyH_ready (rs := [7, 11]) (by kernel_rfl) (by simp) ?_
        refine AllReadyH.cons rfl (fun K hK => ?_) (AllReadyH.cons rfl (fun K hK => ?_) AllReadyH.nil)
        · go_simp
          go_at_call 7
          refine (HVE'.out w0 cx HB0.out Ax _ HO0.out).mono ?_
          rintro e y1 ⟨hb1, Aa, ca, rfl, ho1⟩
          rw [HAN'.out.2] at ho1
          rw [HAN'.out.1, HAN'.out.2]
          have HB_1 : Hid (Below w.heap.size w y1) := HB0.out.trans (hb1.mono HB0.out.size)
          have HN_1 : Hid (Below w9.heap.size w9 y1) := HN0.out.trans (hb1.mono HN0.out.size)
          have HO_1 : Hid (OwnU y1 wr.heap.size (.slice Ax xs.length cx) xs) := HO0.out.below hb1
          have HF_1 : Hid (OwnU y1 w9.heap.size (.slice Aa vl.length ca) vl) := ho1.mono HN0.out.size
          refine hK.out _ _ (HSS.out _ HN_1.out) (fun hH => ?_)
          clear hK hb1
          refine wpAnyH_take (i := 8) (oi := ⟨some 53, _, _, _, _, _⟩) rfl (by kernel_rfl) (by kernel_rfl) (by kernel_rfl) (fun _ _ _ h => h) (Or.inl ⟨by rfl, fun w hw => by ((try dsimp only at hw); go_split_ands; go_simp; with_reducible rfl)⟩) (by assumption) ?_
          try simp only [Act.put, List.setIfInBounds_toArray, List.set_cons_zero, List.set_cons_succ]
          refine wpAnyH_take (i := 9) (oi := ⟨some 62, _, _, _, _, _⟩) rfl (by kernel_rfl) (by kernel_rfl) (by kernel_rfl) (fun _ _ _ h => h) (Or.inl ⟨by rfl, fun w hw => by ((try dsimp only at hw); go_split_ands; go_simp; with_reducible rfl)⟩) (by assumption) ?_
          try simp only [Act.put, List.setIfInBounds_toArray, List.set_cons_zero, List.set_cons_succ]
          refine wpAnyH_take (i := 10) (oi := ⟨some 63, _, _, _, _, _⟩) rfl (by kernel_rfl) (by kernel_rfl) (by kernel_rfl) (fun _ _ _ h => h) (Or.inl ⟨by rfl, fun w hw => by ((try dsimp only at hw); go_split_ands; go_simp; with_reducible rfl)⟩) (by assumption) ?_
          try simp only [Act.put, List.setIfInBounds_toArray, List.set_cons_zero, List.set_cons_succ]
          refine wpAnyH_ready (rs := [11]) (by kernel_rfl) (by simp) ?_
          refine AllReadyH.cons rfl (fun K hK => ?_) AllReadyH.nil
          refine wpOp_alloc (o := ⟨some 12, _, _, _, _, _⟩) (by rfl) 24 rfl _ _ info_ans ?_
          intro y2 hz2 hb2 hs2
          have hb2 := hb2.out
          have HB_2 : Hid (Below w.heap.size w y2) := HB_1.out.trans (hb2.mono HB_1.out.size)
          have HN_2 : Hid (Below w9.heap.size w9 y2) := HN_1.out.trans (hb2.mono HN_1.out.size)
          have HO_2 : Hid (OwnU y2 wr.heap.size (.slice Ax xs.length cx) xs) := HO_1.out.below hb2
          have HF_2 : Hid (OwnU y2 w9.heap.size (.slice Aa vl.length ca) vl) := HF_1.out.below hb2
          have HA_2 : Hid (BlkIs y2 y1.heap.size 24 (([] : List Value) ++ (([Value.bool false, Value.slice none 0 0] : List Value) ++ [])).toArray) := hz2.out
          have HG_2 : Hid (w9.heap.size ≤ y1.heap.size) := HN_1.out.size
          refine hK.out _ _ (HSS.out _ HN_2.out) (fun hH => ?_)
          clear hK hb2
          refine wpAnyH_ready (rs := [12]) (by kernel_rfl) (by simp) ?_
          refine AllReadyH.cons (o := ⟨none, _, _, _, _, _⟩) rfl (fun K hK => ?_) AllReadyH.nil
          refine wpOp_store_part (o := ⟨none, _, _, _, _, _⟩) (by rfl) 24 (.tmp 12) (.tmp 62) rfl 0 [] [.bool false, .slice none 0 0] [.bool fd, .slice Aa vl.length ca] [] rfl rfl HA_2.out rfl rfl (by rw [size_ans]; rfl) (by intro u hu; simp at hu; rcases hu with rfl | rfl <;> rfl) ?_
          intro z1 hz1 gz1
          have HNz : Hid (Below w9.heap.size w9 z1) := HN_2.out.grown gz1 HN_2.out.size fun k hk => by injection hk with hk; have := HG_2.out; omega
          have HFz : Hid (OwnU z1 w9.heap.size (.slice Aa vl.length ca) vl) := (Touch.one gz1).own HF_2.out fun B hB e => row_blk HF_2.out.1 HA_2.out (by decide) (by rw [hB, e])
          refine hK.out _ _ (HSS.out _ HNz.out) (fun hH => ?_)
          clear hK
          refine wpAnyH_take (i := 13) (oi := ⟨some 13, _, _, _, _, _⟩) rfl (by kernel_rfl) (by kernel_rfl) (by kernel_rfl) (fun _ _ _ h => h) (Or.inl ⟨by rfl, fun w hw => by ((try dsimp only at hw); go_split_ands; go_simp; with_reducible rfl)⟩) (by assumption) ?_
          try simp only [Act.put, List.setIfInBounds_toArray, List.set_cons_zero, List.set_cons_succ]
          refine wpAnyH_done (by kernel_rfl) ?_ _
          go_wp2_with fail
          go_meet
          case rel => exact ⟨y1.heap.size, Aa, ca, rfl, rfl, HNz.out, hz1, HFz.out⟩
        · refine wpOp_alloc (o := ⟨some 12, _, _, _, _, _⟩) (by rfl) 24 rfl _ _ info_ans ?_
          intro y3 hz3 hb3 hs3
          have hb3 := hb3.out
          have HB_3 : Hid (Below w.heap.size w y3) := HB0.out.trans (hb3.mono HB0.out.size)
          have HN_3 : Hid (Below w9.heap.size w9 y3) := HN0.out.trans (hb3.mono HN0.out.size)
          have HO_3 : Hid (OwnU y3 wr.heap.size (.slice Ax xs.length cx) xs) := HO0.out.below hb3
          have HA_3 : Hid (BlkIs y3 w0.heap.size 24 (([] : List Value) ++ (([Value.bool false, Value.slice none 0 0] : List Value) ++ [])).toArray) := hz3.out
          have HG_3 : Hid (w9.heap.size ≤ w0.heap.size) := HN0.out.size
          refine hK.out _ _ (HSS.out _ HN_3.out) (fun hH => ?_)
          clear hK hb3
          refine wpAnyH_ready (rs := [7]) (by kernel_rfl) (by simp) ?_
          refine AllReadyH.cons rfl (fun K hK => ?_) AllReadyH.nil
          go_simp
          go_at_call 7
          refine (HVE'.out y3 cx HB_3.out Ax _ HO_3.out).mono ?_
          rintro e y4 ⟨hb4, Aa, ca, rfl, ho4⟩
          rw [HAN'.out.2] at ho4
          rw [HAN'.out.1, HAN'.out.2]
          have HB_4 : Hid (Below w.heap.size w y4) := HB_3.out.trans (hb4.mono HB_3.out.size)
          have HN_4 : Hid (Below w9.heap.size w9 y4) := HN_3.out.trans (hb4.mono HN_3.out.size)
          have HO_4 : Hid (OwnU y4 wr.heap.size (.slice Ax xs.length cx) xs) := HO_3.out.below hb4
          have HA_4 : Hid (BlkIs y4 w0.heap.size 24 (([] : List Value) ++ (([Value.bool false, Value.slice none 0 0] : List Value) ++ [])).toArray) := BlkIs.below HA_3.out hb4
          have HG_4 : Hid (w9.heap.size ≤ w0.heap.size) := HG_3.out
          have HF_4 : Hid (OwnU y4 w9.heap.size (.slice Aa vl.length ca) vl) := ho4.mono HN_3.out.size
          refine hK.out _ _ (HSS.out _ HN_4.out) (fun hH => ?_)
          clear hK hb4
          refine wpAnyH_take (i := 8) (oi := ⟨some 53, _, _, _, _, _⟩) rfl (by kernel_rfl) (by kernel_rfl) (by kernel_rfl) (fun _ _ _ h => h) (Or.inl ⟨by rfl, fun w hw => by ((try dsimp only at hw); go_split_ands; go_simp; with_reducible rfl)⟩) (by assumption) ?_
          try simp only [Act.put, List.setIfInBounds_toArray, List.set_cons_zero, List.set_cons_succ]
          refine wpAnyH_take (i := 9) (oi := ⟨some 62, _, _, _, _, _⟩) rfl (by kernel_rfl) (by kernel_rfl) (by kernel_rfl) (fun _ _ _ h => h) (Or.inl ⟨by rfl, fun w hw => by ((try dsimp only at hw); go_split_ands; go_simp; with_reducible rfl)⟩) (by assumption) ?_
          try simp only [Act.put, List.setIfInBounds_toArray, List.set_cons_zero, List.set_cons_succ]
          refine wpAnyH_take (i := 10) (oi := ⟨some 63, _, _, _, _, _⟩) rfl (by kernel_rfl) (by kernel_rfl) (by kernel_rfl) (fun _ _ _ h => h) (Or.inl ⟨by rfl, fun w hw => by ((try dsimp only at hw); go_split_ands; go_simp; with_reducible rfl)⟩) (by assumption) ?_
          try simp only [Act.put, List.setIfInBounds_toArray, List.set_cons_zero, List.set_cons_succ]
          refine wpAnyH_ready (rs := [12]) (by kernel_rfl) (by simp) ?_
          refine AllReadyH.cons (o := ⟨none, _, _, _, _, _⟩) rfl (fun K hK => ?_) AllReadyH.nil
          refine wpOp_store_part (o := ⟨none, _, _, _, _, _⟩) (by rfl) 24 (.tmp 12) (.tmp 62) rfl 0 [] [.bool false, .slice none 0 0] [.bool fd, .slice Aa vl.length ca] [] rfl rfl HA_4.out rfl rfl (by rw [size_ans]; rfl) (by intro u hu; simp at hu; rcases hu with rfl | rfl <;> rfl) ?_
          intro z1 hz1 gz1
          have HNz : Hid (Below w9.heap.size w9 z1) := HN_4.out.grown gz1 HN_4.out.size fun k hk => by injection hk with hk; have := HG_4.out; omega
          have HFz : Hid (OwnU z1 w9.heap.size (.slice Aa vl.length ca) vl) := (Touch.one gz1).own HF_4.out fun B hB e => row_blk HF_4.out.1 HA_4.out (by decide) (by rw [hB, e])
          refine hK.out _ _ (HSS.out _ HNz.out) (fun hH => ?_)
          clear hK
          refine wpAnyH_take (i := 13) (oi := ⟨some 13, _, _, _, _, _⟩) rfl (by kernel_rfl) (by kernel_rfl) (by kernel_rfl) (fun _ _ _ h => h) (Or.inl ⟨by rfl, fun w hw => by ((try dsimp only at hw); go_split_ands; go_simp; with_reducible rfl)⟩) (by assumption) ?_
          try simp only [Act.put, List.setIfInBounds_toArray, List.set_cons_zero, List.set_cons_succ]
          refine wpAnyH_done (by kernel_rfl) ?_ _
          go_wp2_with fail
          go_meet
          case rel => exact ⟨w0.heap.size, Aa, ca, rfl, rfl, HNz.out, hz1, HFz.out⟩
      case rest =>
        obtain ⟨B, Aa, ca, rfl, rfl, HNc, HAc, HFc⟩ := hcut
        obtain ⟨w10, rfl⟩ : ∃ x, x = wc := ⟨_, rfl⟩
        clear hud huk hszd hszk HVE'
        go_wp2_with (refine wpList_load_arr (o := ⟨some 69, _, _, _, _, _⟩) (by rfl) 31 (.tmp 68) rfl ⟨g, k * 32, none⟩ 32 ks rfl (HKRR.out w10 HNc.out) (by omega) (by kernel_rfl) (by kernel_rfl) ?_)
        refine (HLK'.out w10 (HB49.out.trans (HNc.out.mono HB49.out.size))).mono ?_
        rintro e w12 ⟨hb12, Al, cl, rfl, hrl⟩
        have HN12 : Hid (Below w9.heap.size w9 w12) := HNc.out.trans (hb12.mono HNc.out.size)
        have HBw12 : Hid (Below w.heap.size w w12) := HBw9.out.trans (HN12.out.mono HBw9.out.size)
        have ca0 := BlkIs.cell (BlkIs.below HAc.out hb12) 0
        have ca1 := BlkIs.cell (BlkIs.below HAc.out hb12) 1
        have hv1 := conv_rb 22 9 5 und_bytes (by kernel_rfl) (by kernel_rfl) (HFc.out.below hb12).reads
        have hv2 := conv_rb 22 9 5 und_bytes (by kernel_rfl) (by kernel_rfl) hrl
        have HP12 := Lib.hid (HPT'.out w12 cx HBw12.out Ax _ (HO9.out.below HN12.out))
        clear hb12 hrl HLK' HPT' HAc HFc HNc
        generalize strB vl = s1 at *
        generalize vl.length = l1 at *
        go_wp2_with ((with_reducible refine stopAt (o := ⟨some 94, _, _, _, _, _⟩) ?_); refine wpList_load_arr (o := ⟨some 94, _, _, _, _, _⟩) (by rfl) 31 (.tmp 93) rfl ⟨g, k * 32, none⟩ 32 ks rfl (HKRR.out w12 HN12.out) (by omega) (by kernel_rfl) (by kernel_rfl) ?_)
        refine HP12.out.mono ?_
        rintro e w13 ⟨hb13, gp, cp, rfl, hgp, hrp⟩
        have HN13 : Hid (Below w9.heap.size w9 w13) := HN12.out.trans (hb13.mono HN12.out.size)
        have HS13 : Hid (∀ W, Below w13.heap.size w13 W → W.rangeAt gp 8192 (bvs R) ∧ W.rangeAt w5.heap.size 0 (bvs R)) := fun W hb => ⟨range_below hb hgp hrp, HR9.out W (HN13.out.trans (hb.mono HN13.out.size))⟩
        have hEq : ∀ W, (Op.equalIn 10000 29 (.agg (bvs R).toArray) (.agg (bvs R).toArray)).run Tryd.prog W = .ok true W := fun W => by rw [dig_eq W R R HRF.out.2 HRF.out.2 HRF.out.1 HRF.out.1, decide_eq_true rfl]
        have hud := und_dig
        have hszd : (Tryd.prog.info? 29).map (·.size) = some (bvs R).length := by rw [size_dig]; simp [bvs, HRF.out.1]
        clear hb13 hgp hrp ca0 ca1 hv1 hv2 HP12
        go_upto_region 16 with fail
        refine wp_region_held_drew (S := fun w' => w'.rangeAt gp 8192 (bvs R) ∧ w'.rangeAt w5.heap.size 0 (bvs R)) (by kernel_rfl) (HS13.out _ (drewN_below (Below.refl _ _) 1)) fun hH => ?_
        have HB14 : Hid (Below w13.heap.size w13 w13.drew) := drewN_below (Below.refl _ _) 1
        generalize w13.drew = w14 at *
        refine wpAnyH_take (i := 0) (oi := ⟨some 99, _, _, _, _, _⟩) rfl (by kernel_rfl) (by kernel_rfl) (by kernel_rfl) (fun _ _ _ h => h) (Or.inl ⟨by rfl, fun w hw => by ((try dsimp only at hw); go_split_ands; go_simp; with_reducible rfl)⟩) (by assumption) ?_
        try simp only [Act.put, List.setIfInBounds_toArray, List.set_cons_zero, List.set_cons_succ]
        refine wpAnyH_take (i := 1) (oi := ⟨some 100, _, _, _, _, _⟩) rfl (by kernel_rfl) (by kernel_rfl) (by kernel_rfl) (fun _ _ _ h => h) (Or.inl ⟨by rfl, fun w hw => by ((try dsimp only at hw); go_split_ands; go_simp; with_reducible rfl)⟩) (by assumption) ?_
        try simp only [Act.put, List.setIfInBounds_toArray, List.set_cons_zero, List.set_cons_succ]
        refine wpAnyH_take (i := 2) (oi := ⟨some 101, _, _, _, _, _⟩) rfl (by kernel_rfl) (by kernel_rfl) (by kernel_rfl) (fun _ _ _ h => h) (Or.inl ⟨by rfl, fun w hw => by ((try dsimp only at hw); go_split_ands; go_simp; with_reducible rfl)⟩) (by assumption) ?_
        try simp only [Act.put, List.setIfInBounds_toArray, List.set_cons_zero, List.set_cons_succ]
        refine wpAnyH_take (i := 3) (oi := ⟨some 102, _, _, _, _, _⟩) rfl (by kernel_rfl) (by kernel_rfl) (by kernel_rfl) (fun _ _ _ h => h) (Or.inl ⟨by rfl, fun w hw => by ((try dsimp only at hw); go_split_ands; go_simp; with_reducible rfl)⟩) (by assumption) ?_
        try simp only [Act.put, List.setIfInBounds_toArray, List.set_cons_zero, List.set_cons_succ]
        refine wpAnyH_take (i := 4) (oi := ⟨some 103, _, _, _, _, _⟩) rfl (by kernel_rfl) (by kernel_rfl) (by kernel_rfl) (fun _ _ _ h => h) (Or.inl ⟨by rfl, fun w hw => by ((try dsimp only at hw); go_split_ands; go_simp; with_reducible rfl)⟩) (by assumption) ?_
        try simp only [Act.put, List.setIfInBounds_toArray, List.set_cons_zero, List.set_cons_succ]
        refine wpAnyH_take (i := 5) (oi := ⟨some 104, _, _, _, _, _⟩) rfl (by kernel_rfl) (by kernel_rfl) (by kernel_rfl) (fun _ _ _ h => h) (Or.inl ⟨by rfl, fun w hw => by ((try dsimp only at hw); go_split_ands; go_simp; with_reducible rfl)⟩) (by assumption) ?_
        try simp only [Act.put, List.setIfInBounds_toArray, List.set_cons_zero, List.set_cons_succ]
        refine wpAnyH_take (i := 6) (oi := ⟨some 105, _, _, _, _, _⟩) rfl (by kernel_rfl) (by kernel_rfl) (by kernel_rfl) (fun _ _ _ h => h) (Or.inl ⟨by rfl, fun w hw => by ((try dsimp only at hw); go_split_ands; go_simp; with_reducible rfl)⟩) (by assumption) ?_
        try simp only [Act.put, List.setIfInBounds_toArray, List.set_cons_zero, List.set_cons_succ]
        refine wpAnyH_take (i := 7) (oi := ⟨some 106, _, _, _, _, _⟩) rfl (by kernel_rfl) (by kernel_rfl) (by kernel_rfl) (fun _ _ _ h => h) (Or.inl ⟨by rfl, fun w hw => by ((try dsimp only at hw); go_split_ands; go_simp; with_reducible rfl)⟩) (by assumption) ?_
        try simp only [Act.put, List.setIfInBounds_toArray, List.set_cons_zero, List.set_cons_succ]
        refine wpAnyH_take (i := 8) (oi := ⟨some 107, _, _, _, _, _⟩) rfl (by kernel_rfl) (by kernel_rfl) (by kernel_rfl) (fun _ _ _ h => h) (Or.inl ⟨by rfl, fun w hw => by ((try dsimp only at hw); go_split_ands; go_simp; with_reducible rfl)⟩) (by assumption) ?_
        try simp only [Act.put, List.setIfInBounds_toArray, List.set_cons_zero, List.set_cons_succ]
        refine wpAnyH_take (i := 9) (oi := ⟨some 108, _, _, _, _, _⟩) rfl (by kernel_rfl) (by kernel_rfl) (by kernel_rfl) (fun _ _ _ h => h) (Or.inl ⟨by rfl, fun w hw => by ((try dsimp only at hw); go_split_ands; go_simp; with_reducible rfl)⟩) (by assumption) ?_
        try simp only [Act.put, List.setIfInBounds_toArray, List.set_cons_zero, List.set_cons_succ]
        refine wpAnyH_take (i := 10) (oi := ⟨some 109, _, _, _, _, _⟩) rfl (by kernel_rfl) (by kernel_rfl) (by kernel_rfl) (fun _ _ _ h => h) (yieldsIf_load_mid (by rfl) _ _ rfl _ _ rfl _ _ (fun w hw => by (try dsimp only at hw); go_split_ands; assumption) (by assumption) rfl (by assumption)) (by assumption) ?_
        try simp only [Act.put, List.setIfInBounds_toArray, List.set_cons_zero, List.set_cons_succ]
        refine wpAnyH_take (i := 11) (oi := ⟨some 110, _, _, _, _, _⟩) rfl (by kernel_rfl) (by kernel_rfl) (by kernel_rfl) (fun _ _ _ h => h) (yieldsIf_load_mid (by rfl) _ _ rfl _ _ rfl _ _ (fun w hw => by (try dsimp only at hw); go_split_ands; assumption) (by assumption) rfl (by assumption)) (by assumption) ?_
        try simp only [Act.put, List.setIfInBounds_toArray, List.set_cons_zero, List.set_cons_succ]
        refine wpAnyH_take (i := 12) (oi := ⟨some 111, _, _, _, _, _⟩) rfl (by kernel_rfl) (by kernel_rfl) (by kernel_rfl) (fun _ _ _ h => h) (Or.inl ⟨by rfl, fun w hw => by ((try dsimp only at hw); go_split_ands; go_simp; with_reducible rfl)⟩) (by assumption) ?_
        try simp only [Act.put, List.setIfInBounds_toArray, List.set_cons_zero, List.set_cons_succ]
        refine wpAnyH_take (i := 13) (oi := ⟨some 112, _, _, _, _, _⟩) rfl (by kernel_rfl) (by kernel_rfl) (by kernel_rfl) (fun _ _ _ h => h) (Or.inl ⟨by rfl, fun w hw => by ((try dsimp only at hw); go_split_ands; go_simp; with_reducible rfl)⟩) (by assumption) ?_
        try simp only [Act.put, List.setIfInBounds_toArray, List.set_cons_zero, List.set_cons_succ]
        clear hH hud hszd hEq
        refine wpAnyH_done (by kernel_rfl) ?_ _
        have HN14 : Hid (Below w9.heap.size w9 w14) := HN13.out.trans (HB14.out.mono HN13.out.size)
        have HB8E : Hid (Below w8.heap.size w8 w14) := HB89.out.trans (HN14.out.mono HB89.out.size)
        go_wp2_with fail
        go_roundw
        case rel => exact ⟨k + 1, by omega, by go_num, HB8E.out⟩
        case measure => simp [intOf]; omega
    · have hnlt : ¬ (k : Int) < (K : Int) + 1 := by omega
      go_wp2_with fail
      go_ret
      exact ⟨by simp, HBw8.out.trans (HB.out.mono HBw8.out.size)⟩
end Go.Proofs.YtfnlhfaihoojfaaDoor
