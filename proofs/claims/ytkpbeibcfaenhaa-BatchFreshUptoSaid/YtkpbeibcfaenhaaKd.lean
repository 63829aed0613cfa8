/- TakeK, ParseK (merged by merge_k.py) -/
import Derived.Test.YtkpbeibcfaenhaaTake
import Derived.Test.YtkpbeibcfaenhaaKa
import Derived.Test.YtkpbeibcfaenhaaParse
/- batch.take, the value a call's own. (printed by gen_takek.py) -/
namespace Go.Proofs.Ytkpbeibcfaenhaa
open Go.RowKit
def TakePostK (A : Option Addr) (xs : List Nat) (w : World) (e : Ending) (w' : World) : Prop :=
  ∃ cs B m d, e = .returned (.tuple #[.agg cs.toArray, .slice B m d, .int .i64 (takeE xs : Nat)]) ∧ Below w.heap.size w w' ∧ cs.length = 34 ∧ (∀ v ∈ cs, v.oneCell' = true) ∧
    (takeE xs = 0 → ∃ Av Cv, cs = chC (takeC xs) Av Cv ∧ OwnU w' w.heap.size (.slice Av (takeC xs).val.length Cv) (takeC xs).val ∧ RB w' Av (takeC xs).val.length (takeC xs).val ∧ (takeC xs).val.length ≤ Cv ∧ Cv ≤ maxLen ∧ (Av = none → Cv = 0) ∧ (∀ ad, Av = some ad → w.heap.size ≤ ad.block) ∧
      RB w' B m (takeR xs) ∧ m ≤ d ∧ (B = none → d = 0) ∧ ∀ ad, B = some ad → ∃ ad', A = some ad' ∧ ad'.block = ad.block)
theorem takePost_K {A : Option Addr} {xs : List Nat} {w w' : World} {e : Ending} (h : TakePost A xs w e w') (h0 : ¬ takeE xs = 0) : TakePostK A xs w e w' := by
  obtain ⟨cs, B, m, d, h1, h2, h3, h4, _⟩ := h
  exact ⟨cs, B, m, d, h1, h2, h3, h4, fun h => absurd h h0⟩
set_option maxRecDepth 100000 in
set_option maxHeartbeats 4000000 in
theorem take_knownK (A : Option Addr) (n c : Nat) (xs : List Nat) (w : World) (hx : RB w A n xs) (hnc : n ≤ c) (hl : 33 ≤ n) (h12 : xs.getD 0 0 = 1 ∨ xs.getD 0 0 = 2) :
    Calls Try.prog 47 #[.slice A n c] w (TakePostK A xs w) := by
  have HX := Lib.hid hx
  have HLX := Lib.hid hx.1
  obtain ⟨ad, rfl, hb, hc0⟩ := hx.at_ (k := 0) (by omega)
  rw [show ad.add 0 = ad by simp [Addr.add]] at hc0
  have HC0 : Hid (∀ W, Below w.heap.size w W → W.cell? ad = some (.int .u8 ((xs.getD 0 0 : Nat) : Int))) := fun W hW => (hW.cell hb).trans hc0
  have hl' : ¬ (n : Int) < 33 := by omega
  have hn0 : (0 : Int) < n := by omega
  clear hx hc0
  obtain ⟨dl, hdl⟩ : ∃ dl : Bool, dl = decide (xs.getD 0 0 = 2) := ⟨_, rfl⟩
  have HDL := Lib.hid hdl
  have H12 := Lib.hid h12
  have e2 : (((xs.getD 0 0 : Nat) : Int) == 2) = dl := by rw [hdl]; exact decide_eq_decide.2 (by omega)
  have e1 : (((xs.getD 0 0 : Nat) : Int) != 1) = dl := by
    rw [hdl]
    rcases h12 with h | h <;> rw [h] <;> rfl
  have e3 : (((xs.getD 0 0 : Nat) : Int) != 2) = !dl := by
    rw [hdl]
    rcases h12 with h | h <;> rw [h] <;> rfl
  clear hdl h12
  go_enter Try.func47, Try.ntmps47
  generalize hx0 : xs.getD 0 0 = x0 at *
  cases dl
  · go_wp2_with (first
      | ((with_reducible refine stopAt (o := ⟨some 2, _, _, _, _, _⟩) ?_); refine allocNew (o := ⟨some 2, _, _, _, _, _⟩) (by rfl) 45 rfl _ _ info_chS ?_; intro w1 HA1 HW1 HS1)
      | ((with_reducible refine stopAt (o := ⟨some 5, _, _, _, _, _⟩) ?_); refine allocNew (o := ⟨some 5, _, _, _, _, _⟩) (by rfl) 45 rfl _ _ info_chS ?_; intro w2 HA2 HW2 HS2; have HA1' := Lib.hid (BlkIs.below HA1.out HW2.out); have HW := Lib.hid (HW1.out.trans (HW2.out.mono HW1.out.size)); have c0 := HC0.out w2 HW.out; have b32 : w2.cell? ⟨w1.heap.size, 32, none⟩ = some (.bool false) := BlkIs.cell HA2.out 32; have f32 := BlkIs.frozen HA2.out 32))
    rename_i KK hKK
    have HKK := Lib.hid hKK
    clear hKK c0 b32 f32
    have hg12 : w.heap.size < w1.heap.size := by have := BlkIs.lt HA1.out; exact this
    have hn1 : (1 : Int) ≤ n := by omega
    have hc1 : ¬ c = 1 := by omega
    have hnc' : (n : Int) ≤ (c : Int) := by omega
    refine wp_region_held_drew (S := fun _ => True) (by kernel_rfl) trivial fun _ => ?_
    refine wpAnyH_take (i := 0) (oi := ⟨some 29, _, _, _, _, _⟩) rfl (by kernel_rfl) (by kernel_rfl) (by kernel_rfl) (fun _ _ _ h => h) (Or.inl ⟨by rfl, fun w hw => by (try dsimp only at hw); go_simp; with_reducible rfl⟩) (by assumption) ?_
    try simp only [Act.put, List.setIfInBounds_toArray, List.set_cons_zero, List.set_cons_succ]
    refine wpAnyH_take (i := 1) (oi := ⟨some 30, _, _, _, _, _⟩) rfl (by kernel_rfl) (by kernel_rfl) (by kernel_rfl) (fun _ _ _ h => h) (Or.inl ⟨by rfl, fun w hw => by (try dsimp only at hw); go_simp; with_reducible rfl⟩) (by assumption) ?_
    try simp only [Act.put, List.setIfInBounds_toArray, List.set_cons_zero, List.set_cons_succ]
    refine wpAnyH_take (i := 2) (oi := ⟨some 31, _, _, _, _, _⟩) rfl (by kernel_rfl) (by kernel_rfl) (by kernel_rfl) (fun _ _ _ h => h) (Or.inl ⟨by rfl, fun w hw => by (try dsimp only at hw); go_simp; with_reducible rfl⟩) (by assumption) ?_
    try simp only [Act.put, List.setIfInBounds_toArray, List.set_cons_zero, List.set_cons_succ]
    refine wpAnyH_take (i := 3) (oi := ⟨some 32, _, _, _, _, _⟩) rfl (by kernel_rfl) (by kernel_rfl) (by kernel_rfl) (fun _ _ _ h => h) (Or.inl ⟨by rfl, fun w hw => by (try dsimp only at hw); go_simp; with_reducible rfl⟩) (by assumption) ?_
    try simp only [Act.put, List.setIfInBounds_toArray, List.set_cons_zero, List.set_cons_succ]
    have HA3 : Hid (BlkIs (w2.setCell ⟨w1.heap.size, 32, none⟩ (.bool false)) w1.heap.size 45 (chS (zs 32) false (.slice none 0 0)).toArray) := chs_setdel HA2.out (zs_length 32) _
    have HA13 : Hid (BlkIs (w2.setCell ⟨w1.heap.size, 32, none⟩ (.bool false)) w.heap.size 45 (chS (zs 32) false (.slice none 0 0)).toArray) := BlkIs.far HA1'.out (by show w.heap.size ≠ w1.heap.size; omega) _
    have HW3 : Hid (Below w.heap.size w (w2.setCell ⟨w1.heap.size, 32, none⟩ (.bool false))) := HW.out.setCell (show w.heap.size ≤ w1.heap.size by omega) _
    generalize w2.setCell ⟨w1.heap.size, 32, none⟩ (.bool false) = w3 at *
    have HS3 : Hid (RB w3 (some ⟨ad.block, ad.off + 1, none⟩) 32 ((xs.drop 1).take 32)) := by
      have h1 := (HX.out.below HW3.out).drop (k := 1) (B := some ⟨ad.block, ad.off + 1, none⟩) (by omega) (fun _ => rfl)
      exact h1.take (by omega)
    obtain ⟨key, hkey⟩ : ∃ key, (xs.drop 1).take 32 = key := ⟨_, rfl⟩
    have HKY := Lib.hid hkey
    rw [hkey] at HS3
    clear hkey
    have HKl : Hid (key.length = 32 ∧ IsB key) := ⟨HS3.out.1, HS3.out.2.1⟩
    refine wpAnyH_ready (rs := [4]) (by kernel_rfl) (by simp) ?_
    refine AllReadyH.cons (o := ⟨some 33, _, _, _, _, _⟩) rfl (fun K hK => ?_) (AllReadyH.nil)
    refine step_copy_splice (o := ⟨some 33, _, _, _, _, _⟩) rfl (.tmp 30) (.tmp 32) 31 31 rfl 5 und_bytes byte_size (some ⟨w1.heap.size, 0, none⟩) (some ⟨ad.block, ad.off + 1, none⟩) 32 32 (n - 1) (c - 1) rfl rfl w1.heap.size 0 _ 45 HA3.out (bvs key) (by
      rw [show (bvs key).length = 32 by unfold bvs; rw [List.length_map, HKl.out.1]]
      exact (Nat.min_eq_right (by omega)).symm) (fun _ => ⟨rfl, _, rfl, rb_cells' HS3.out⟩) (by rw [show (bvs key).length = 32 by unfold bvs; rw [List.length_map, HKl.out.1], chS_length _ _ (zs_length 32)]; omega) (bvs_oneCell _) w1.heap.size w3 (drewN_below (Below.refl _ _) 1) (Nat.le_refl _) ?_
    intro w4 hg4 hb4
    have HA4 : Hid (BlkIs w4 w1.heap.size 45 (chS key false (.slice none 0 0)).toArray) := by
      have h1 := hg4.out
      rwa [chS_key (zs_length 32) HKl.out.1] at h1
    have HA14 : Hid (BlkIs w4 w.heap.size 45 (chS (zs 32) false (.slice none 0 0)).toArray) := BlkIs.belowB HA13.out hb4 (by omega)
    have HW4 : Hid (Below w.heap.size w w4) := HW3.out.trans (hb4.mono (by omega))
    refine hK.out _ _ trivial (fun _ => ?_)
    clear hK hg4 hb4 HA3 HA13 HW3 HS3 HA1' HA1 HW1 HS1 HA2 HW2 HS2 HW
    refine wpAnyH_done (by kernel_rfl) ?_ _
    change KK _ _
    refine HKK.out _ _ ?_
    have b4 : w4.cell? ⟨w1.heap.size, 32, none⟩ = some (.bool false) := (BlkIs.cell HA4.out 32).trans (by rw [List.getElem?_toArray, chS_at32 HKl.out.1])
    (try simp only [Act.put, List.setIfInBounds_toArray, List.set_cons_zero, List.set_cons_succ])
    have hx1 : xs.getD 0 0 = 1 := by
      have h := HDL.out
      have h' := H12.out
      rw [hx0]
      have h2 : ¬ x0 = 2 := by simpa using h.symm
      omega
    have hx2 : ¬ xs.getD 0 0 = 2 := by omega
    have HEV : Hid (takeE xs = if n < 35 then 30 else if 128 < numN (xs.drop 33) then 32 else if n < 35 + numN (xs.drop 33) then 30 else 0) := by
      show _ = _
      unfold takeE
      rw [if_neg (by rw [HLX.out]; omega), if_neg hx2, if_pos hx1, HLX.out]
    have HC : Hid (takeC xs = ⟨key, false, (xs.drop 35).take (numN (xs.drop 33))⟩) := by show _ = _; unfold takeC; rw [if_neg hx2, HKY.out]
    have HRR : Hid (takeR xs = (xs.drop 35).drop (numN (xs.drop 33))) := by show _ = _; unfold takeR; rw [if_neg hx2]
    clear hx1 hx2
    by_cases h35 : n < 35
    · have HE : Hid (takeE xs = 30) := by show _ = _; rw [HEV.out, if_pos h35]
      have h35' : ((n - 33 : Nat) : Int) < 2 := by omega
      go_wp2_with (first
        | ((with_reducible refine stopAt (o := ⟨some 35, _, _, _, _, _⟩) ?_); refine sliceFrom (o := ⟨some 35, _, _, _, _, _⟩) (by rfl) 31 (.tmp 34) (.const (.int .i64 33)) rfl (by kernel_rfl) (by kernel_rfl) (some ad) n c 33 rfl rfl (by omega) hnc ?_; intro B1 HF1)
        | ((with_reducible refine stopAt (o := ⟨some 43, _, _, _, _, _⟩) ?_); refine loadRange (o := ⟨some 43, _, _, _, _, _⟩) (by rfl) 45 (.tmp 5) rfl w1.heap.size 0 _ rfl (BlkIs.range HA4.out) row_chg (by rw [size_chg, chS_length _ _ HKl.out.1]) ?_)
        | ((with_reducible refine stopAt (o := ⟨none, .store _ (.tmp 2) _, _, _, _, _⟩) ?_); refine storeV (o := ⟨none, _, _, _, _, _⟩) (by rfl) 45 (.tmp 2) (.tmp 43) rfl w.heap.size _ _ 45 rfl rfl HA14.out (by rw [size_chg, chS_length _ _ HKl.out.1]) (by rw [chS_length _ _ (zs_length 32), chS_length _ _ HKl.out.1]) (chS_one rfl) ?_; intro w9 HA9 HG9 HS9))
      refine chg_ret (g := w.heap.size) rfl rfl HA9.out (chS_length _ _ HKl.out.1) rfl rfl rfl ?_
      exact ⟨_, _, _, _, by rw [HE.out]; rfl, HW4.out.grown HG9.out HW4.out.size (fun k hk => by injection hk with hk; omega), chS_length _ _ HKl.out.1, chS_one rfl, fun h => by rw [HE.out] at h; cases h⟩
    · have h35' : ¬ ((n - 33 : Nat) : Int) < 2 := by omega
      have HX4 := Lib.hid ((HX.out.below HW4.out).drop (k := 33) (B := some ⟨ad.block, ad.off + 33, none⟩) (by omega) (fun _ => rfl))
      obtain ⟨ad0, e0, _, hc0⟩ := HX4.out.at_ (k := 0) (by omega)
      obtain ⟨ad1, e1', _, hc1⟩ := HX4.out.at_ (k := 1) (by omega)
      injection e0 with e0
      injection e1' with e1'
      subst e0 e1'
      rw [add_lit] at hc0 hc1
      rw [Nat.add_zero] at hc0
      have hc1b : w4.cell? ⟨ad.block, ad.off + 34, none⟩ = some (.int .u8 (((xs.drop 33).getD 1 0 : Nat) : Int)) := hc1
      have hy0 := HX4.out.lt (k := 0) (by omega)
      have hy1 := HX4.out.lt (k := 1) (by omega)
      have HNM : Hid (numN (xs.drop 33) = (xs.drop 33).getD 0 0 + 256 * (xs.drop 33).getD 1 0) := rfl
      have hor := or16 ((xs.drop 33).getD 0 0) ((xs.drop 33).getD 1 0) hy0 hy1
      generalize (xs.drop 33).getD 0 0 = y0 at *
      generalize (xs.drop 33).getD 1 0 = y1 at *
      have hn2 : (1 : Int) < ((n - 33 : Nat) : Int) := by omega
      have hn3 : (0 : Int) < ((n - 33 : Nat) : Int) := by omega
      have hn4 : 1 < n - 33 := by omega
      have hn5 : 0 < n - 33 := by omega
      go_wp2_with (first
        | ((with_reducible refine stopAt (o := ⟨some 35, _, _, _, _, _⟩) ?_); refine sliceFrom (o := ⟨some 35, _, _, _, _, _⟩) (by rfl) 31 (.tmp 34) (.const (.int .i64 33)) rfl (by kernel_rfl) (by kernel_rfl) (some ad) n c 33 rfl rfl (by omega) hnc ?_; intro B1 HF1; have hB1 : B1 = some ⟨ad.block, ad.off + 33, none⟩ := HF1.out.1 (by omega); subst hB1; clear HF1))
      go_quiet (fail)
      have HA5 : Hid (BlkIs (w4.drewN nq) w1.heap.size 45 (chS key false (.slice none 0 0)).toArray) := HA4.out
      have HA15 : Hid (BlkIs (w4.drewN nq) w.heap.size 45 (chS (zs 32) false (.slice none 0 0)).toArray) := HA14.out
      have HW5 : Hid (Below w.heap.size w (w4.drewN nq)) := drewN_below HW4.out nq
      generalize w4.drewN nq = w5 at *
      rw [HNM.out] at HEV HC HRR
      generalize hnum : y0 + 256 * y1 = num at *
      clear hc0 hc1 hc1b hor HA4 HA14 HW4 b4 hn2 hn3 hn4 hn5
      by_cases hbig : 128 < num
      · have HE : Hid (takeE xs = 32) := by show _ = _; rw [HEV.out, if_neg h35, if_pos hbig]
        have hbig' : (128 : Int) < (num : Int) := by omega
        go_wp2_with (first
          | ((with_reducible refine stopAt (o := ⟨some 57, _, _, _, _, _⟩) ?_); refine loadRange (o := ⟨some 57, _, _, _, _, _⟩) (by rfl) 45 (.tmp 5) rfl w1.heap.size 0 _ rfl (BlkIs.range HA5.out) row_chg (by rw [size_chg, chS_length _ _ HKl.out.1]) ?_)
          | ((with_reducible refine stopAt (o := ⟨none, .store _ (.tmp 2) _, _, _, _, _⟩) ?_); refine storeV (o := ⟨none, _, _, _, _, _⟩) (by rfl) 45 (.tmp 2) (.tmp 57) rfl w.heap.size _ _ 45 rfl rfl HA15.out (by rw [size_chg, chS_length _ _ HKl.out.1]) (by rw [chS_length _ _ (zs_length 32), chS_length _ _ HKl.out.1]) (chS_one rfl) ?_; intro w9 HA9 HG9 HS9))
        refine chg_ret (g := w.heap.size) rfl rfl HA9.out (chS_length _ _ HKl.out.1) rfl rfl rfl ?_
        exact ⟨_, _, _, _, by rw [HE.out]; rfl, HW5.out.grown HG9.out HW5.out.size (fun k hk => by injection hk with hk; omega), chS_length _ _ HKl.out.1, chS_one rfl, fun h => by rw [HE.out] at h; cases h⟩
      · have hbig' : ¬ (128 : Int) < (num : Int) := by omega
        by_cases hsh : n < 35 + num
        · have HE : Hid (takeE xs = 30) := by show _ = _; rw [HEV.out, if_neg h35, if_neg hbig, if_pos hsh]
          have hsh' : ((n - 33 - 2 : Nat) : Int) < (num : Int) := by omega
          go_wp2_with (first
            | ((with_reducible refine stopAt (o := ⟨some 60, _, _, _, _, _⟩) ?_); refine sliceFrom (o := ⟨some 60, _, _, _, _, _⟩) (by rfl) 31 (.tmp 59) (.const (.int .i64 2)) rfl (by kernel_rfl) (by kernel_rfl) (some ⟨ad.block, ad.off + 33, none⟩) (n - 33) (c - 33) 2 rfl rfl (by omega) (by omega) ?_; intro B2 HF2)
            | ((with_reducible refine stopAt (o := ⟨some 65, _, _, _, _, _⟩) ?_); refine loadRange (o := ⟨some 65, _, _, _, _, _⟩) (by rfl) 45 (.tmp 5) rfl w1.heap.size 0 _ rfl (BlkIs.range HA5.out) row_chg (by rw [size_chg, chS_length _ _ HKl.out.1]) ?_)
            | ((with_reducible refine stopAt (o := ⟨none, .store _ (.tmp 2) _, _, _, _, _⟩) ?_); refine storeV (o := ⟨none, _, _, _, _, _⟩) (by rfl) 45 (.tmp 2) (.tmp 65) rfl w.heap.size _ _ 45 rfl rfl HA15.out (by rw [size_chg, chS_length _ _ HKl.out.1]) (by rw [chS_length _ _ (zs_length 32), chS_length _ _ HKl.out.1]) (chS_one rfl) ?_; intro w9 HA9 HG9 HS9))
          refine chg_ret (g := w.heap.size) rfl rfl HA9.out (chS_length _ _ HKl.out.1) rfl rfl rfl ?_
          exact ⟨_, _, _, _, by rw [HE.out]; rfl, HW5.out.grown HG9.out HW5.out.size (fun k hk => by injection hk with hk; omega), chS_length _ _ HKl.out.1, chS_one rfl, fun h => by rw [HE.out] at h; cases h⟩
        · have HE : Hid (takeE xs = 0) := by show _ = _; rw [HEV.out, if_neg h35, if_neg hbig, if_neg hsh]
          have hsh' : ¬ ((n - 33 - 2 : Nat) : Int) < (num : Int) := by omega
          have hni : (y0 : Int) + 256 * (y1 : Int) = (num : Int) := by omega
          rw [hni]
          have hcap : (num : Int) ≤ ((c - 33 - 2 : Nat) : Int) := by omega
          have hcap2 : num ≤ c - 33 - 2 := by omega
          have hcap3 : num ≤ n - 33 - 2 := by omega
          obtain ⟨val, hval⟩ : ∃ val, (xs.drop 35).take num = val := ⟨_, rfl⟩
          have HVA := Lib.hid hval
          have hvl : val.length = num := by rw [← hval, List.length_take, List.length_drop, HLX.out]; omega
          have HVL := Lib.hid hvl
          clear hval hvl
          go_wp2_with (first
            | ((with_reducible refine stopAt (o := ⟨some 60, _, _, _, _, _⟩) ?_); refine sliceFrom (o := ⟨some 60, _, _, _, _, _⟩) (by rfl) 31 (.tmp 59) (.const (.int .i64 2)) rfl (by kernel_rfl) (by kernel_rfl) (some ⟨ad.block, ad.off + 33, none⟩) (n - 33) (c - 33) 2 rfl rfl (by omega) (by omega) ?_; intro B2 HF2; obtain ⟨ad2, hB2⟩ : ∃ ad2, B2 = some ad2 := (by cases hq : B2 with | none => exact absurd (HF2.out.2.2.2 hq) (by simp) | some a => exact ⟨a, rfl⟩); subst hB2; have HX6 : Hid (∀ W, Below w.heap.size w W → RB W (some ad2) (n - 33 - 2) (xs.drop 35)) := (fun W hW => by have h := ((HX.out.below hW).drop (k := 33) (B := some ⟨ad.block, ad.off + 33, none⟩) (by omega) (fun _ => rfl)).drop (k := 2) (by omega) HF2.out.1; rwa [List.drop_drop] at h); have HBL : Hid (ad2.block = ad.block) := (by obtain ⟨ad', e1, e2⟩ := HF2.out.2.1 ad2 rfl; injection e1 with e1; show _ = _; rw [← e2, ← e1]); clear HF2)
            | ((with_reducible refine stopAt (o := ⟨some 70, _, _, _, _, _⟩) ?_); refine appendRB und_bytes info_byte w5 rfl (.const (.slice none 0 0)) (.tmp 69) rfl w5.heap.size (.slice none 0 0) [] (Own.nil _ _ _) (some ad2) num (c - 33 - 2) val (by have h := (HX6.out w5 HW5.out).take (k := num) (by omega); rwa [HVA.out] at h) (fun e => by cases e) rfl rfl (by simp only [List.length_nil]; omega) (Nat.le_refl _) ?_; intro v6 w6 ho hg; rw [List.nil_append] at ho; have hdm := own_max' ho; obtain ⟨A6, d6, hv6, hr6, hlo6, hnil6, hle6⟩ := ho.form; have hd6 := hdm _ _ _ hv6; subst hv6; have HQ6 := Lib.hid (show OwnU w6 w5.heap.size (.slice A6 val.length d6) val from ho); have HO6 := Lib.hid (show RB w6 A6 val.length val ∧ (∀ ad, A6 = some ad → w5.heap.size ≤ ad.block) ∧ (A6 = none → d6 = 0) ∧ val.length ≤ d6 ∧ d6 ≤ maxLen from ⟨hr6, (fun ad e => (hlo6 ad e).1), hnil6, hle6, hd6⟩); have HA6 : Hid (BlkIs w6 w1.heap.size 45 (chS key false (.slice none 0 0)).toArray) := BlkIs.grown HA5.out hg (fun e => by cases e); have HA16 : Hid (BlkIs w6 w.heap.size 45 (chS (zs 32) false (.slice none 0 0)).toArray) := BlkIs.grown HA15.out hg (fun e => by cases e); have HW6 : Hid (Below w.heap.size w w6) := HW5.out.grown hg HW5.out.size (fun k hk => by cases hk); have b33 : w6.cell? ⟨w1.heap.size, 33, none⟩ = some (.slice none 0 0) := (BlkIs.cell HA6.out 33).trans (by rw [List.getElem?_toArray, chS_at33 HKl.out.1]); have f33 := BlkIs.frozen HA6.out 33; clear ho hg hr6 hlo6 hnil6 hle6 hd6 hdm))
          rename_i KK hKK
          have HKK := Lib.hid hKK
          clear hKK b33 f33
          have hg5 : w1.heap.size < w5.heap.size := BlkIs.lt HA5.out
          have HA7 : Hid (BlkIs (w6.setCell ⟨w1.heap.size, 33, none⟩ (.slice A6 val.length d6)) w1.heap.size 45 (chS key false (.slice A6 val.length d6)).toArray) := chs_setval HA6.out HKl.out.1 _
          have HA17 : Hid (BlkIs (w6.setCell ⟨w1.heap.size, 33, none⟩ (.slice A6 val.length d6)) w.heap.size 45 (chS (zs 32) false (.slice none 0 0)).toArray) := BlkIs.far HA16.out (by show w.heap.size ≠ w1.heap.size; omega) _
          have HW7 : Hid (Below w.heap.size w (w6.setCell ⟨w1.heap.size, 33, none⟩ (.slice A6 val.length d6))) := HW6.out.setCell (show w.heap.size ≤ w1.heap.size by omega) _
          have HO7 : Hid (RB (w6.setCell ⟨w1.heap.size, 33, none⟩ (.slice A6 val.length d6)) A6 val.length val) := HO6.out.1.grownBy (grown_setCell w6 (g := w1.heap.size) 33 _) (fun _ ad e he => by
            have h1 := HO6.out.2.1 ad e
            injection he with he
            omega)
          have HQ7 : Hid (OwnU (w6.setCell ⟨w1.heap.size, 33, none⟩ (.slice A6 val.length d6)) w5.heap.size (.slice A6 val.length d6) val) := HQ6.out.kept (grown_setCell w6 (g := w1.heap.size) 33 _) (by
            rcases hq : (Value.slice A6 val.length d6).ownBlock with _ | k
            · exact .inl rfl
            · refine .inr fun e => ?_
              injection e with e
              have := HQ6.out.ge k hq
              omega)
          clear HQ6
          generalize (w6.setCell ⟨w1.heap.size, 33, none⟩ (.slice A6 val.length d6)) = w7 at *
          have hu7 := Try.underlying45
          have hsz7 : (Try.prog.info? 45).map (·.size) = some (chS key false (.slice A6 val.length d6)).length := by rw [size_chg, chS_length _ _ HKl.out.1]
          refine wp_region_held_drew (S := fun w' => w'.rangeAt w1.heap.size 0 (chS key false (.slice A6 val.length d6))) (by kernel_rfl) (BlkIs.range HA7.out) fun hH => ?_
          refine wpAnyH_take (i := 0) (oi := ⟨some 72, _, _, _, _, _⟩) rfl (by kernel_rfl) (by kernel_rfl) (by kernel_rfl) (fun _ _ _ h => h) (yieldsIf_load_mid (by rfl) _ _ rfl _ _ rfl _ _ (fun w hw => by (try dsimp only at hw); go_split_ands; assumption) (by assumption) rfl (by assumption)) (by assumption) ?_
          try simp only [Act.put, List.setIfInBounds_toArray, List.set_cons_zero, List.set_cons_succ]
          refine wpAnyH_take (i := 1) (oi := ⟨some 73, _, _, _, _, _⟩) rfl (by kernel_rfl) (by kernel_rfl) (by kernel_rfl) (fun _ _ _ h => h) (Or.inl ⟨by rfl, fun w hw => by (try dsimp only at hw); go_simp; with_reducible rfl⟩) (by assumption) ?_
          try simp only [Act.put, List.setIfInBounds_toArray, List.set_cons_zero, List.set_cons_succ]
          refine wpAnyH_take (i := 2) (oi := ⟨some 74, _, _, _, _, _⟩) rfl (by kernel_rfl) (by kernel_rfl) (by kernel_rfl) (fun _ _ _ h => h) (Or.inl ⟨by rfl, fun w hw => by (try dsimp only at hw); go_simp; with_reducible rfl⟩) (by assumption) ?_
          try simp only [Act.put, List.setIfInBounds_toArray, List.set_cons_zero, List.set_cons_succ]
          refine wpAnyH_take (i := 3) (oi := ⟨some 75, _, _, _, _, _⟩) rfl (by kernel_rfl) (by kernel_rfl) (by kernel_rfl) (fun _ _ _ h => h) (yields_sliceFrom (by rfl) 31 (.tmp 73) (.tmp 74) rfl (by kernel_rfl) (by kernel_rfl) (some ad2) (n - 33 - 2) (c - 33 - 2) num rfl rfl hcap3) (by assumption) ?_
          (try simp only [Act.put, List.setIfInBounds_toArray, List.set_cons_zero, List.set_cons_succ])
          generalize hB3 : (if c - 33 - 2 = num then some ad2 else Option.map (fun x => x.add num) (some ad2)) = B3
          have HB3 : Hid ((num < n - 33 - 2 → B3 = (some ad2).map (·.add num)) ∧ (¬ B3 = none) ∧ ∀ ad', B3 = some ad' → ad'.block = ad.block) := ⟨fun hlt => by rw [← hB3]; exact if_neg (by omega), (by rw [← hB3]; intro e; split at e <;> cases e), fun ad' e => by
            rw [← hB3] at e
            split at e
            · injection e with e; rw [← e, HBL.out]
            · injection e with e; rw [← e, block_add, HBL.out]⟩
          clear hB3
          refine wpAnyH_ready (rs := [4]) (by kernel_rfl) (by simp) ?_
          refine AllReadyH.cons (o := ⟨none, .store _ (.tmp 2) _, _, _, _, _⟩) rfl (fun K hK => ?_) (AllReadyH.nil)
          refine wpOp_storeV (o := ⟨none, .store _ (.tmp 2) _, _, _, _, _⟩) ?hw 45 (.tmp 2) (.tmp 72) rfl w.heap.size (chS key false (.slice A6 val.length d6)) _ 45 ?hx ?hy (BlkIs.drew HA17.out) hsz7 (by rw [chS_length _ _ (zs_length 32), chS_length _ _ HKl.out.1]) (chS_one rfl) ?hh
          case hw => kernel_rfl
          case hx => rfl
          case hy => rfl
          intro w8 HA8 HG8
          have HR8 := Lib.hid (BlkIs.range (BlkIs.grown (BlkIs.drew HA7.out) HG8.out (by intro e; injection e with e; omega)))
          refine hK.out _ _ HR8.out (fun hH2 => ?_)
          clear hK hH
          refine wpAnyH_take (i := 5) (oi := ⟨some 3, _, _, _, _, _⟩) rfl (by kernel_rfl) (by kernel_rfl) (by kernel_rfl) (fun _ _ _ h => h) (Or.inl ⟨by rfl, fun w hw => by (try dsimp only at hw); go_simp; with_reducible rfl⟩) (by assumption) ?_
          try simp only [Act.put, List.setIfInBounds_toArray, List.set_cons_zero, List.set_cons_succ]
          refine wpAnyH_take (i := 6) (oi := ⟨some 4, _, _, _, _, _⟩) rfl (by kernel_rfl) (by kernel_rfl) (by kernel_rfl) (fun _ _ _ h => h) (Or.inl ⟨by rfl, fun w hw => by (try dsimp only at hw); go_simp; with_reducible rfl⟩) (by assumption) ?_
          try simp only [Act.put, List.setIfInBounds_toArray, List.set_cons_zero, List.set_cons_succ]
          refine wpAnyH_done (by kernel_rfl) ?_ _
          change KK _ _
          refine HKK.out _ _ ?_
          clear hH2 hu7 hsz7
          go_wp2_with fail
          refine chg_ret (g := w.heap.size) rfl rfl HA8.out (chS_length _ _ HKl.out.1) rfl rfl rfl ?_
          have HW8 : Below w.heap.size w w8 := (drewN_below HW7.out 1).grown HG8.out HW7.out.size (fun k hk => by injection hk with hk; omega)
          have hO8 : RB w8 A6 val.length val := (HO7.out.below (drewN_below (Below.refl _ _) 1)).grownBy HG8.out (fun _ ad e he => by
            have h1 := HO6.out.2.1 ad e
            injection he with he
            omega)
          have hQ8 : OwnU w8 w5.heap.size (.slice A6 val.length d6) val := (HQ7.out.below (drewN_below (Below.refl _ _) 1)).kept HG8.out (by
            rcases hq : (Value.slice A6 val.length d6).ownBlock with _ | k
            · exact .inl rfl
            · refine .inr fun e => ?_
              injection e with e
              have := HQ7.out.ge k hq
              omega)
          refine ⟨_, _, _, _, by rw [HE.out]; rfl, HW8, chS_length _ _ HKl.out.1, chS_one rfl, fun _ => ⟨A6, d6, ?_⟩⟩
          rw [HC.out, HRR.out, HVA.out]
          exact ⟨rfl, Own.mono hQ8 HW5.out.size, hO8, HO6.out.2.2.2.1, HO6.out.2.2.2.2, HO6.out.2.2.1, (fun ad e => by have := HO6.out.2.1 ad e; have := HW5.out.size; omega),
            (HX6.out w8 HW8).drop hcap3 HB3.out.1, by omega, (fun e => absurd e HB3.out.2.1), fun ad' e => ⟨ad, rfl, (HB3.out.2.2 ad' e).symm⟩⟩
  · go_wp2_with (first
      | ((with_reducible refine stopAt (o := ⟨some 2, _, _, _, _, _⟩) ?_); refine allocNew (o := ⟨some 2, _, _, _, _, _⟩) (by rfl) 45 rfl _ _ info_chS ?_; intro w1 HA1 HW1 HS1)
      | ((with_reducible refine stopAt (o := ⟨some 5, _, _, _, _, _⟩) ?_); refine allocNew (o := ⟨some 5, _, _, _, _, _⟩) (by rfl) 45 rfl _ _ info_chS ?_; intro w2 HA2 HW2 HS2; have HA1' := Lib.hid (BlkIs.below HA1.out HW2.out); have HW := Lib.hid (HW1.out.trans (HW2.out.mono HW1.out.size)); have c0 := HC0.out w2 HW.out; have b32 : w2.cell? ⟨w1.heap.size, 32, none⟩ = some (.bool false) := BlkIs.cell HA2.out 32; have f32 := BlkIs.frozen HA2.out 32))
    rename_i KK hKK
    have HKK := Lib.hid hKK
    clear hKK c0 b32 f32
    have hg12 : w.heap.size < w1.heap.size := by have := BlkIs.lt HA1.out; exact this
    have hn1 : (1 : Int) ≤ n := by omega
    have hc1 : ¬ c = 1 := by omega
    have hnc' : (n : Int) ≤ (c : Int) := by omega
    refine wp_region_held_drew (S := fun _ => True) (by kernel_rfl) trivial fun _ => ?_
    refine wpAnyH_take (i := 0) (oi := ⟨some 29, _, _, _, _, _⟩) rfl (by kernel_rfl) (by kernel_rfl) (by kernel_rfl) (fun _ _ _ h => h) (Or.inl ⟨by rfl, fun w hw => by (try dsimp only at hw); go_simp; with_reducible rfl⟩) (by assumption) ?_
    try simp only [Act.put, List.setIfInBounds_toArray, List.set_cons_zero, List.set_cons_succ]
    refine wpAnyH_take (i := 1) (oi := ⟨some 30, _, _, _, _, _⟩) rfl (by kernel_rfl) (by kernel_rfl) (by kernel_rfl) (fun _ _ _ h => h) (Or.inl ⟨by rfl, fun w hw => by (try dsimp only at hw); go_simp; with_reducible rfl⟩) (by assumption) ?_
    try simp only [Act.put, List.setIfInBounds_toArray, List.set_cons_zero, List.set_cons_succ]
    refine wpAnyH_take (i := 2) (oi := ⟨some 31, _, _, _, _, _⟩) rfl (by kernel_rfl) (by kernel_rfl) (by kernel_rfl) (fun _ _ _ h => h) (Or.inl ⟨by rfl, fun w hw => by (try dsimp only at hw); go_simp; with_reducible rfl⟩) (by assumption) ?_
    try simp only [Act.put, List.setIfInBounds_toArray, List.set_cons_zero, List.set_cons_succ]
    refine wpAnyH_take (i := 3) (oi := ⟨some 32, _, _, _, _, _⟩) rfl (by kernel_rfl) (by kernel_rfl) (by kernel_rfl) (fun _ _ _ h => h) (Or.inl ⟨by rfl, fun w hw => by (try dsimp only at hw); go_simp; with_reducible rfl⟩) (by assumption) ?_
    try simp only [Act.put, List.setIfInBounds_toArray, List.set_cons_zero, List.set_cons_succ]
    have HA3 : Hid (BlkIs (w2.setCell ⟨w1.heap.size, 32, none⟩ (.bool true)) w1.heap.size 45 (chS (zs 32) true (.slice none 0 0)).toArray) := chs_setdel HA2.out (zs_length 32) _
    have HA13 : Hid (BlkIs (w2.setCell ⟨w1.heap.size, 32, none⟩ (.bool true)) w.heap.size 45 (chS (zs 32) false (.slice none 0 0)).toArray) := BlkIs.far HA1'.out (by show w.heap.size ≠ w1.heap.size; omega) _
    have HW3 : Hid (Below w.heap.size w (w2.setCell ⟨w1.heap.size, 32, none⟩ (.bool true))) := HW.out.setCell (show w.heap.size ≤ w1.heap.size by omega) _
    generalize w2.setCell ⟨w1.heap.size, 32, none⟩ (.bool true) = w3 at *
    have HS3 : Hid (RB w3 (some ⟨ad.block, ad.off + 1, none⟩) 32 ((xs.drop 1).take 32)) := by
      have h1 := (HX.out.below HW3.out).drop (k := 1) (B := some ⟨ad.block, ad.off + 1, none⟩) (by omega) (fun _ => rfl)
      exact h1.take (by omega)
    obtain ⟨key, hkey⟩ : ∃ key, (xs.drop 1).take 32 = key := ⟨_, rfl⟩
    have HKY := Lib.hid hkey
    rw [hkey] at HS3
    clear hkey
    have HKl : Hid (key.length = 32 ∧ IsB key) := ⟨HS3.out.1, HS3.out.2.1⟩
    refine wpAnyH_ready (rs := [4]) (by kernel_rfl) (by simp) ?_
    refine AllReadyH.cons (o := ⟨some 33, _, _, _, _, _⟩) rfl (fun K hK => ?_) (AllReadyH.nil)
    refine step_copy_splice (o := ⟨some 33, _, _, _, _, _⟩) rfl (.tmp 30) (.tmp 32) 31 31 rfl 5 und_bytes byte_size (some ⟨w1.heap.size, 0, none⟩) (some ⟨ad.block, ad.off + 1, none⟩) 32 32 (n - 1) (c - 1) rfl rfl w1.heap.size 0 _ 45 HA3.out (bvs key) (by
      rw [show (bvs key).length = 32 by unfold bvs; rw [List.length_map, HKl.out.1]]
      exact (Nat.min_eq_right (by omega)).symm) (fun _ => ⟨rfl, _, rfl, rb_cells' HS3.out⟩) (by rw [show (bvs key).length = 32 by unfold bvs; rw [List.length_map, HKl.out.1], chS_length _ _ (zs_length 32)]; omega) (bvs_oneCell _) w1.heap.size w3 (drewN_below (Below.refl _ _) 1) (Nat.le_refl _) ?_
    intro w4 hg4 hb4
    have HA4 : Hid (BlkIs w4 w1.heap.size 45 (chS key true (.slice none 0 0)).toArray) := by
      have h1 := hg4.out
      rwa [chS_key (zs_length 32) HKl.out.1] at h1
    have HA14 : Hid (BlkIs w4 w.heap.size 45 (chS (zs 32) false (.slice none 0 0)).toArray) := BlkIs.belowB HA13.out hb4 (by omega)
    have HW4 : Hid (Below w.heap.size w w4) := HW3.out.trans (hb4.mono (by omega))
    refine hK.out _ _ trivial (fun _ => ?_)
    clear hK hg4 hb4 HA3 HA13 HW3 HS3 HA1' HA1 HW1 HS1 HA2 HW2 HS2 HW
    refine wpAnyH_done (by kernel_rfl) ?_ _
    change KK _ _
    refine HKK.out _ _ ?_
    have b4 : w4.cell? ⟨w1.heap.size, 32, none⟩ = some (.bool true) := (BlkIs.cell HA4.out 32).trans (by rw [List.getElem?_toArray, chS_at32 HKl.out.1])
    (try simp only [Act.put, List.setIfInBounds_toArray, List.set_cons_zero, List.set_cons_succ])
    go_wp2_with (first
      | ((with_reducible refine stopAt (o := ⟨some 35, _, _, _, _, _⟩) ?_); refine sliceFrom (o := ⟨some 35, _, _, _, _, _⟩) (by rfl) 31 (.tmp 34) (.const (.int .i64 33)) rfl (by kernel_rfl) (by kernel_rfl) (some ad) n c 33 rfl rfl (by omega) hnc ?_; intro B1 HF1)
      | ((with_reducible refine stopAt (o := ⟨some 38, _, _, _, _, _⟩) ?_); refine loadRange (o := ⟨some 38, _, _, _, _, _⟩) (by rfl) 45 (.tmp 5) rfl w1.heap.size 0 _ rfl (BlkIs.range HA4.out) row_chg (by rw [size_chg, chS_length _ _ HKl.out.1]) ?_)
      | ((with_reducible refine stopAt (o := ⟨none, .store _ (.tmp 2) _, _, _, _, _⟩) ?_); refine storeV (o := ⟨none, _, _, _, _, _⟩) (by rfl) 45 (.tmp 2) (.tmp 38) rfl w.heap.size _ _ 45 rfl rfl HA14.out (by rw [size_chg, chS_length _ _ HKl.out.1]) (by rw [chS_length _ _ (zs_length 32), chS_length _ _ HKl.out.1]) (chS_one rfl) ?_; intro w5 HA5 HG5 HS5))
    refine chg_ret (g := w.heap.size) rfl rfl HA5.out (chS_length _ _ HKl.out.1) rfl rfl rfl ?_
    have hx2 : xs.getD 0 0 = 2 := by
      have h := HDL.out
      rw [hx0]
      simpa using h.symm
    have hE : takeE xs = 0 := by unfold takeE; rw [if_neg (by rw [HLX.out]; omega), if_pos hx2]
    have hC : takeC xs = ⟨key, true, []⟩ := by unfold takeC; rw [if_pos hx2, HKY.out]
    have hR : takeR xs = xs.drop 33 := by unfold takeR; rw [if_pos hx2]
    have HW5 : Below w.heap.size w w5 := HW4.out.grown HG5.out HW4.out.size (fun k hk => by injection hk with hk; omega)
    refine ⟨_, _, _, _, by rw [hE]; rfl, HW5, chS_length _ _ HKl.out.1, chS_one rfl, fun _ => ⟨none, 0, ?_⟩⟩
    rw [hC, hR]
    exact ⟨rfl, Own.nil _ _ _, RB.nil _ _, Nat.le_refl _, by simp [maxLen], fun _ => rfl, (fun ad e => by cases e), (HX.out.below HW5).drop (by omega) HF1.out.1, by omega, (fun e => by have := HF1.out.2.2.2 e; cases this), HF1.out.2.1⟩
theorem takeK_any (A : Option Addr) (n c : Nat) (xs : List Nat) (w : World) (hx : RB w A n xs) (hnc : n ≤ c) :
    Calls Try.prog 47 #[.slice A n c] w (TakePostK A xs w) := by
  by_cases hl : n < 33
  · exact (take_short A n c xs w hx hl).mono fun e w' h => takePost_K h (by unfold takeE; rw [if_pos (by rw [hx.1]; exact hl)]; decide)
  · by_cases h12 : xs.getD 0 0 = 1 ∨ xs.getD 0 0 = 2
    · exact take_knownK A n c xs w hx hnc (by omega) h12
    · exact (take_other A n c xs w hx (by omega) (fun h => h12 (.inl h)) (fun h => h12 (.inr h))).mono fun e w' h => takePost_K h (by unfold takeE; rw [if_neg (by rw [hx.1]; omega), if_neg (fun h => h12 (.inr h)), if_neg (fun h => h12 (.inl h))]; decide)
end Go.Proofs.Ytkpbeibcfaenhaa

/- batch.Parse, the values its own. (printed by gen_parsek.py) -/
namespace Go.Proofs.Ytkpbeibcfaenhaa
open Go.RowKit
def ParsePostK (raw : List Nat) (w : World) (e : Ending) (w' : World) : Prop :=
  ∃ v, e = .returned (.tuple #[v, .int .i64 (parseE raw).2, .int .i64 ((parseE raw).1 : Nat)]) ∧ Below w.heap.size w w' ∧ (¬ (parseE raw).1 = 0 → v = .slice none 0 0) ∧
    ((parseE raw).1 = 0 → ∃ Ad Cp, ChsAll w' w.heap.size v (numN raw) (parC (raw.drop 2)) Ad Cp)
set_option maxRecDepth 100000 in
set_option maxHeartbeats 4000000 in
theorem parseK_any (A : Option Addr) (n c : Nat) (xs : List Nat) (w : World) (hx : RB w A n xs) (hnc : n ≤ c) :
    Calls Try.prog 23 #[.slice A n c] w (ParsePostK xs w) := by
  have HX := Lib.hid hx
  have HLX := Lib.hid hx.1
  by_cases h2 : n < 2
  · have HE : Hid (parseE xs = (30, 0)) := by show _ = _; unfold parseE; rw [if_pos (by rw [HLX.out]; exact h2)]
    have h2' : (n : Int) < 2 := by omega
    clear hx
    go_enter Try.func23, Try.ntmps23
    go_wp2_with fail
    refine tmp3_ret rfl rfl rfl rfl rfl ?_
    exact ⟨_, by rw [HE.out]; rfl, Below.refl _ _, fun _ => rfl, fun h => by rw [HE.out] at h; cases h⟩
  · have h2' : ¬ (n : Int) < 2 := by omega
    obtain ⟨ad, rfl, hb, hc0⟩ := hx.at_ (k := 0) (by omega)
    obtain ⟨ad', e', _, hc1⟩ := hx.at_ (k := 1) (by omega)
    injection e' with e'
    subst e'
    rw [show ad.add 0 = ad by simp [Addr.add]] at hc0
    have hc1b : w.cell? ⟨ad.block, ad.off + 1, none⟩ = some (.int .u8 ((xs.getD 1 0 : Nat) : Int)) := hc1
    have hy0 := hx.lt (k := 0) (by omega)
    have hy1 := hx.lt (k := 1) (by omega)
    have HNM : Hid (numN xs = xs.getD 0 0 + 256 * xs.getD 1 0) := rfl
    have hor := or16 (xs.getD 0 0) (xs.getD 1 0) hy0 hy1
    have hn2 : (1 : Int) < n := by omega
    have hn3 : (0 : Int) < n := by omega
    have hn4 : 1 < n := by omega
    have hn5 : 0 < n := by omega
    clear hx hc1
    generalize xs.getD 0 0 = y0 at *
    generalize xs.getD 1 0 = y1 at *
    go_enter Try.func23, Try.ntmps23
    go_wp2_with fail
    go_quiet (fail)
    have HB1 : Hid (Below w.heap.size w (w.drewN nq)) := drewN_below (Below.refl _ _) nq
    generalize w.drewN nq = w1 at *
    obtain ⟨num, hnum⟩ : ∃ num, numN xs = num := ⟨_, rfl⟩
    have HNU := Lib.hid hnum
    have hni : (y0 : Int) + 256 * (y1 : Int) = (num : Int) := by have := HNM.out; omega
    rw [hni]
    have HEV : Hid (parseE xs = if 64 < num then (31, 0) else if 0 ≤ failK (xs.drop 2) num then (takeE (restK (xs.drop 2) (failK (xs.drop 2) num).toNat), failK (xs.drop 2) num) else
      if 0 < (restK (xs.drop 2) num).length then (30, num) else if 0 ≤ repN (parC (xs.drop 2)) num then (33, repN (parC (xs.drop 2)) num) else (0, 0)) := by
      show _ = _
      unfold parseE
      rw [if_neg (by rw [HLX.out]; exact h2), hnum]
    clear hc0 hc1b hor hnum
    by_cases hbig : 64 < num
    · have HE : Hid (parseE xs = (31, 0)) := by show _ = _; rw [HEV.out, if_pos hbig]
      have hbig' : (64 : Int) < (num : Int) := by omega
      go_wp2_with fail
      refine tmp3_ret rfl rfl rfl rfl rfl ?_
      exact ⟨_, by rw [HE.out]; rfl, HB1.out, fun _ => rfl, fun h => by rw [HE.out] at h; cases h⟩
    · have hbig' : ¬ (64 : Int) < (num : Int) := by omega
      obtain ⟨i, hi, hz, hs, hby⟩ := info_parts info_chg3
      have hib : i.bytes * num ≤ 281474976710656 := by rw [hby]; omega
      have hbk : ad.block < w.heap.size := hb
      go_wp2_with (first
        | ((with_reducible refine stopAt (o := ⟨some 29, _, _, _, _, _⟩) ?_); refine sliceFrom (o := ⟨some 29, _, _, _, _, _⟩) (by rfl) 31 (.tmp 28) (.const (.int .i64 2)) rfl (by kernel_rfl) (by kernel_rfl) (some ad) n c 2 rfl rfl (by omega) hnc ?_; intro B1 HF1)
        | ((with_reducible refine stopAt (o := ⟨some 31, _, _, _, _, _⟩) ?_); refine wpList_make_own w1 (o := ⟨some 31, _, _, _, _, _⟩) rfl (.const (.int .i64 0)) (.tmp 30) 30 rfl w.heap.size 45 i _ 34 und_chl hi hz hs .i64 .i64 _ num rfl rfl rfl hib (by unfold maxLen; omega) HB1.out.size ?_; intro w2 ho2 hg2; have HO2 := Lib.hid ho2; have HB2 : Hid (Below w.heap.size w w2) := HB1.out.grown hg2 HB1.out.size (fun k hk => by cases hk); clear ho2 hg2))
      have HR2 : Hid (RB w2 B1 (n - 2) (restK (xs.drop 2) 0)) := (HX.out.below HB2.out).drop (k := 2) (by omega) HF1.out.1
      have HBk2 : Hid (∀ ad', B1 = some ad' → ad'.block < w.heap.size) := fun ad' e => by
        obtain ⟨a2, e1, e2⟩ := HF1.out.2.1 ad' e
        injection e1 with e1
        rw [← e2, ← e1]
        exact hbk
      have hmd2 : n - 2 ≤ c - 2 := by omega
      obtain ⟨r0, hr0⟩ : ∃ r0, xs.drop 2 = r0 := ⟨_, rfl⟩
      have HR0 := Lib.hid hr0
      rw [hr0] at HEV HR2
      have HC2 : Hid (ChsAll w2 w.heap.size (.slice (some ⟨w1.heap.size, 0, none⟩) 0 num) 0 (parC r0) (fun _ => none) (fun _ => 0)) := ChsAll.made HO2.out
      clear HF1 HO2 hi hz hs hby hib hr0 hb hbk HB1 hnc
      go_loopw [6, 7, 33] (fun r v i wr => ∃ (k : Nat) (B : Option Addr) (m d : Nat), k ≤ num ∧ i = .int .i64 k ∧ r = .slice B m d ∧ m ≤ d ∧ Hid (RB wr B m (restK r0 k)) ∧ Hid (∀ ad', B = some ad' → ad'.block < w.heap.size) ∧ (∃ Ad Cp, Hid (ChsAll wr w.heap.size v k (parC r0) Ad Cp)) ∧ Hid (failK r0 k < 0) ∧ Hid (Below w.heap.size w wr)) (fun _ _ i _ => num - (intOf i).toNat)
      case atStart => exact ⟨0, B1, n - 2, c - 2, by omega, rfl, rfl, hmd2, HR2.out, HBk2.out, ⟨_, _, HC2.out⟩, (show (-1 : Int) < 0 by decide), HB2.out⟩
      case round =>
        clear HR2 HBk2 HC2 HB2 hmd2
        obtain ⟨k, B, m, d, hk, rfl, rfl, hmd, HR, HBk, ⟨Ad, Cp, HO⟩, HF, HB⟩ := hrel
        obtain ⟨w3, rfl⟩ : ∃ w3, w3 = wr := ⟨_, rfl⟩
        by_cases hlt : k < num
        · have hlt' : (k : Int) < num := by omega
          go_wp2_with fail
          refine (takeK_any B m d (restK r0 k) w3 HR.out hmd).mono ?_
          rintro e w4 ⟨cs, B4, m4, d4, rfl, hb4, hcl, hone, hok⟩
          have HB4 := Lib.hid (HB.out.trans (hb4.mono HB.out.size))
          have HONE := Lib.hid hone
          have HCL := Lib.hid hcl
          by_cases h0 : takeE (restK r0 k) = 0
          · have HFn := Lib.hid (failK_next HF.out h0)
            obtain ⟨Av, Cv, hcs, hov, hr, hle, hcm, hnil, hlo, hrest, hmd4, _, hblk⟩ := hok h0
            have HO4 := Lib.hid (HO.out.later hb4)
            have HK4 := Lib.hid (takeC_key h0 HR.out.isB)
            have HV4 : Hid (OwnU w4 w.heap.size (.slice Av (parC r0 k).val.length Cv) (parC r0 k).val) := Own.mono hov HB.out.size
            have HAP := Lib.hid (HO4.out.own.own)
            have HFR := Lib.hid (HO.out.fresh (u := .slice Av (parC r0 k).val.length Cv) (Nat.le_refl _) (fun B hB => hov.ge B hB))
            have HCS := Lib.hid hcs
            have HRS := Lib.hid hrest
            have HBk4 : Hid (∀ ad', B4 = some ad' → ad'.block < w.heap.size) := fun ad' e => by
              obtain ⟨a2, e1, e2⟩ := hblk ad' e
              rw [← e2]
              exact HBk.out a2 e1
            rw [h0]
            clear hov HAP hr hle hcm hnil hlo hrest hblk hok hb4 hone hcl hcs h0
            go_wp2_with (first
              | ((with_reducible refine stopAt (o := ⟨some 9, _, _, _, _, _⟩) ?_); refine allocNew (o := ⟨some 9, _, _, _, _, _⟩) (by rfl) 45 rfl _ _ info_chS ?_; intro w5 HA5 HW5 HS5)
              | ((with_reducible refine stopAt (o := ⟨none, .store _ (.tmp 9) _, _, _, _, _⟩) ?_); refine storeV (o := ⟨none, _, _, _, _, _⟩) (by rfl) 45 (.tmp 9) (.tmp 39) rfl w4.heap.size cs _ 45 rfl rfl HA5.out (by rw [size_chg, HCL.out]) (by rw [HCL.out]; rfl) HONE.out ?_; intro w6 HA6 HG6 HS6; have HW6 : Hid (Below w4.heap.size w4 w6) := HW5.out.grown HG6.out HW5.out.size (fun k hk => by injection hk with hk; omega); have HO6 := Lib.hid (HO4.out.later HW6.out); have HB6 := Lib.hid (HB4.out.trans (HW6.out.mono HB4.out.size)))
              | ((with_reducible refine stopAt (o := ⟨some 47, _, _, _, _, _⟩) ?_); refine loadRange (o := ⟨some 47, _, _, _, _, _⟩) (by rfl) 45 (.tmp 9) rfl w4.heap.size 0 cs rfl (BlkIs.range HA6.out) row_chg (by rw [size_chg, HCL.out]) ?_)
              | ((with_reducible refine stopAt (o := ⟨some 48, _, _, _, _, _⟩) ?_); refine buildSlice1 (o := ⟨some 48, _, _, _, _, _⟩) rfl w6 30 45 _ 34 (.tmp 47) rfl und_chl info_chg (by decide) (by decide) cs.toArray rfl (by rw [List.size_toArray, HCL.out]) ?_)
              | ((with_reducible refine stopAt (o := ⟨some 49, _, _, _, _, _⟩) ?_); refine append1C (o := ⟨some 49, _, _, _, _, _⟩) und_chl info_chg3 rfl w6 rfl (.tmp 46) (.tmp 48) rfl w.heap.size u7 k _ HO6.out.own.own cs HCL.out HONE.out rfl rfl (by omega) (by omega) HB6.out.size ?_; intro v7 w7 ho7 hg7 hl7; have HO7 := Lib.hid (HO6.out.more HK4.out (HV4.out.below HW6.out) HFR.out.1 HFR.out.2 (HCS.out ▸ ho7) hg7 hl7); have HB7 : Hid (Below w.heap.size w w7) := HB6.out.grown hg7 HB6.out.size HO6.out.own.ge; have HRS7 : Hid (RB w7 B4 m4 (restK r0 (k + 1))) := (HRS.out.below HW6.out).grownBy hg7 (fun _ ad e he => by have q1 := HBk4.out ad e; have q2 := HO6.out.own.ge _ he.symm; omega); clear ho7 hg7 hl7))
            go_roundw
            case rel => exact ⟨k + 1, B4, m4, d4, by omega, by go_num, rfl, hmd4, HRS7.out, HBk4.out, ⟨_, _, by
              show ChsAll _ _ _ _ _ _ _
              have h := HO7.out
              rwa [show takeC (restK r0 k) = parC r0 k from rfl, upd_self] at h⟩, HFn.out, HB7.out⟩
            case measure => simp [intOf]; omega
          · have hfk : failK r0 num = k := by
              have h := failK_here HF.out h0
              rw [failK_keep (show k + 1 ≤ num by omega) (by rw [h]; omega), h]
            have HE : Hid (parseE xs = (takeE (restK r0 k), (k : Int))) := by show _ = _; rw [HEV.out, if_neg hbig, hfk, if_pos (by omega), Int.toNat_natCast]
            have hz1 : ((takeE (restK r0 k) : Nat) : Int) ≠ 0 := by omega
            have hz2 : (((takeE (restK r0 k) : Nat) : Int) != 0) = true := by rw [bne_iff_ne]; exact hz1
            have HZ : Hid (¬ takeE (restK r0 k) = 0) := h0
            clear hok hb4 hone hcl h0 hfk
            generalize takeE (restK r0 k) = z at *
            go_wp2_with (first
              | ((with_reducible refine stopAt (o := ⟨some 9, _, _, _, _, _⟩) ?_); refine allocNew (o := ⟨some 9, _, _, _, _, _⟩) (by rfl) 45 rfl _ _ info_chS ?_; intro w5 HA5 HW5 HS5)
              | ((with_reducible refine stopAt (o := ⟨none, .store _ (.tmp 9) _, _, _, _, _⟩) ?_); refine storeV (o := ⟨none, _, _, _, _, _⟩) (by rfl) 45 (.tmp 9) (.tmp 39) rfl w4.heap.size cs _ 45 rfl rfl HA5.out (by rw [size_chg, HCL.out]) (by rw [HCL.out]; rfl) HONE.out ?_; intro w6 HA6 HG6 HS6; have HW6 : Hid (Below w4.heap.size w4 w6) := HW5.out.grown HG6.out HW5.out.size (fun k hk => by injection hk with hk; omega); have HB6 := Lib.hid (HB4.out.trans (HW6.out.mono HB4.out.size))))
            refine tmp3_ret rfl rfl rfl rfl rfl ?_
            exact ⟨_, by rw [HE.out]; rfl, HB6.out, fun _ => rfl, fun h => by rw [HE.out] at h; exact absurd h HZ.out⟩
        · have hnlt : ¬ (k : Int) < num := by omega
          obtain rfl : k = num := by omega
          have hm := HR.out.1
          have HFN := HF.out
          by_cases hm0 : 0 < m
          · have HE : Hid (parseE xs = (30, (k : Int))) := by show _ = _; rw [HEV.out, if_neg hbig, if_neg (by omega), if_pos (by omega)]
            have hm1 : (0 : Int) < (m : Int) := by omega
            clear HFN hm
            go_wp2_with fail
            refine tmp3_ret rfl rfl rfl rfl rfl ?_
            exact ⟨_, by rw [HE.out]; rfl, HB.out, fun _ => rfl, fun h => by rw [HE.out] at h; cases h⟩
          · have hm1 : ¬ (0 : Int) < (m : Int) := by omega
            have HEV2 : Hid (parseE xs = if 0 ≤ repN (parC r0) k then (33, repN (parC r0) k) else (0, 0)) := by show _ = _; rw [HEV.out, if_neg hbig, if_neg (by omega), if_neg (by omega)]
            obtain ⟨Av, Cv, hv, hch, _⟩ := HO.out.own.form
            subst hv
            have HCH := Lib.hid hch
            clear HFN hm hch
            go_wp2_with fail
            refine (repeated_any Av k Cv (parC r0) w3 HCH.out).mono ?_
            rintro e w4 ⟨rfl, q, hq⟩
            have HO4 : Hid (ChsAll w4 w.heap.size (.slice Av k Cv) k (parC r0) Ad Cp) := by rw [hq]; exact HO.out.later (drewN_below (Below.refl _ _) q)
            have HB4 : Hid (Below w.heap.size w w4) := by rw [hq]; exact drewN_below HB.out q
            clear hq
            by_cases hr : 0 ≤ repN (parC r0) k
            · have HE : Hid (parseE xs = (33, repN (parC r0) k)) := by show _ = _; rw [HEV2.out, if_pos hr]
              generalize repN (parC r0) k = z at *
              go_wp2_with fail
              refine tmp3_ret rfl rfl rfl rfl rfl ?_
              exact ⟨_, by rw [HE.out]; rfl, HB4.out, fun _ => rfl, fun h => by rw [HE.out] at h; cases h⟩
            · have HE : Hid (parseE xs = (0, 0)) := by show _ = _; rw [HEV2.out, if_neg hr]
              generalize repN (parC r0) k = z at *
              go_wp2_with fail
              refine tmp3_ret rfl rfl rfl rfl rfl ?_
              exact ⟨_, by rw [HE.out]; rfl, HB4.out, fun h => absurd (by rw [HE.out]) h, fun _ => ⟨Ad, Cp, by rw [HNU.out, HR0.out]; exact HO4.out⟩⟩
end Go.Proofs.Ytkpbeibcfaenhaa
