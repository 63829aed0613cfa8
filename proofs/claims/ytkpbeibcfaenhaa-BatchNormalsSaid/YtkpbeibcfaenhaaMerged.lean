/- ledgerref3.merged. (printed by gen_merged.py) -/
import Derived.Test.YtkpbeibcfaenhaaSortN
import Derived.Test.YtkpbeibcfaenhaaCopyC
namespace Go.Proofs.Ytkpbeibcfaenhaa
open Go.RowKit
theorem ChsOwn.congr {w : World} {base n : Nat} {v : Value} {X X' : Nat → Chg} {Ad : Nat → Option Addr} {Cp : Nat → Nat} (h : ChsOwn w base v n X Ad Cp) (he : ∀ i, i < n → X i = X' i) : ChsOwn w base v n X' Ad Cp :=
  { own := by rw [← flat_congr (X := X) (Ad := Ad) (Cp := Cp) fun i hi => ⟨he i hi, rfl, rfl⟩]; exact h.own
    key := fun i hi => by rw [← he i hi]; exact h.key i hi
    val := fun i hi => by rw [← he i hi]; exact h.val i hi
    apart := fun i hi => by rw [← he i hi]; exact h.apart i hi }
theorem lst_upd (Z : Nat → Chg) (n : Nat) (x : Chg) : lst (upd Z n x) (n + 1) = lst Z n ++ [x] := by
  rw [lst_succ, upd_same, lst_congr (Y := Z) fun i hi => upd_other _ _ (by omega)]
theorem lst_drop {X : Nat → Chg} {n i : Nat} (h : i < n) : (lst X n).drop i = X i :: (lst X n).drop (i + 1) := by
  rw [List.drop_eq_getElem_cons (by rw [lst_length]; exact h)]
  congr 1
  simp [lst]
theorem lst_out {X : Nat → Chg} {n i : Nat} (h : n ≤ i) : (lst X n).drop i = [] := List.drop_of_length_le (by rw [lst_length]; exact h)
theorem merge_length (a b : List Chg) : (a.merge b leC).length = a.length + b.length := by simp
/-- How far the merging is. -/
def MergI (X Y Z : Nat → Chg) (N M i j : Nat) : Prop := (lst X N).merge (lst Y M) leC = lst Z (i + j) ++ ((lst X N).drop i).merge ((lst Y M).drop j) leC
theorem MergI.left {X Y Z : Nat → Chg} {N M i j : Nat} (h : MergI X Y Z N M i j) (hi : i < N) (hj : j < M → numK (X i).key ≤ numK (Y j).key) : MergI X Y (upd Z (i + j) (X i)) N M (i + 1) j := by
  unfold MergI at *
  rw [show i + 1 + j = (i + j) + 1 by omega, lst_upd, h, List.append_assoc]
  congr 1
  rw [lst_drop hi]
  by_cases hj' : j < M
  · rw [lst_drop hj', merge_step, if_pos (hj hj')]
    rfl
  · rw [lst_out (X := Y) (by omega), merge_none.2, merge_none.2]
    rfl
theorem MergI.right {X Y Z : Nat → Chg} {N M i j : Nat} (h : MergI X Y Z N M i j) (hj : j < M) (hi : i < N → ¬ numK (X i).key ≤ numK (Y j).key) : MergI X Y (upd Z (i + j) (Y j)) N M i (j + 1) := by
  unfold MergI at *
  rw [show i + (j + 1) = (i + j) + 1 by omega, lst_upd, h, List.append_assoc]
  congr 1
  rw [lst_drop hj]
  by_cases hi' : i < N
  · rw [lst_drop hi', merge_step, if_neg (hi hi')]
    rfl
  · rw [lst_out (X := X) (by omega), merge_none.1, merge_none.1]
    rfl
theorem MergI.done {X Y Z : Nat → Chg} {N M : Nat} (h : MergI X Y Z N M N M) : ∀ k, k < N + M → Z k = fnOf ((lst X N).merge (lst Y M) leC) k := fun k hk => by
  unfold MergI at h
  rw [lst_out (Nat.le_refl _), lst_out (Nat.le_refl _), merge_none.1, List.append_nil] at h
  rw [h, fnOf, lst_getD hk]
theorem cmpZ_le (a b : Nat) : cmpZ a b ≤ 0 ↔ a ≤ b := by
  unfold cmpZ
  split
  · simp; omega
  · split
    · simp; omega
    · simp; omega
set_option maxRecDepth 100000 in
set_option maxHeartbeats 4000000 in
theorem merged_any (A B : Option Addr) (N M c d : Nat) (X Y : Nat → Chg) (w : World) (hx : ChsAt w A N X) (hy : ChsAt w B M Y) (hn : (N + M) * 64 ≤ 140737488355328) :
    Calls Try.prog 98 #[.slice A N c, .slice B M d] w (ChsRet (N + M) (fnOf ((lst X N).merge (lst Y M) leC)) w) := by
  have HX := Lib.hid hx
  have HY := Lib.hid hy
  have hu := und_key
  clear hx hy
  go_enter Try.func98, Try.ntmps98
  go_wp2_with fail
  go_loopw [5, 6, 7] (fun v p q wr => ∃ i j : Nat, i ≤ N ∧ j ≤ M ∧ p = .int .i64 i ∧ q = .int .i64 j ∧ (∃ Z Ad Cp, Hid (ChsOwn wr w.heap.size v (i + j) Z Ad Cp) ∧ Hid (MergI X Y Z N M i j)) ∧ Hid (Below w.heap.size w wr)) (fun _ p q _ => (N - (intOf p).toNat) + (M - (intOf q).toNat))
  case atStart => exact ⟨0, 0, by omega, by omega, rfl, rfl, ⟨fun _ => default, fun _ => none, fun _ => 0, ChsOwn.nil _ _ _ _ _, (by show _ = _; simp [lst])⟩, Below.refl _ _⟩
  case round =>
    obtain ⟨i, j, hi, hj, rfl, rfl, ⟨Z, Ad, Cp, HO, HM⟩, HB⟩ := hrel
    obtain ⟨w1, rfl⟩ : ∃ w1, w1 = wr := ⟨_, rfl⟩
    by_cases hi1 : i < N
    · have hi2 : (i : Int) < N := by omega
      obtain ⟨bbx, ox, Ax, Cx, rfl, hbx, hrx, hkBx, hklx, hvrx, hvCx, hCmx, hnilx⟩ := HX.out.2 i hi1
      have HKx := Lib.hid (show IsB (X i).key ∧ (X i).key.length = 32 from ⟨hkBx, hklx⟩)
      have hszx : (Try.prog.info? 25).map (·.size) = some (bvs (X i).key).length := by rw [size_key]; simp [bvs, hklx]
      have HRRx : Hid (∀ W, Below w.heap.size w W → W.rangeAt bbx (ox + i * 34) (chC (X i) Ax Cx)) := fun W hW => range_below hW hbx hrx
      have HVVx : Hid (∀ W, Below w.heap.size w W → RB W Ax (X i).val.length (X i).val ∧ (X i).val.length ≤ Cx ∧ Cx ≤ maxLen ∧ (Ax = none → Cx = 0)) := fun W hW => ⟨hvrx.below hW, hvCx, hCmx, hnilx⟩
      have HAPx : Hid (0 < (X i).val.length → ∀ ad, Ax = some ad → some ad.block ≠ u5.ownBlock) := fun h0 ad e he => by
        obtain ⟨ad', e', q1, _⟩ := hvrx.2.2 h0
        rw [e] at e'
        injection e' with e'
        rw [← e'] at q1
        have q2 := HO.out.ge _ he.symm
        omega
      clear hbx hrx hkBx hklx hvrx hvCx hCmx hnilx
      by_cases hj1 : j < M
      · have hj2 : (j : Int) < M := by omega
        have hj3 : ¬ (M : Int) ≤ j := by omega
        have hj4 : decide ((M : Int) ≤ j) = false := decide_eq_false hj3
        obtain ⟨bby, oy, Ay, Cy, rfl, hby, hry, hkBy, hkly, hvry, hvCy, hCmy, hnily⟩ := HY.out.2 j hj1
        have HKy := Lib.hid (show IsB (Y j).key ∧ (Y j).key.length = 32 from ⟨hkBy, hkly⟩)
        have hszy : (Try.prog.info? 25).map (·.size) = some (bvs (Y j).key).length := by rw [size_key]; simp [bvs, hkly]
        have HRRy : Hid (∀ W, Below w.heap.size w W → W.rangeAt bby (oy + j * 34) (chC (Y j) Ay Cy)) := fun W hW => range_below hW hby hry
        have HVVy : Hid (∀ W, Below w.heap.size w W → RB W Ay (Y j).val.length (Y j).val ∧ (Y j).val.length ≤ Cy ∧ Cy ≤ maxLen ∧ (Ay = none → Cy = 0)) := fun W hW => ⟨hvry.below hW, hvCy, hCmy, hnily⟩
        have HAPy : Hid (0 < (Y j).val.length → ∀ ad, Ay = some ad → some ad.block ≠ u5.ownBlock) := fun h0 ad e he => by
          obtain ⟨ad', e', q1, _⟩ := hvry.2.2 h0
          rw [e] at e'
          injection e' with e'
          rw [← e'] at q1
          have q2 := HO.out.ge _ he.symm
          omega
        clear hby hry hkBy hkly hvry hvCy hCmy hnily
        have HML : Hid (numK (X i).key ≤ numK (Y j).key → MergI X Y (upd Z (i + j) (X i)) N M (i + 1) j) := fun h => HM.out.left hi1 (fun _ => h)
        have HMR : Hid (¬ numK (X i).key ≤ numK (Y j).key → MergI X Y (upd Z (i + j) (Y j)) N M i (j + 1)) := fun h => HM.out.right hj1 (fun _ => h)
        have KS : Hid (∀ W, Below w.heap.size w W → W.rangeAt bbx (ox + i * 34) (bvs (X i).key) ∧ W.rangeAt bby (oy + j * 34) (bvs (Y j).key)) := fun W hW => ⟨ch_key (HRRx.out W hW), ch_key (HRRy.out W hW)⟩
        generalize X i = x at *
        generalize Y j = y at *
        go_wp2_with fail
        rename_i KK hKK
        have HKK := Lib.hid hKK
        clear hKK
        refine wp_region_held_drew (S := fun w' => w'.rangeAt bbx (ox + i * 34) (bvs x.key) ∧ w'.rangeAt bby (oy + j * 34) (bvs y.key)) (by kernel_rfl) (KS.out _ (drewN_below HB.out 1)) fun hH => ?_
        refine wpAnyH_take (i := 0) (oi := ⟨some 34, _, _, _, _, _⟩) rfl (by kernel_rfl) (by kernel_rfl) (by kernel_rfl) (fun _ _ _ h => h) (Or.inl ⟨by rfl, fun w hw => by ((try dsimp only at hw); go_split_ands; go_simp; with_reducible rfl)⟩) (by assumption) ?_
        try simp only [Act.put, List.setIfInBounds_toArray, List.set_cons_zero, List.set_cons_succ]
        refine wpAnyH_take (i := 1) (oi := ⟨some 35, _, _, _, _, _⟩) rfl (by kernel_rfl) (by kernel_rfl) (by kernel_rfl) (fun _ _ _ h => h) (Or.inl ⟨by rfl, fun w hw => by ((try dsimp only at hw); go_split_ands; go_simp; with_reducible rfl)⟩) (by assumption) ?_
        try simp only [Act.put, List.setIfInBounds_toArray, List.set_cons_zero, List.set_cons_succ]
        refine wpAnyH_take (i := 2) (oi := ⟨some 36, _, _, _, _, _⟩) rfl (by kernel_rfl) (by kernel_rfl) (by kernel_rfl) (fun _ _ _ h => h) (Or.inl ⟨by rfl, fun w hw => by ((try dsimp only at hw); go_split_ands; go_simp; with_reducible rfl)⟩) (by assumption) ?_
        try simp only [Act.put, List.setIfInBounds_toArray, List.set_cons_zero, List.set_cons_succ]
        refine wpAnyH_take (i := 3) (oi := ⟨some 37, _, _, _, _, _⟩) rfl (by kernel_rfl) (by kernel_rfl) (by kernel_rfl) (fun _ _ _ h => h) (Or.inl ⟨by rfl, fun w hw => by ((try dsimp only at hw); go_split_ands; go_simp; with_reducible rfl)⟩) (by assumption) ?_
        try simp only [Act.put, List.setIfInBounds_toArray, List.set_cons_zero, List.set_cons_succ]
        refine wpAnyH_take (i := 4) (oi := ⟨some 38, _, _, _, _, _⟩) rfl (by kernel_rfl) (by kernel_rfl) (by kernel_rfl) (fun _ _ _ h => h) (yieldsIf_load_mid (by rfl) _ _ rfl _ _ rfl _ _ (fun w hw => by (try dsimp only at hw); go_split_ands; assumption) (by assumption) rfl (by assumption)) (by assumption) ?_
        try simp only [Act.put, List.setIfInBounds_toArray, List.set_cons_zero, List.set_cons_succ]
        refine wpAnyH_take (i := 5) (oi := ⟨some 39, _, _, _, _, _⟩) rfl (by kernel_rfl) (by kernel_rfl) (by kernel_rfl) (fun _ _ _ h => h) (Or.inl ⟨by rfl, fun w hw => by ((try dsimp only at hw); go_split_ands; go_simp; with_reducible rfl)⟩) (by assumption) ?_
        try simp only [Act.put, List.setIfInBounds_toArray, List.set_cons_zero, List.set_cons_succ]
        refine wpAnyH_take (i := 6) (oi := ⟨some 40, _, _, _, _, _⟩) rfl (by kernel_rfl) (by kernel_rfl) (by kernel_rfl) (fun _ _ _ h => h) (Or.inl ⟨by rfl, fun w hw => by ((try dsimp only at hw); go_split_ands; go_simp; with_reducible rfl)⟩) (by assumption) ?_
        try simp only [Act.put, List.setIfInBounds_toArray, List.set_cons_zero, List.set_cons_succ]
        refine wpAnyH_take (i := 7) (oi := ⟨some 41, _, _, _, _, _⟩) rfl (by kernel_rfl) (by kernel_rfl) (by kernel_rfl) (fun _ _ _ h => h) (Or.inl ⟨by rfl, fun w hw => by ((try dsimp only at hw); go_split_ands; go_simp; with_reducible rfl)⟩) (by assumption) ?_
        try simp only [Act.put, List.setIfInBounds_toArray, List.set_cons_zero, List.set_cons_succ]
        refine wpAnyH_take (i := 8) (oi := ⟨some 42, _, _, _, _, _⟩) rfl (by kernel_rfl) (by kernel_rfl) (by kernel_rfl) (fun _ _ _ h => h) (Or.inl ⟨by rfl, fun w hw => by ((try dsimp only at hw); go_split_ands; go_simp; with_reducible rfl)⟩) (by assumption) ?_
        try simp only [Act.put, List.setIfInBounds_toArray, List.set_cons_zero, List.set_cons_succ]
        refine wpAnyH_take (i := 9) (oi := ⟨some 43, _, _, _, _, _⟩) rfl (by kernel_rfl) (by kernel_rfl) (by kernel_rfl) (fun _ _ _ h => h) (yieldsIf_load_mid (by rfl) _ _ rfl _ _ rfl _ _ (fun w hw => by (try dsimp only at hw); go_split_ands; assumption) (by assumption) rfl (by assumption)) (by assumption) ?_
        try simp only [Act.put, List.setIfInBounds_toArray, List.set_cons_zero, List.set_cons_succ]
        refine wpAnyH_ready (rs := [10]) (by kernel_rfl) (by simp) ?_
        refine AllReadyH.cons rfl (fun K hK => ?_) (AllReadyH.nil)
        go_simp
        refine (refcompare_num x.key y.key _ HKx.out.1 HKx.out.2 HKy.out.1 HKy.out.2).mono ?_
        rintro e w2 ⟨rfl, hb2⟩
        have HBW : Hid (Below w.heap.size w w2) := (drewN_below HB.out 1).trans (hb2.mono (drewN_below HB.out 1).size)
        have HOW := Lib.hid ((HO.out.later (drewN_below (Below.refl _ _) 1)).later hb2)
        refine hK.out _ _ (KS.out _ HBW.out) (fun hH2 => ?_)
        clear hK hH hb2
        refine wpAnyH_take (i := 11) (oi := ⟨some 9, _, _, _, _, _⟩) rfl (by kernel_rfl) (by kernel_rfl) (by kernel_rfl) (fun _ _ _ h => h) (Or.inl ⟨by rfl, fun w hw => by ((try dsimp only at hw); go_split_ands; go_simp; with_reducible rfl)⟩) (by assumption) ?_
        try simp only [Act.put, List.setIfInBounds_toArray, List.set_cons_zero, List.set_cons_succ]
        refine wpAnyH_done (by kernel_rfl) ?_ _
        change KK _ _
        refine HKK.out _ _ ?_
        clear hH2 hu hszx hszy
        by_cases hle : numK x.key ≤ numK y.key
        · have hz : cmpZ (numK x.key) (numK y.key) ≤ 0 := (cmpZ_le _ _).2 hle
          have HMn := Lib.hid (HML.out hle)
          have HRx := Lib.hid (HRRx.out _ HBW.out)
          have HVx := Lib.hid (HVVx.out _ HBW.out)
          generalize cmpZ (numK x.key) (numK y.key) = z at *
          have hzd : decide (z ≤ 0) = true := decide_eq_true hz
          go_wp2_with (first
          | ((with_reducible refine stopAt (o := ⟨some 52, _, _, _, _, _⟩) ?_); refine loadRange (o := ⟨some 52, _, _, _, _, _⟩) (by rfl) 45 (.tmp 51) rfl bbx (ox + i * 34) (chC x Ax Cx) rfl HRx.out row_chg (by rw [size_chg, chC_length HKx.out.2]) ?_)
          | ((with_reducible refine stopAt (o := ⟨some 53, _, _, _, _, _⟩) ?_); refine buildSlice1 (o := ⟨some 53, _, _, _, _, _⟩) rfl w2 30 45 _ 34 (.tmp 52) rfl und_chl info_chg (by decide) (by decide) (chC x Ax Cx).toArray rfl (by rw [List.size_toArray, chC_length HKx.out.2]) ?_)
          | ((with_reducible refine stopAt (o := ⟨some 54, _, _, _, _, _⟩) ?_); refine append1C (o := ⟨some 54, _, _, _, _, _⟩) und_chl info_chg3 rfl w2 rfl (.tmp 48) (.tmp 53) rfl w.heap.size u5 (i + j) _ HOW.out.own (chC x Ax Cx) (chC_length HKx.out.2) chC_one rfl rfl (by omega) (by omega) HBW.out.size ?_; intro v3 w3 ho3 hg3 hl3; have HO3 := Lib.hid (HOW.out.more HKx.out HVx.out HAPx.out ho3 hg3 hl3); have HB3 : Hid (Below w.heap.size w w3) := HBW.out.grown hg3 HBW.out.size HOW.out.ge; clear ho3 hg3 hl3))
          go_roundw
          case rel => exact ⟨i + 1, j, by omega, by omega, by go_num, by go_num, ⟨_, _, _, by show ChsOwn _ _ _ _ _ _ _; have h := HO3.out; rwa [show i + j + 1 = i + 1 + j by omega] at h, HMn.out⟩, HB3.out⟩
          case measure => simp [intOf]; omega
        · have hz : ¬ cmpZ (numK x.key) (numK y.key) ≤ 0 := fun h => hle ((cmpZ_le _ _).1 h)
          have HMn := Lib.hid (HMR.out hle)
          have HRy := Lib.hid (HRRy.out _ HBW.out)
          have HVy := Lib.hid (HVVy.out _ HBW.out)
          generalize cmpZ (numK x.key) (numK y.key) = z at *
          have hzd : decide (z ≤ 0) = false := decide_eq_false hz
          go_wp2_with (first
          | ((with_reducible refine stopAt (o := ⟨some 61, _, _, _, _, _⟩) ?_); refine loadRange (o := ⟨some 61, _, _, _, _, _⟩) (by rfl) 45 (.tmp 60) rfl bby (oy + j * 34) (chC y Ay Cy) rfl HRy.out row_chg (by rw [size_chg, chC_length HKy.out.2]) ?_)
          | ((with_reducible refine stopAt (o := ⟨some 62, _, _, _, _, _⟩) ?_); refine buildSlice1 (o := ⟨some 62, _, _, _, _, _⟩) rfl w2 30 45 _ 34 (.tmp 61) rfl und_chl info_chg (by decide) (by decide) (chC y Ay Cy).toArray rfl (by rw [List.size_toArray, chC_length HKy.out.2]) ?_)
          | ((with_reducible refine stopAt (o := ⟨some 63, _, _, _, _, _⟩) ?_); refine append1C (o := ⟨some 63, _, _, _, _, _⟩) und_chl info_chg3 rfl w2 rfl (.tmp 57) (.tmp 62) rfl w.heap.size u5 (i + j) _ HOW.out.own (chC y Ay Cy) (chC_length HKy.out.2) chC_one rfl rfl (by omega) (by omega) HBW.out.size ?_; intro v3 w3 ho3 hg3 hl3; have HO3 := Lib.hid (HOW.out.more HKy.out HVy.out HAPy.out ho3 hg3 hl3); have HB3 : Hid (Below w.heap.size w w3) := HBW.out.grown hg3 HBW.out.size HOW.out.ge; clear ho3 hg3 hl3))
          go_roundw
          case rel => exact ⟨i, j + 1, by omega, by omega, by go_num, by go_num, ⟨_, _, _, by show ChsOwn _ _ _ _ _ _ _; have h := HO3.out; rwa [show i + j + 1 = i + j + 1 by omega] at h, HMn.out⟩, HB3.out⟩
          case measure => simp [intOf]; omega
      · have hj2 : ¬ (j : Int) < M := by omega
        have hj3 : (M : Int) ≤ j := by omega
        have hj4 : decide ((M : Int) ≤ j) = true := decide_eq_true hj3
        have HMn : Hid (MergI X Y (upd Z (i + j) (X i)) N M (i + 1) j) := HM.out.left hi1 (fun h => absurd h hj1)
        have HBW := HB
        have HOW := HO
        have HRx := Lib.hid (HRRx.out _ HBW.out)
        have HVx := Lib.hid (HVVx.out _ HBW.out)
        generalize X i = x at *
        go_wp2_with (first
          | ((with_reducible refine stopAt (o := ⟨some 52, _, _, _, _, _⟩) ?_); refine loadRange (o := ⟨some 52, _, _, _, _, _⟩) (by rfl) 45 (.tmp 51) rfl bbx (ox + i * 34) (chC x Ax Cx) rfl HRx.out row_chg (by rw [size_chg, chC_length HKx.out.2]) ?_)
          | ((with_reducible refine stopAt (o := ⟨some 53, _, _, _, _, _⟩) ?_); refine buildSlice1 (o := ⟨some 53, _, _, _, _, _⟩) rfl w1 30 45 _ 34 (.tmp 52) rfl und_chl info_chg (by decide) (by decide) (chC x Ax Cx).toArray rfl (by rw [List.size_toArray, chC_length HKx.out.2]) ?_)
          | ((with_reducible refine stopAt (o := ⟨some 54, _, _, _, _, _⟩) ?_); refine append1C (o := ⟨some 54, _, _, _, _, _⟩) und_chl info_chg3 rfl w1 rfl (.tmp 48) (.tmp 53) rfl w.heap.size u5 (i + j) _ HOW.out.own (chC x Ax Cx) (chC_length HKx.out.2) chC_one rfl rfl (by omega) (by omega) HBW.out.size ?_; intro v3 w3 ho3 hg3 hl3; have HO3 := Lib.hid (HOW.out.more HKx.out HVx.out HAPx.out ho3 hg3 hl3); have HB3 : Hid (Below w.heap.size w w3) := HBW.out.grown hg3 HBW.out.size HOW.out.ge; clear ho3 hg3 hl3))
        go_roundw
        case rel => exact ⟨i + 1, j, by omega, by omega, by go_num, by go_num, ⟨_, _, _, by show ChsOwn _ _ _ _ _ _ _; have h := HO3.out; rwa [show i + j + 1 = i + 1 + j by omega] at h, HMn.out⟩, HB3.out⟩
        case measure => simp [intOf]; omega
    · have hi2 : ¬ (i : Int) < N := by omega
      by_cases hj1 : j < M
      · have hj2 : (j : Int) < M := by omega
        have hj3 : ¬ (M : Int) ≤ j := by omega
        have hj4 : decide ((M : Int) ≤ j) = false := decide_eq_false hj3
        obtain ⟨bby, oy, Ay, Cy, rfl, hby, hry, hkBy, hkly, hvry, hvCy, hCmy, hnily⟩ := HY.out.2 j hj1
        have HKy := Lib.hid (show IsB (Y j).key ∧ (Y j).key.length = 32 from ⟨hkBy, hkly⟩)
        have hszy : (Try.prog.info? 25).map (·.size) = some (bvs (Y j).key).length := by rw [size_key]; simp [bvs, hkly]
        have HRRy : Hid (∀ W, Below w.heap.size w W → W.rangeAt bby (oy + j * 34) (chC (Y j) Ay Cy)) := fun W hW => range_below hW hby hry
        have HVVy : Hid (∀ W, Below w.heap.size w W → RB W Ay (Y j).val.length (Y j).val ∧ (Y j).val.length ≤ Cy ∧ Cy ≤ maxLen ∧ (Ay = none → Cy = 0)) := fun W hW => ⟨hvry.below hW, hvCy, hCmy, hnily⟩
        have HAPy : Hid (0 < (Y j).val.length → ∀ ad, Ay = some ad → some ad.block ≠ u5.ownBlock) := fun h0 ad e he => by
          obtain ⟨ad', e', q1, _⟩ := hvry.2.2 h0
          rw [e] at e'
          injection e' with e'
          rw [← e'] at q1
          have q2 := HO.out.ge _ he.symm
          omega
        clear hby hry hkBy hkly hvry hvCy hCmy hnily
        have HMn : Hid (MergI X Y (upd Z (i + j) (Y j)) N M i (j + 1)) := HM.out.right hj1 (fun h => absurd h hi1)
        have HBW := HB
        have HOW := HO
        have HRy := Lib.hid (HRRy.out _ HBW.out)
        have HVy := Lib.hid (HVVy.out _ HBW.out)
        generalize Y j = y at *
        go_wp2_with (first
          | ((with_reducible refine stopAt (o := ⟨some 61, _, _, _, _, _⟩) ?_); refine loadRange (o := ⟨some 61, _, _, _, _, _⟩) (by rfl) 45 (.tmp 60) rfl bby (oy + j * 34) (chC y Ay Cy) rfl HRy.out row_chg (by rw [size_chg, chC_length HKy.out.2]) ?_)
          | ((with_reducible refine stopAt (o := ⟨some 62, _, _, _, _, _⟩) ?_); refine buildSlice1 (o := ⟨some 62, _, _, _, _, _⟩) rfl w1 30 45 _ 34 (.tmp 61) rfl und_chl info_chg (by decide) (by decide) (chC y Ay Cy).toArray rfl (by rw [List.size_toArray, chC_length HKy.out.2]) ?_)
          | ((with_reducible refine stopAt (o := ⟨some 63, _, _, _, _, _⟩) ?_); refine append1C (o := ⟨some 63, _, _, _, _, _⟩) und_chl info_chg3 rfl w1 rfl (.tmp 57) (.tmp 62) rfl w.heap.size u5 (i + j) _ HOW.out.own (chC y Ay Cy) (chC_length HKy.out.2) chC_one rfl rfl (by omega) (by omega) HBW.out.size ?_; intro v3 w3 ho3 hg3 hl3; have HO3 := Lib.hid (HOW.out.more HKy.out HVy.out HAPy.out ho3 hg3 hl3); have HB3 : Hid (Below w.heap.size w w3) := HBW.out.grown hg3 HBW.out.size HOW.out.ge; clear ho3 hg3 hl3))
        go_roundw
        case rel => exact ⟨i, j + 1, by omega, by omega, by go_num, by go_num, ⟨_, _, _, by show ChsOwn _ _ _ _ _ _ _; have h := HO3.out; rwa [show i + j + 1 = i + j + 1 by omega] at h, HMn.out⟩, HB3.out⟩
        case measure => simp [intOf]; omega
      · have hj2 : ¬ (j : Int) < M := by omega
        obtain rfl : i = N := by omega
        obtain rfl : j = M := by omega
        go_wp2_with fail
        go_ret
        exact ⟨_, _, _, rfl, HO.out.congr HM.out.done, HB.out⟩
end Go.Proofs.Ytkpbeibcfaenhaa
