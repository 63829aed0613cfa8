/- Ref9, Ref9b (merged) -/
import Derived.Test.YtfnlhfaihoojfaaDoorMi
/- ledgerref9: the texts and digests of a branch, of empty subtrees. -/
namespace Go.Proofs.YtfnlhfaihoojfaaDoor
open Go.RowKit
theorem own_byte {w : World} (a : Nat) (ha : a < 256) : OwnU (w.alloc (.cells #[.int .u8 (a : Int)] 5)) w.heap.size (.slice (some ⟨w.heap.size, 0, none⟩) 1 1) [a] :=
  ⟨⟨rfl, .inr ⟨w.heap.size, 1, #[.int .u8 (a : Int)], rfl, Nat.le_refl _, heap_alloc_new w _, Nat.le_refl _, by simp [maxLen], rfl, rfl⟩⟩, fun x hx => by simp at hx; omega⟩
theorem rwithin_any (n lo hi : Int) (w : World) : Calls Tryd.prog 21 #[.int .i64 n, .int .i64 lo, .int .i64 hi] w fun e w' => e = .returned (.int .i64 (if n < lo then lo else if hi < n then hi else n)) ∧ w' = w := by
  by_cases h1 : n < lo
  · go_enter Tryd.func21, Tryd.ntmps21
    go_wp2_with fail
    go_ret
    exact ⟨rfl, rfl⟩
  · by_cases h2 : hi < n
    · go_enter Tryd.func21, Tryd.ntmps21
      go_wp2_with fail
      go_ret
      exact ⟨rfl, rfl⟩
    · go_enter Tryd.func21, Tryd.ntmps21
      go_wp2_with fail
      go_ret
      exact ⟨rfl, rfl⟩
theorem rwithin32 (n : Int) (w : World) : Calls Tryd.prog 21 #[.int .i64 n, .int .i64 0, .int .i64 32] w fun e w' => e = .returned (.int .i64 (cutK n : Nat)) ∧ w' = w := by
  refine (rwithin_any n 0 32 w).mono ?_
  rintro e w' ⟨rfl, rfl⟩
  refine ⟨?_, rfl⟩
  congr 2
  unfold cutK
  split <;> (try split) <;> omega
set_option maxHeartbeats 1000000 in
theorem rcut_any (A : Option Addr) (n c : Nat) (xs : List Nat) (wd : Int) (w : World) (hx : RB w A n xs) (hA : A = none → c = 0) (hn : n + 128 ≤ 140737488355328) (ht : Tabs1 w) :
    Calls Tryd.prog 22 #[.slice A n c, .int .i64 wd] w fun e w' => e = .returned (.agg (bvs (nodeD wd xs)).toArray) ∧ Below w.heap.size w w' := by
  have HX := Lib.hid hx
  have HA := Lib.hid hA
  have HN := Lib.hid hn
  have HT := Lib.hid ht
  clear hx hA hn ht
  go_enter Tryd.func22, Tryd.ntmps22
  go_wp2_with (with_reducible refine stopAt (o := ⟨some 7, _, _, _, _, _⟩) ?_)
  refine start1 (G := fun w2 => Hid (wpList _ _ _ _ _ w2)) fun w2 H1 HW HS => ?_
  have HD2 : Hid (BlkB w2 w.heap.size 29 (zs 32)) := H1
  clear H1
  refine Lib.hid ?_
  go_wp2_with fail
  refine (refdig_any A n c xs w2 (HX.out.below HW.out) HA.out HN.out ⟨HT.out.1.below HW.out, HT.out.2.below HW.out⟩).mono ?_
  rintro e w3 ⟨rfl, hb3⟩
  have HB3 : Hid (Below w.heap.size w w3) := HW.out.trans (hb3.mono HW.out.size)
  have HD3 : Hid (BlkB w3 w.heap.size 29 (zs 32)) := BlkIs.below HD2.out hb3
  have HL := Lib.hid (And.intro (shaN_length xs) (shaN_isB xs))
  have HP : Hid (nodeD wd xs = cutN (shaN xs) wd) := rfl
  obtain ⟨D, HDD⟩ : ∃ D, Hid (shaN xs = D) := ⟨_, rfl⟩
  rw [HDD.out] at HP HL ⊢
  clear hb3 HD2
  go_wp2_with (first
    | ((with_reducible refine stopAt (o := ⟨some 5, _, _, _, _, _⟩) ?_); refine allocNew (o := ⟨some 5, _, _, _, _, _⟩) (by rfl) 29 rfl _ _ info_dig ?_; intro w4 HE4 HW4 HS4)
    | (refine wpList_store_part (o := ⟨none, _, _, _, _, _⟩) (by rfl) 29 (.tmp 5) (.tmp 7) rfl 0 [] (bvs (zs 32)) (bvs D) [] rfl rfl (blk_in HE4.out) rfl (by simp [bvs, zs, HL.out.1]) (by rw [size_dig]; simp [bvs, HL.out.1]) (fun u hu => bvs_oneCell _ u hu) ?_; intro w5 h5 g5; have HE5 : Hid (BlkB w5 w3.heap.size 29 D) := blk_out h5)
    | (refine wpList_load_arr (o := ⟨some 8, _, _, _, _, _⟩) (by rfl) 29 (.tmp 5) rfl ⟨w3.heap.size, 0, none⟩ 32 D rfl (HE5.out.whole HL.out.2 HL.out.1) (by omega) (by kernel_rfl) (by kernel_rfl) ?_))
  have hb35 : Below w3.heap.size w3 w5 := HW4.out.grown g5 HW4.out.size fun k hk => by injection hk with hk; omega
  have HB5 : Hid (Below w.heap.size w w5) := HB3.out.trans (hb35.mono HB3.out.size)
  have HD5 : Hid (BlkB w5 w.heap.size 29 (zs 32)) := BlkIs.below HD3.out hb35
  clear hb35 g5 h5
  refine (refCut_any D wd w5 HL.out.2 HL.out.1).mono ?_
  rintro e w6 ⟨rfl, hb6⟩
  have HB6 : Hid (Below w.heap.size w w6) := HB5.out.trans (hb6.mono HB5.out.size)
  have HD6 : Hid (BlkB w6 w.heap.size 29 (zs 32)) := BlkIs.below HD5.out hb6
  rw [← HP.out]
  clear hb6 HD5
  go_wp2_with (refine wpList_store_part (o := ⟨none, _, _, _, _, _⟩) (by rfl) 29 (.tmp 4) (.tmp 10) rfl 0 [] (bvs (zs 32)) (bvs (nodeD wd xs)) [] rfl rfl (blk_in HD6.out) rfl (by simp [bvs, zs, nodeD_length]) (by rw [size_dig]; simp [bvs, nodeD_length]) (fun u hu => bvs_oneCell _ u hu) ?_; intro w7 h7 g7)
  exact arr_ret rfl rfl (blk_out h7) (nodeD_length _ _) row_dig size_dig rfl ⟨rfl, HB6.out.grown g7 HB6.out.size fun k hk => by injection hk with hk; omega⟩
set_option maxHeartbeats 1000000 in
theorem rbranchText_any (wd : Int) (ls rs : List Nat) (w : World) (hl : IsB ls) (hll : ls.length = 32) (hr : IsB rs) (hrl : rs.length = 32) :
    Calls Tryd.prog 45 #[.int .i64 wd, .agg (bvs ls).toArray, .agg (bvs rs).toArray] w fun e w' => Below w.heap.size w w' ∧ ∃ V, e = .returned V ∧ OwnU w' w.heap.size V (branchT wd ls rs) := by
  have HL := Lib.hid (And.intro hll hl)
  have HR := Lib.hid (And.intro hrl hr)
  have HK := Lib.hid (cutK_le wd)
  clear hl hll hr hrl
  go_enter Tryd.func45, Tryd.ntmps45
  go_wp2_with fail
  refine start2 (G := fun w2 => Calls _ _ _ w2 _) fun w2 H1 H2 HW HS => ?_
  have HL2 : Hid (BlkB w2 w.heap.size 29 ls) := H1
  have HR2 : Hid (BlkB w2 (w.heap.size + 1) 29 rs) := H2
  clear H1 H2
  refine (rwithin32 wd w2).mono ?_
  rintro e w3 ⟨rfl, rfl⟩
  obtain ⟨m, HM⟩ : ∃ m, Hid (cutK wd = m) := ⟨_, rfl⟩
  rw [HM.out] at HK ⊢
  have hm32 : (m : Int) ≤ 32 := by have := HK.out; omega
  go_wp2_with fail
  have HB0 : Hid (Below w3.heap.size w3 (w3.alloc (.cells #[.int .u8 1] 5))) := (Below.refl _ _).alloc (Nat.le_refl _) _
  have HO0 : Hid (OwnU (w3.alloc (.cells #[.int .u8 1] 5)) w3.heap.size (.slice (some ⟨w3.heap.size, 0, none⟩) 1 1) (1 :: ls.take 0)) := own_byte 1 (by omega)
  go_loopw [8, 9] (fun v i wr => ∃ k : Nat, k ≤ m ∧ i = .int .i64 k ∧ Hid (OwnU wr w3.heap.size v (1 :: ls.take k)) ∧ Hid (Below w3.heap.size w3 wr)) (fun _ i _ => m - (intOf i).toNat)
  case atStart => exact ⟨0, by omega, rfl, HO0.out, HB0.out⟩
  case round =>
    obtain ⟨k, hk, rfl, HO, HB⟩ := hrel
    by_cases hlt : k < m
    · have hlt' : (k : Int) < m := by omega
      have hk32 : k < ls.length := by have := HL.out.1; have := HK.out; omega
      have hc : wr.cell? ⟨w.heap.size, k, none⟩ = some (.int .u8 (ls.getD k 0 : Nat)) := (BlkB.cell (BlkIs.below HL2.out HB.out) hk32)
      have hx8 : ls.getD k 0 < 256 := HL.out.2 _ (getD_mem hk32)
      have HTS : Hid (1 :: ls.take (k + 1) = 1 :: ls.take k ++ [ls.getD k 0]) := by show _ = _; rw [take_succ_getD hk32]; rfl
      have hln : (1 :: ls.take k).length + 1 ≤ 140737488355328 := by rw [List.length_cons, List.length_take]; omega
      clear hk32
      generalize ls.getD k 0 = b at *
      go_wp2_with (at_builtin; refine append1 und_bytes info_byte wr rfl (.tmp 19) (.tmp 23) rfl w3.heap.size _ _ HO.out b hx8 rfl rfl hln HB.out.size ?_; intro v' w1 hown1 hgrow1)
      have HB1 := Lib.hid (HB.out.grown hgrow1 HB.out.size HO.out.ge)
      go_roundw
      case rel => exact ⟨k + 1, by omega, by go_num, by rw [HTS.out]; exact hown1, HB1.out⟩
      case measure => simp [intOf]; omega
    · obtain rfl : k = m := by omega
      go_wp2_with fail
      go_loopw [8, 10] (fun v i wr => ∃ j : Nat, j ≤ k ∧ i = .int .i64 j ∧ Hid (OwnU wr w3.heap.size v (1 :: (ls.take k ++ rs.take j))) ∧ Hid (Below w3.heap.size w3 wr)) (fun _ i _ => k - (intOf i).toNat)
      case atStart => exact ⟨0, by omega, rfl, by rw [List.take_zero, List.append_nil]; exact HO.out, HB.out⟩
      case round =>
        clear HO HB
        obtain ⟨j, hj, rfl, HO, HB⟩ := hrel
        by_cases hlt : j < k
        · have hlt' : (j : Int) < k := by omega
          have hk32 : j < rs.length := by have := HR.out.1; have := HK.out; omega
          have hc : wr.cell? ⟨w.heap.size + 1, j, none⟩ = some (.int .u8 (rs.getD j 0 : Nat)) := (BlkB.cell (BlkIs.below HR2.out HB.out) hk32)
          have hx8 : rs.getD j 0 < 256 := HR.out.2 _ (getD_mem hk32)
          have HTS : Hid (1 :: (ls.take k ++ rs.take (j + 1)) = 1 :: (ls.take k ++ rs.take j) ++ [rs.getD j 0]) := by show _ = _; rw [take_succ_getD hk32]; simp
          have hln : (1 :: (ls.take k ++ rs.take j)).length + 1 ≤ 140737488355328 := by rw [List.length_cons, List.length_append, List.length_take, List.length_take]; omega
          clear hk32
          generalize rs.getD j 0 = b at *
          go_wp2_with (at_builtin; refine append1 und_bytes info_byte wr rfl (.tmp 30) (.tmp 34) rfl w3.heap.size _ _ HO.out b hx8 rfl rfl hln HB.out.size ?_; intro v' w1 hown1 hgrow1)
          have HB1 := Lib.hid (HB.out.grown hgrow1 HB.out.size HO.out.ge)
          go_roundw
          case rel => exact ⟨j + 1, by omega, by go_num, by rw [HTS.out]; exact hown1, HB1.out⟩
          case measure => simp [intOf]; omega
        · obtain rfl : j = k := by omega
          have HBT : Hid (branchT wd ls rs = 1 :: (ls.take j ++ rs.take j)) := by show _ = _; unfold branchT; rw [HM.out]
          go_wp2_with fail
          go_ret
          exact ⟨HW.out.trans (HB.out.mono HW.out.size), _, rfl, by rw [HBT.out]; exact HO.out.mono HW.out.size⟩
end Go.Proofs.YtfnlhfaihoojfaaDoor

/- ledgerref9: Branch, Empty. -/
namespace Go.Proofs.YtfnlhfaihoojfaaDoor
open Go.RowKit
theorem branchT_length (wd : Int) (ls rs : List Nat) : (branchT wd ls rs).length ≤ 65 := by
  unfold branchT
  have := cutK_le wd
  simp only [List.length_cons, List.length_append, List.length_take]
  omega
set_option maxHeartbeats 1000000 in
theorem rbranch_any (wd : Int) (ls rs : List Nat) (w : World) (hl : IsB ls) (hll : ls.length = 32) (hr : IsB rs) (hrl : rs.length = 32) (ht : Tabs1 w) :
    Calls Tryd.prog 23 #[.int .i64 wd, .agg (bvs ls).toArray, .agg (bvs rs).toArray] w fun e w' => e = .returned (.agg (bvs (nodeD wd (branchT wd ls rs))).toArray) ∧ Below w.heap.size w w' := by
  have HL := Lib.hid (And.intro hll hl)
  have HR := Lib.hid (And.intro hrl hr)
  have HT := Lib.hid ht
  clear hl hll hr hrl ht
  go_enter Tryd.func23, Tryd.ntmps23
  go_wp2_with (with_reducible refine stopAt (o := ⟨some 9, _, _, _, _, _⟩) ?_)
  refine start3 (G := fun w2 => Hid (wpList _ _ _ _ _ w2)) fun w2 H1 H2 H3 HW HS => ?_
  have HL2 : Hid (BlkB w2 w.heap.size 29 ls) := H1
  have HR2 : Hid (BlkB w2 (w.heap.size + 1) 29 rs) := H2
  have HD2 : Hid (BlkB w2 (w.heap.size + 1 + 1) 29 (zs 32)) := H3
  clear H1 H2 H3
  refine Lib.hid ?_
  go_wp2_with (first
    | (refine wpList_load_arr (o := ⟨some 9, _, _, _, _, _⟩) (by rfl) 29 (.tmp 4) rfl ⟨w.heap.size, 0, none⟩ 32 ls rfl (HL2.out.whole HL.out.2 HL.out.1) (by omega) (by kernel_rfl) (by kernel_rfl) ?_)
    | (refine wpList_load_arr (o := ⟨some 10, _, _, _, _, _⟩) (by rfl) 29 (.tmp 5) rfl ⟨w.heap.size + 1, 0, none⟩ 32 rs rfl (HR2.out.whole HR.out.2 HR.out.1) (by omega) (by kernel_rfl) (by kernel_rfl) ?_))
  refine (rbranchText_any wd ls rs w2 HL.out.2 HL.out.1 HR.out.2 HR.out.1).mono ?_
  rintro e w3 ⟨hb3, V, rfl, ho⟩
  obtain ⟨A, c, rfl, hx, _, hA, _⟩ := ho.form
  have HX := Lib.hid hx
  have HA := Lib.hid hA
  have HB3 : Hid (Below w.heap.size w w3) := HW.out.trans (hb3.mono HW.out.size)
  have HD3 : Hid (BlkB w3 (w.heap.size + 1 + 1) 29 (zs 32)) := BlkIs.below HD2.out hb3
  have HN : Hid ((branchT wd ls rs).length + 128 ≤ 140737488355328) := by have := branchT_length wd ls rs; show _ ≤ _; omega
  have HT3 : Hid (Tabs1 w3) := ⟨HT.out.1.below HB3.out, HT.out.2.below HB3.out⟩
  obtain ⟨T, HTT⟩ : ∃ T, Hid (branchT wd ls rs = T) := ⟨_, rfl⟩
  rw [HTT.out] at HX HN ⊢
  clear hb3 ho hx hA HL2 HR2 HD2
  go_wp2_with fail
  refine (rcut_any A T.length c T wd w3 HX.out HA.out HN.out HT3.out).mono ?_
  rintro e w4 ⟨rfl, hb4⟩
  have HB4 : Hid (Below w.heap.size w w4) := HB3.out.trans (hb4.mono HB3.out.size)
  have HD4 : Hid (BlkB w4 (w.heap.size + 1 + 1) 29 (zs 32)) := BlkIs.below HD3.out hb4
  clear hb4
  go_wp2_with (refine wpList_store_part (o := ⟨none, _, _, _, _, _⟩) (by rfl) 29 (.tmp 6) (.tmp 14) rfl 0 [] (bvs (zs 32)) (bvs (nodeD wd T)) [] rfl rfl (blk_in HD4.out) rfl (by simp [bvs, zs, nodeD_length]) (by rw [size_dig]; simp [bvs, nodeD_length]) (fun u hu => bvs_oneCell _ u hu) ?_; intro w7 h7 g7)
  exact arr_ret rfl rfl (blk_out h7) (nodeD_length _ _) row_dig size_dig rfl ⟨by rw [HTT.out], HB4.out.grown g7 HB4.out.size fun k hk => by injection hk with hk; omega⟩
set_option maxHeartbeats 1000000 in
theorem rempty_any (wd : Int) (w : World) (ht : Tabs1 w) :
    Calls Tryd.prog 8 #[.int .i64 wd, .int .i64 256] w fun e w' => e = .returned (.agg (bvs (emptyD wd 256)).toArray) ∧ Below w.heap.size w w' := by
  have HT := Lib.hid ht
  clear ht
  go_enter Tryd.func8, Tryd.ntmps8
  go_wp2_with fail
  refine start1 (G := fun w2 => Calls _ _ _ w2 _) fun w2 H1 HW HS => ?_
  have HD2 : Hid (BlkB w2 w.heap.size 29 (zs 32)) := H1
  clear H1
  refine (rwithin_any 256 0 256 w2).mono ?_
  rintro e w3 ⟨rfl, rfl⟩
  rw [show (if (256 : Int) < 0 then (0 : Int) else if (256 : Int) < 256 then 256 else 256) = 256 from rfl]
  go_wp2_with fail
  have HB0 : Hid (Below w.heap.size w (w3.alloc (.cells #[.int .u8 2] 5))) := HW.out.alloc HW.out.size _
  have HO0 : Hid (OwnU (w3.alloc (.cells #[.int .u8 2] 5)) w3.heap.size (.slice (some ⟨w3.heap.size, 0, none⟩) 1 1) [2]) := own_byte 2 (by omega)
  obtain ⟨A, c, hv, hx, _, hA, _⟩ := HO0.out.form
  have hx' : RB (w3.alloc (.cells #[.int .u8 2] 5)) (some ⟨w3.heap.size, 0, none⟩) 1 [2] := by
    injection hv with e1 e2 e3
    rw [← e1] at hx
    exact hx
  have HX := Lib.hid hx'
  clear hv hx hA hx'
  refine (rcut_any _ 1 1 [2] wd _ HX.out (fun h => by cases h) (by omega) ⟨HT.out.1.below HB0.out, HT.out.2.below HB0.out⟩).mono ?_
  rintro e w4 ⟨rfl, hb4⟩
  have HB4 : Hid (Below w.heap.size w w4) := HB0.out.trans (hb4.mono HB0.out.size)
  have HD4 : Hid (BlkB w4 w.heap.size 29 (zs 32)) := BlkIs.below HD2.out (hb4.mono (by simp) |> fun h => ((Below.refl _ _).alloc (Nat.le_refl _) _).trans h)
  have HE0 : Hid (nodeD wd [2] = emptyD wd 0) := rfl
  rw [HE0.out]
  clear hb4
  go_wp2_with (first
    | ((with_reducible refine stopAt (o := ⟨some 6, _, _, _, _, _⟩) ?_); refine allocNew (o := ⟨some 6, _, _, _, _, _⟩) (by rfl) 29 rfl _ _ info_dig ?_; intro w5 HE5 HW5 HS5)
    | (refine wpList_store_part (o := ⟨none, _, _, _, _, _⟩) (by rfl) 29 (.tmp 6) (.tmp 12) rfl 0 [] (bvs (zs 32)) (bvs (emptyD wd 0)) [] rfl rfl (blk_in HE5.out) rfl (by simp [bvs, zs, emptyD_length]) (by rw [size_dig]; simp [bvs, emptyD_length]) (fun u hu => bvs_oneCell _ u hu) ?_; intro w6 h6 g6))
  have hb46 : Below w4.heap.size w4 w6 := HW5.out.grown g6 HW5.out.size fun k hk => by injection hk with hk; omega
  have HB6 : Hid (Below w.heap.size w w6) := HB4.out.trans (hb46.mono HB4.out.size)
  have HD6 : Hid (BlkB w6 w.heap.size 29 (zs 32)) := BlkIs.below HD4.out hb46
  have HX6 : Hid (BlkB w6 w4.heap.size 29 (emptyD wd 0)) := blk_out h6
  have HLT : Hid (w.heap.size < w4.heap.size) := HD4.out.lt
  clear hb46 h6 g6
  go_loopw [7] (fun i wr => ∃ h : Nat, h ≤ 256 ∧ i = .int .i64 h ∧ Hid (BlkB wr w4.heap.size 29 (emptyD wd h)) ∧ Hid (BlkB wr w.heap.size 29 (zs 32)) ∧ Hid (Below w.heap.size w wr)) (fun i _ => 256 - (intOf i).toNat)
  case atStart => exact ⟨0, by omega, rfl, HX6.out, HD6.out, HB6.out⟩
  case round =>
    obtain ⟨h, hh, rfl, HX, HD, HB⟩ := hrel
    by_cases hlt : h < 256
    · have hlt' : (h : Int) < 256 := by omega
      have HES : Hid (emptyD wd (h + 1) = nodeD wd (branchT wd (emptyD wd h) (emptyD wd h))) := rfl
      have HEL := Lib.hid (And.intro (emptyD_length wd h) (emptyD_isB wd h))
      have HEL1 := Lib.hid (emptyD_length wd (h + 1))
      obtain ⟨E, HE⟩ : ∃ E, Hid (emptyD wd h = E) := ⟨_, rfl⟩
      obtain ⟨F, HF⟩ : ∃ F, Hid (emptyD wd (h + 1) = F) := ⟨_, rfl⟩
      rw [HE.out] at HX HES HEL
      rw [HF.out] at HES HEL1
      go_wp2_with (first
        | (refine wpList_load_arr (o := ⟨some 19, _, _, _, _, _⟩) (by rfl) 29 (.tmp 6) rfl ⟨w4.heap.size, 0, none⟩ 32 E rfl (HX.out.whole HEL.out.2 HEL.out.1) (by omega) (by kernel_rfl) (by kernel_rfl) ?_)
        | (refine wpList_load_arr (o := ⟨some 20, _, _, _, _, _⟩) (by rfl) 29 (.tmp 6) rfl ⟨w4.heap.size, 0, none⟩ 32 E rfl (HX.out.whole HEL.out.2 HEL.out.1) (by omega) (by kernel_rfl) (by kernel_rfl) ?_))
      refine (rbranch_any wd E E wr HEL.out.2 HEL.out.1 HEL.out.2 HEL.out.1 ⟨HT.out.1.below HB.out, HT.out.2.below HB.out⟩).mono ?_
      rintro e w7 ⟨rfl, hb7⟩
      rw [← HES.out]
      have HX7 : Hid (BlkB w7 w4.heap.size 29 E) := BlkIs.below HX.out hb7
      have HD7 : Hid (BlkB w7 w.heap.size 29 (zs 32)) := BlkIs.below HD.out hb7
      have HB7 : Hid (Below w.heap.size w w7) := HB.out.trans (hb7.mono HB.out.size)
      clear hb7 HX HD HB
      go_wp2_with (refine wpList_store_part (o := ⟨none, _, _, _, _, _⟩) (by rfl) 29 (.tmp 6) (.tmp 21) rfl 0 [] (bvs E) (bvs F) [] rfl rfl (blk_in HX7.out) rfl (by simp [bvs, HEL.out.1, HEL1.out]) (by rw [size_dig]; simp [bvs, HEL1.out]) (fun u hu => bvs_oneCell _ u hu) ?_; intro w8 h8 g8)
      have HX8 : Hid (BlkB w8 w4.heap.size 29 (emptyD wd (h + 1))) := by rw [HF.out]; exact blk_out h8
      have HD8 : Hid (BlkB w8 w.heap.size 29 (zs 32)) := (Touch.one g8).blk HD7.out (by have := HLT.out; omega)
      have HB8 : Hid (Below w.heap.size w w8) := HB7.out.grown g8 HB7.out.size fun k hk => by injection hk with hk; have := HLT.out; omega
      go_roundw
      case rel => exact ⟨h + 1, by omega, by go_num, HX8.out, HD8.out, HB8.out⟩
      case measure => simp [intOf]; omega
    · have hh256 : h = 256 := by omega
      subst hh256
      have HEL := Lib.hid (And.intro (emptyD_length wd 256) (emptyD_isB wd 256))
      obtain ⟨E, HE⟩ : ∃ E, Hid (emptyD wd 256 = E) := ⟨_, rfl⟩
      rw [HE.out] at HX HEL
      go_wp2_with (first
        | (refine wpList_load_arr (o := ⟨some 22, _, _, _, _, _⟩) (by rfl) 29 (.tmp 6) rfl ⟨w4.heap.size, 0, none⟩ 32 E rfl (HX.out.whole HEL.out.2 HEL.out.1) (by omega) (by kernel_rfl) (by kernel_rfl) ?_)
        | (refine wpList_store_part (o := ⟨none, _, _, _, _, _⟩) (by rfl) 29 (.tmp 4) (.tmp 22) rfl 0 [] (bvs (zs 32)) (bvs E) [] rfl rfl (blk_in HD.out) rfl (by simp [bvs, zs, HEL.out.1]) (by rw [size_dig]; simp [bvs, HEL.out.1]) (fun u hu => bvs_oneCell _ u hu) ?_; intro w9 h9 g9))
      exact arr_ret rfl rfl (blk_out h9) HEL.out.1 row_dig size_dig rfl ⟨by rw [HE.out], HB.out.grown g9 HB.out.size fun k hk => by injection hk with hk; omega⟩
end Go.Proofs.YtfnlhfaihoojfaaDoor
