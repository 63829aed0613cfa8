/- ledgerlaw3.keysOf. -/
import Derived.Test.YtkpbeibcfaenhaaChainN
import Derived.Test.YtkpbeibcfaenhaaRight
namespace Go.Proofs.Ytkpbeibcfaenhaa
open Go.RowKit
theorem hasKey_false {X : Nat → Chg} {k : List Nat} {m : Nat} (h : hasKey X k m = false) : hasKey X k (m + 1) = decide (k = (X m).key) := by rw [hasKey, h]; rfl
theorem hasKey_keep {X : Nat → Chg} {k : List Nat} {m n : Nat} (h : hasKey X k m = true) (hn : m ≤ n) : hasKey X k n = true := by
  rw [hasKey_iff] at h ⊢
  obtain ⟨x, hx, e⟩ := List.mem_map.1 h
  obtain ⟨i, hi, rfl⟩ := mem_lst.1 hx
  exact List.mem_map.2 ⟨X i, mem_lst.2 ⟨i, by omega, rfl⟩, e⟩
theorem kN_le (X : Nat → Chg) (N : Nat) (Y : Nat → Chg) (m : Nat) : kN X N Y m ≤ N + m := by
  induction m with
  | zero => exact Nat.le_refl _
  | succ m ih => rw [kN]; split <;> omega
set_option maxRecDepth 100000 in
set_option maxHeartbeats 1600000 in
theorem keysOf_any (A B : Option Addr) (N M c d : Nat) (X Y : Nat → Chg) (w : World) (hx : ChsAt w A N X) (hy : ChsAt w B M Y) (hn : N ≤ 4096) (hm : M ≤ 4096) :
    Calls Try.prog 34 #[.slice A N c, .slice B M d] w fun e w' => e = .returned (.int .i64 (kN X N Y M : Nat)) ∧ ∃ q, w' = w.drewN q := by
  have HX := Lib.hid hx
  have HY := Lib.hid hy
  have hu := und_key
  clear hx hy
  go_enter Try.func34, Try.ntmps34
  go_wp2_with fail
  go_loopw [5, 6] (fun so i wr => ∃ k t q : Nat, k ≤ M ∧ i = .int .i64 k ∧ so = .int .i64 t ∧ t ≤ N + k ∧ Hid (kN X N Y k = t) ∧ wr = w.drewN q) (fun _ i _ => M - (intOf i).toNat)
  case atStart => exact ⟨0, N, 0, by omega, rfl, rfl, by omega, rfl, rfl⟩
  case round =>
    obtain ⟨k, t, q, hk, rfl, rfl, htk, HT, rfl⟩ := hrel
    by_cases hlt : k < M
    · have hlt' : (k : Int) < M := by omega
      go_wp2_with fail
      go_loopw [7, 8] (fun f i wr => ∃ m p : Nat, m ≤ N ∧ i = .int .i64 m ∧ f = .bool (hasKey X (Y k).key m) ∧ wr = w.drewN p) (fun _ i _ => N - (intOf i).toNat)
      case atStart => exact ⟨0, q, by omega, rfl, rfl, rfl⟩
      case round =>
        obtain ⟨m, p, hm2, rfl, rfl, rfl⟩ := hrel
        by_cases hmk : m < N
        · have hmk' : (m : Int) < N := by omega
          obtain ⟨b, o, Av, Cv, rfl, hb, hr, hkB, hkl, hq1⟩ := HX.out.2 m hmk
          obtain ⟨b2, o2, Av2, Cv2, rfl, hb2, hr2, hkB2, hkl2, hq2⟩ := HY.out.2 k hlt
          have a1 := ch_key hr
          have a2 := ch_key hr2
          have hsz : (Try.prog.info? 25).map (·.size) = some (bvs (X m).key).length := by rw [size_key]; simp [bvs, hkl]
          have hsz2 : (Try.prog.info? 25).map (·.size) = some (bvs (Y k).key).length := by rw [size_key]; simp [bvs, hkl2]
          have hek : ∀ w, (Op.equalIn 10000 25 (.agg (bvs (X m).key).toArray) (.agg (bvs (Y k).key).toArray)).run Try.prog w = .ok (decide ((X m).key = (Y k).key)) w := fun w => key_eq w _ _ hkB hkB2 hkl hkl2
          obtain ⟨w1, hw1⟩ : ∃ w1, w.drewN p = w1 := ⟨_, rfl⟩
          have HW1 := Lib.hid hw1
          have KS : Hid (∀ j, (w1.drewN j).rangeAt b (o + m * 34) (bvs (X m).key) ∧ (w1.drewN j).rangeAt b2 (o2 + k * 34) (bvs (Y k).key)) := fun j => by
            rw [← hw1]
            exact ⟨a1, a2⟩
          have HMn : Hid (hasKey X (Y k).key (m + 1) = (hasKey X (Y k).key m || decide ((Y k).key = (X m).key))) := rfl
          rw [hw1]
          obtain ⟨bb, hbb⟩ : ∃ bb, bb = hasKey X (Y k).key m := ⟨_, rfl⟩
          rw [← hbb] at HMn ⊢
          clear hr hr2 hkB hkl hkB2 hkl2 a1 a2 hw1 hq1 hq2 hbb hb hb2
          generalize hxm : (X m).key = x at *
          generalize hyk : (Y k).key = y at *
          clear hxm
          have HYK := Lib.hid hyk
          clear hyk
          go_wp2_with fail
          rename_i KK hKK
          have HKK := Lib.hid hKK
          clear hKK
          refine wp_region_held_drew (S := fun w' => w'.rangeAt b (o + m * 34) (bvs x) ∧ w'.rangeAt b2 (o2 + k * 34) (bvs y)) (by kernel_rfl) (KS.out 1) fun hH => ?_
          refine wpAnyH_take (i := 0) (oi := ⟨some 23, _, _, _, _, _⟩) rfl (by kernel_rfl) (by kernel_rfl) (by kernel_rfl) (fun _ _ _ h => h) (Or.inl ⟨by rfl, fun w hw => by ((try dsimp only at hw); go_split_ands; go_simp; with_reducible rfl)⟩) (by assumption) ?_
          try simp only [Act.put, List.setIfInBounds_toArray, List.set_cons_zero, List.set_cons_succ]
          refine wpAnyH_take (i := 1) (oi := ⟨some 24, _, _, _, _, _⟩) rfl (by kernel_rfl) (by kernel_rfl) (by kernel_rfl) (fun _ _ _ h => h) (Or.inl ⟨by rfl, fun w hw => by ((try dsimp only at hw); go_split_ands; go_simp; with_reducible rfl)⟩) (by assumption) ?_
          try simp only [Act.put, List.setIfInBounds_toArray, List.set_cons_zero, List.set_cons_succ]
          refine wpAnyH_take (i := 2) (oi := ⟨some 25, _, _, _, _, _⟩) rfl (by kernel_rfl) (by kernel_rfl) (by kernel_rfl) (fun _ _ _ h => h) (Or.inl ⟨by rfl, fun w hw => by ((try dsimp only at hw); go_split_ands; go_simp; with_reducible rfl)⟩) (by assumption) ?_
          try simp only [Act.put, List.setIfInBounds_toArray, List.set_cons_zero, List.set_cons_succ]
          refine wpAnyH_take (i := 3) (oi := ⟨some 26, _, _, _, _, _⟩) rfl (by kernel_rfl) (by kernel_rfl) (by kernel_rfl) (fun _ _ _ h => h) (Or.inl ⟨by rfl, fun w hw => by ((try dsimp only at hw); go_split_ands; go_simp; with_reducible rfl)⟩) (by assumption) ?_
          try simp only [Act.put, List.setIfInBounds_toArray, List.set_cons_zero, List.set_cons_succ]
          refine wpAnyH_take (i := 4) (oi := ⟨some 27, _, _, _, _, _⟩) rfl (by kernel_rfl) (by kernel_rfl) (by kernel_rfl) (fun _ _ _ h => h) (yieldsIf_load_mid (by rfl) _ _ rfl _ _ rfl _ _ (fun w hw => by (try dsimp only at hw); go_split_ands; assumption) (by assumption) rfl (by assumption)) (by assumption) ?_
          try simp only [Act.put, List.setIfInBounds_toArray, List.set_cons_zero, List.set_cons_succ]
          refine wpAnyH_take (i := 5) (oi := ⟨some 28, _, _, _, _, _⟩) rfl (by kernel_rfl) (by kernel_rfl) (by kernel_rfl) (fun _ _ _ h => h) (Or.inl ⟨by rfl, fun w hw => by ((try dsimp only at hw); go_split_ands; go_simp; with_reducible rfl)⟩) (by assumption) ?_
          try simp only [Act.put, List.setIfInBounds_toArray, List.set_cons_zero, List.set_cons_succ]
          refine wpAnyH_take (i := 6) (oi := ⟨some 29, _, _, _, _, _⟩) rfl (by kernel_rfl) (by kernel_rfl) (by kernel_rfl) (fun _ _ _ h => h) (Or.inl ⟨by rfl, fun w hw => by ((try dsimp only at hw); go_split_ands; go_simp; with_reducible rfl)⟩) (by assumption) ?_
          try simp only [Act.put, List.setIfInBounds_toArray, List.set_cons_zero, List.set_cons_succ]
          refine wpAnyH_take (i := 7) (oi := ⟨some 30, _, _, _, _, _⟩) rfl (by kernel_rfl) (by kernel_rfl) (by kernel_rfl) (fun _ _ _ h => h) (Or.inl ⟨by rfl, fun w hw => by ((try dsimp only at hw); go_split_ands; go_simp; with_reducible rfl)⟩) (by assumption) ?_
          try simp only [Act.put, List.setIfInBounds_toArray, List.set_cons_zero, List.set_cons_succ]
          refine wpAnyH_take (i := 8) (oi := ⟨some 31, _, _, _, _, _⟩) rfl (by kernel_rfl) (by kernel_rfl) (by kernel_rfl) (fun _ _ _ h => h) (Or.inl ⟨by rfl, fun w hw => by ((try dsimp only at hw); go_split_ands; go_simp; with_reducible rfl)⟩) (by assumption) ?_
          try simp only [Act.put, List.setIfInBounds_toArray, List.set_cons_zero, List.set_cons_succ]
          refine wpAnyH_take (i := 9) (oi := ⟨some 32, _, _, _, _, _⟩) rfl (by kernel_rfl) (by kernel_rfl) (by kernel_rfl) (fun _ _ _ h => h) (yieldsIf_load_mid (by rfl) _ _ rfl _ _ rfl _ _ (fun w hw => by (try dsimp only at hw); go_split_ands; assumption) (by assumption) rfl (by assumption)) (by assumption) ?_
          try simp only [Act.put, List.setIfInBounds_toArray, List.set_cons_zero, List.set_cons_succ]
          refine wpAnyH_ready (rs := [10]) (by kernel_rfl) (by simp) ?_
          refine AllReadyH.cons rfl (fun K hK => ?_) (AllReadyH.nil)
          go_simp
          refine hK.out _ _ hH (fun hH2 => ?_)
          clear hK hH
          refine wpAnyH_done (by kernel_rfl) ?_ _
          change KK _ _
          refine HKK.out _ _ ?_
          clear hH2 hu hsz hsz2 hek
          by_cases hxy : x = y
          · have HB : Hid (hasKey X y (m + 1) = true) := by show _ = _; rw [HMn.out, decide_eq_true hxy.symm, Bool.or_true]
            rw [decide_eq_true hxy]
            go_wp2_with fail
            go_roundw
            case rel => exact ⟨m + 1, p + 1, by omega, by go_num, by rw [← HB.out], by rw [← HW1.out]; rfl⟩
            case measure => simp [intOf]; omega
          · have HB : Hid (hasKey X y (m + 1) = bb) := by show _ = _; rw [HMn.out, decide_eq_false (fun e => hxy e.symm), Bool.or_false]
            rw [decide_eq_false hxy]
            go_wp2_with fail
            go_roundw
            case rel => exact ⟨m + 1, p + 1, by omega, by go_num, by rw [← HB.out], by rw [← HW1.out]; rfl⟩
            case measure => simp [intOf]; omega
        · have hnm : ¬ (m : Int) < N := by omega
          obtain rfl : m = N := by omega
          have HKN : Hid (kN X m Y (k + 1) = kN X m Y k + if hasKey X (Y k).key m = true then 0 else 1) := rfl
          generalize hasKey X (Y k).key m = bb at *
          cases bb
          · have HT2 : Hid (kN X m Y (k + 1) = t + 1) := by show _ = _; rw [HKN.out, HT.out, if_neg (by simp)]
            clear HKN
            go_wp2_with fail
            go_roundw
            case rel => exact ⟨k + 1, t + 1, p, by omega, by go_num, by go_num, by omega, HT2.out, rfl⟩
            case measure => simp [intOf]; omega
          · have HT2 : Hid (kN X m Y (k + 1) = t) := by show _ = _; rw [HKN.out, HT.out, if_pos rfl]; rfl
            clear HKN
            go_wp2_with fail
            go_roundw
            case rel => exact ⟨k + 1, t, p, by omega, by go_num, rfl, by omega, HT2.out, rfl⟩
            case measure => simp [intOf]; omega
    · have hnlt : ¬ (k : Int) < M := by omega
      obtain rfl : k = M := by omega
      go_wp2_with fail
      go_ret
      exact ⟨by rw [HT.out]; rfl, q, rfl⟩
end Go.Proofs.Ytkpbeibcfaenhaa
