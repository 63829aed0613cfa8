/- batch.repeated. -/
import Derived.Test.YtkpbeibcfaenhaaGb
import Derived.Test.YtkpbeibcfaenhaaBatN
import Derived.Test.YtkpbeibcfaenhaaCommon
import Derived.WalkMore
namespace Go.Proofs.Ytkpbeibcfaenhaa
open Go.RowKit
set_option maxRecDepth 100000 in
set_option maxHeartbeats 1600000 in
theorem repeated_any (A : Option Addr) (N c : Nat) (X : Nat → Chg) (w : World) (hx : ChsAt w A N X) :
    Calls Try.prog 46 #[.slice A N c] w fun e w' => e = .returned (.int .i64 (repN X N)) ∧ ∃ q, w' = w.drewN q := by
  have HX := Lib.hid hx
  have hn := hx.1
  have hu := und_key
  unfold maxLen at hn
  clear hx
  go_enter Try.func46, Try.ntmps46
  go_wp2_with fail
  go_step3
  go_wp2_with fail
  go_step3
  go_wp2_with fail
  go_loopw [3, 8] (fun f i wr => ∃ k q : Nat, k ≤ N ∧ i = .int .i64 k ∧ f = .int .i64 (-1) ∧ Hid (repN X k < 0) ∧ wr = w.drewN q) (fun _ i _ => N - (intOf i).toNat)
  case atStart => exact ⟨0, 0, by omega, rfl, rfl, by show _ < _; simp [repN], rfl⟩
  case round =>
    obtain ⟨k, q, hk, rfl, rfl, HR, rfl⟩ := hrel
    by_cases hlt : k < N
    · have hlt' : (k : Int) < N := by omega
      go_wp2_with fail
      go_loopw [3, 12] (fun f i wr => ∃ m p : Nat, m ≤ k ∧ i = .int .i64 m ∧ f = .int .i64 (-1) ∧ Hid (hasKey X (X k).key m = false) ∧ wr = w.drewN p) (fun _ i _ => k - (intOf i).toNat)
      case atStart => exact ⟨0, q, by omega, rfl, rfl, rfl, rfl⟩
      case round =>
        obtain ⟨m, p, hm, rfl, rfl, HM, rfl⟩ := hrel
        by_cases hmk : m < k
        · have hmk' : (m : Int) < k := by omega
          obtain ⟨b, o, Av, Cv, rfl, hb, hr, hkB, hkl, hq1⟩ := HX.out.2 k hlt
          obtain ⟨b2, o2, Av2, Cv2, e2, hb2, hr2, hkB2, hkl2, hq2⟩ := HX.out.2 m (by omega)
          injection e2 with e2
          injection e2 with e2 e3 e4
          subst e2 e3
          clear e4
          have a1 := ch_key hr
          have a2 := ch_key hr2
          have hsz : (Try.prog.info? 25).map (·.size) = some (bvs (X k).key).length := by rw [size_key]; simp [bvs, hkl]
          have hsz2 : (Try.prog.info? 25).map (·.size) = some (bvs (X m).key).length := by rw [size_key]; simp [bvs, hkl2]
          have hek : ∀ w, (Op.equalIn 10000 25 (.agg (bvs (X k).key).toArray) (.agg (bvs (X m).key).toArray)).run Try.prog w = .ok (decide ((X k).key = (X m).key)) w := fun w => key_eq w _ _ hkB hkB2 hkl hkl2
          obtain ⟨w1, hw1⟩ : ∃ w1, w.drewN p = w1 := ⟨_, rfl⟩
          have HW1 := Lib.hid hw1
          have KS : Hid (∀ j, (w1.drewN j).rangeAt b (o + k * 34) (bvs (X k).key) ∧ (w1.drewN j).rangeAt b (o + m * 34) (bvs (X m).key)) := fun j => by
            rw [← hw1]
            exact ⟨a1, a2⟩
          have HMn : Hid (hasKey X (X k).key (m + 1) = (hasKey X (X k).key m || decide ((X k).key = (X m).key))) := rfl
          have HAT : Hid ((X k).key = (X m).key → hasKey X (X k).key k = true) := fun h => hasKey_at hmk h
          have HRF : Hid (hasKey X (X k).key k = true → repN X (k + 1) = k) := fun h => repN_first HR.out h
          rw [hw1]
          clear hr hr2 hkB hkl hkB2 hkl2 a1 a2 hw1 hq1 hq2
          have hmN : (m : Int) < N := by omega
          have hmN2 : m < N := by omega
          generalize (X k).key = x at *
          generalize (X m).key = y at *
          go_wp2_with fail
          rename_i KK hKK
          have HKK := Lib.hid hKK
          clear hKK
          refine wp_region_held_drew (S := fun w' => w'.rangeAt b (o + k * 34) (bvs x) ∧ w'.rangeAt b (o + m * 34) (bvs y)) (by kernel_rfl) (KS.out 1) fun hH => ?_
          refine wpAnyH_take (i := 0) (oi := ⟨some 15, _, _, _, _, _⟩) rfl (by kernel_rfl) (by kernel_rfl) (by kernel_rfl) (fun _ _ _ h => h) (Or.inl ⟨by rfl, fun w hw => by ((try dsimp only at hw); go_split_ands; go_simp; with_reducible rfl)⟩) (by assumption) ?_
          try simp only [Act.put, List.setIfInBounds_toArray, List.set_cons_zero, List.set_cons_succ]
          refine wpAnyH_take (i := 1) (oi := ⟨some 16, _, _, _, _, _⟩) rfl (by kernel_rfl) (by kernel_rfl) (by kernel_rfl) (fun _ _ _ h => h) (Or.inl ⟨by rfl, fun w hw => by ((try dsimp only at hw); go_split_ands; go_simp; with_reducible rfl)⟩) (by assumption) ?_
          try simp only [Act.put, List.setIfInBounds_toArray, List.set_cons_zero, List.set_cons_succ]
          refine wpAnyH_take (i := 2) (oi := ⟨some 17, _, _, _, _, _⟩) rfl (by kernel_rfl) (by kernel_rfl) (by kernel_rfl) (fun _ _ _ h => h) (Or.inl ⟨by rfl, fun w hw => by ((try dsimp only at hw); go_split_ands; go_simp; with_reducible rfl)⟩) (by assumption) ?_
          try simp only [Act.put, List.setIfInBounds_toArray, List.set_cons_zero, List.set_cons_succ]
          refine wpAnyH_take (i := 3) (oi := ⟨some 18, _, _, _, _, _⟩) rfl (by kernel_rfl) (by kernel_rfl) (by kernel_rfl) (fun _ _ _ h => h) (Or.inl ⟨by rfl, fun w hw => by ((try dsimp only at hw); go_split_ands; go_simp; with_reducible rfl)⟩) (by assumption) ?_
          try simp only [Act.put, List.setIfInBounds_toArray, List.set_cons_zero, List.set_cons_succ]
          refine wpAnyH_take (i := 4) (oi := ⟨some 19, _, _, _, _, _⟩) rfl (by kernel_rfl) (by kernel_rfl) (by kernel_rfl) (fun _ _ _ h => h) (yieldsIf_load_mid (by rfl) _ _ rfl _ _ rfl _ _ (fun w hw => by (try dsimp only at hw); go_split_ands; assumption) (by assumption) rfl (by assumption)) (by assumption) ?_
          try simp only [Act.put, List.setIfInBounds_toArray, List.set_cons_zero, List.set_cons_succ]
          refine wpAnyH_take (i := 5) (oi := ⟨some 20, _, _, _, _, _⟩) rfl (by kernel_rfl) (by kernel_rfl) (by kernel_rfl) (fun _ _ _ h => h) (Or.inl ⟨by rfl, fun w hw => by ((try dsimp only at hw); go_split_ands; go_simp; with_reducible rfl)⟩) (by assumption) ?_
          try simp only [Act.put, List.setIfInBounds_toArray, List.set_cons_zero, List.set_cons_succ]
          refine wpAnyH_take (i := 6) (oi := ⟨some 21, _, _, _, _, _⟩) rfl (by kernel_rfl) (by kernel_rfl) (by kernel_rfl) (fun _ _ _ h => h) (Or.inl ⟨by rfl, fun w hw => by ((try dsimp only at hw); go_split_ands; go_simp; with_reducible rfl)⟩) (by assumption) ?_
          try simp only [Act.put, List.setIfInBounds_toArray, List.set_cons_zero, List.set_cons_succ]
          refine wpAnyH_take (i := 7) (oi := ⟨some 22, _, _, _, _, _⟩) rfl (by kernel_rfl) (by kernel_rfl) (by kernel_rfl) (fun _ _ _ h => h) (Or.inl ⟨by rfl, fun w hw => by ((try dsimp only at hw); go_split_ands; go_simp; with_reducible rfl)⟩) (by assumption) ?_
          try simp only [Act.put, List.setIfInBounds_toArray, List.set_cons_zero, List.set_cons_succ]
          refine wpAnyH_take (i := 8) (oi := ⟨some 23, _, _, _, _, _⟩) rfl (by kernel_rfl) (by kernel_rfl) (by kernel_rfl) (fun _ _ _ h => h) (Or.inl ⟨by rfl, fun w hw => by ((try dsimp only at hw); go_split_ands; go_simp; with_reducible rfl)⟩) (by assumption) ?_
          try simp only [Act.put, List.setIfInBounds_toArray, List.set_cons_zero, List.set_cons_succ]
          refine wpAnyH_take (i := 9) (oi := ⟨some 24, _, _, _, _, _⟩) rfl (by kernel_rfl) (by kernel_rfl) (by kernel_rfl) (fun _ _ _ h => h) (yieldsIf_load_mid (by rfl) _ _ rfl _ _ rfl _ _ (fun w hw => by (try dsimp only at hw); go_split_ands; assumption) (by assumption) rfl (by assumption)) (by assumption) ?_
          try simp only [Act.put, List.setIfInBounds_toArray, List.set_cons_zero, List.set_cons_succ]
          refine wpAnyH_ready (rs := [10]) (by kernel_rfl) (by simp) ?_
          refine AllReadyH.cons rfl (fun K hK => ?_) (AllReadyH.nil)
          go_simp
          refine hK.out _ _ hH (fun hH2 => ?_)
          clear hK hH
          refine wpAnyH_done (by kernel_rfl) ?_ _
          change KK _ _
          refine HKK.out _ _ ?_
          clear hH2 hu hsz hsz2 hek
          by_cases hxy : x = y
          · rw [decide_eq_true hxy]
            go_wp2_with fail
            rw [Exit.noGoto_ret]
            go_ret
            refine ⟨?_, p + 1, by rw [← HW1.out]; rfl⟩
            have h1 := HRF.out (HAT.out hxy)
            rw [repN_keep (show k + 1 ≤ N by omega) (by rw [h1]; omega), h1]
            rfl
          · rw [decide_eq_false hxy] at HMn ⊢
            go_wp2_with fail
            go_roundw
            case rel => exact ⟨m + 1, p + 1, by omega, by go_num, rfl, by show _ = _; rw [HMn.out, HM.out]; rfl, by rw [← HW1.out]; rfl⟩
            case measure => simp [intOf]; omega
        · have hnm : ¬ (m : Int) < k := by omega
          obtain rfl : m = k := by omega
          have HRn := Lib.hid (repN_none HR.out HM.out)
          go_wp2_with fail
          go_roundw
          case rel => exact ⟨m + 1, p, by omega, by go_num, rfl, HRn.out, rfl⟩
          case measure => simp [intOf]; omega
    · have hnlt : ¬ (k : Int) < N := by omega
      obtain rfl : k = N := by omega
      go_wp2_with fail
      go_ret
      exact ⟨by rw [repN_neg HR.out]; rfl, q, rfl⟩
end Go.Proofs.Ytkpbeibcfaenhaa
