/- ledgerlaw3.sameChanges of two lists of one content. (printed by gen_samec.py) -/
import Derived.Test.YtkpbeibcfaenhaaGb
import Derived.Test.YtkpbeibcfaenhaaCommon
namespace Go.Proofs.Ytkpbeibcfaenhaa
open Go.RowKit
set_option maxRecDepth 100000 in
set_option maxHeartbeats 4000000 in
theorem sameC_true (A B : Option Addr) (N c d : Nat) (X Y : Nat → Chg) (w : World) (hx : ChsAt w A N X) (hy : ChsAt w B N Y) (he : ∀ k, k < N → X k = Y k) :
    Calls Try.prog 24 #[.slice A N c, .slice B N d] w fun e w' => e = .returned (.bool true) ∧ ∃ q, w' = w.drewN q := by
  have HX := Lib.hid hx
  have HY := Lib.hid hy
  have HE := Lib.hid he
  have hu := und_key
  have hn := hx.1
  unfold maxLen at hn
  clear hx hy he
  go_enter Try.func24, Try.ntmps24
  go_wp2_with fail
  go_loopw [5] (fun i wr => ∃ k q : Nat, k ≤ N ∧ i = .int .i64 k ∧ wr = w.drewN q) (fun i _ => N - (intOf i).toNat)
  case atStart => exact ⟨0, 0, by omega, rfl, rfl⟩
  case round =>
    obtain ⟨k, q, hk, rfl, rfl⟩ := hrel
    by_cases hlt : k < N
    · obtain ⟨b, o, Av, Cv, rfl, hb, hr, hkB, hkl, hvr, hvC, hCm, hnil⟩ := HX.out.2 k hlt
      obtain ⟨b2, o2, Av2, Cv2, rfl, hb2, hr2, _, _, hvr2, _, _, _⟩ := HY.out.2 k hlt
      rw [← HE.out k hlt] at hr2 hvr2
      have hlt' : (k : Int) < N := by omega
      have a1 := ch_key hr
      have a2 := ch_key hr2
      have a3 := ch_del hr hkl
      have a4 := ch_del hr2 hkl
      have a5 := ch_val hr hkl
      have a6 := ch_val hr2 hkl
      have hsz : (Try.prog.info? 25).map (·.size) = some (bvs (X k).key).length := by rw [size_key]; simp [bvs, hkl]
      have hek : ∀ w, (Op.equalIn 10000 25 (.agg (bvs (X k).key).toArray) (.agg (bvs (X k).key).toArray)).run Try.prog w = .ok true w := fun w => by rw [key_eq w _ _ hkB hkB hkl hkl]; simp
      have hvm : (X k).val.length ≤ 9223372036854775807 := by unfold maxLen at hCm; omega
      obtain ⟨w1, hw1⟩ : ∃ w1, w.drewN q = w1 := ⟨_, rfl⟩
      have HW1 := Lib.hid hw1
      have KS : Hid (∀ j, (w1.drewN j).rangeAt b (o + k * 34) (bvs (X k).key) ∧ (w1.drewN j).rangeAt b2 (o2 + k * 34) (bvs (X k).key) ∧ (w1.drewN j).cell? ⟨b, o + k * 34 + 32, none⟩ = some (.bool (X k).del) ∧ (w1.drewN j).cell? ⟨b2, o2 + k * 34 + 32, none⟩ = some (.bool (X k).del) ∧
          (w1.drewN j).cell? ⟨b, o + k * 34 + 33, none⟩ = some (.slice Av (X k).val.length Cv) ∧ (w1.drewN j).cell? ⟨b2, o2 + k * 34 + 33, none⟩ = some (.slice Av2 (X k).val.length Cv2)) := fun j => by
        rw [← hw1]
        exact ⟨a1, a2, a3, a4, a5, a6⟩
      have HV : Hid (∀ j, RB (w1.drewN j) Av (X k).val.length (X k).val) := fun j => by rw [← hw1]; exact hvr
      have HV2 : Hid (∀ j, RB (w1.drewN j) Av2 (X k).val.length (X k).val) := fun j => by rw [← hw1]; exact hvr2
      rw [hw1]
      clear hr hkB hkl hvr hvr2 hvC hCm hnil hr2 a1 a2 a3 a4 a5 a6 hw1
      generalize X k = x at *
      go_wp2_with fail
      rename_i KK hKK
      have HKK := Lib.hid hKK
      clear hKK
      refine wp_region_held_drew (S := fun w' => w'.rangeAt b (o + k * 34) (bvs x.key) ∧ w'.rangeAt b2 (o2 + k * 34) (bvs x.key) ∧ w'.cell? ⟨b, o + k * 34 + 32, none⟩ = some (.bool x.del) ∧ w'.cell? ⟨b2, o2 + k * 34 + 32, none⟩ = some (.bool x.del) ∧
          w'.cell? ⟨b, o + k * 34 + 33, none⟩ = some (.slice Av x.val.length Cv) ∧ w'.cell? ⟨b2, o2 + k * 34 + 33, none⟩ = some (.slice Av2 x.val.length Cv2)) (by kernel_rfl) (KS.out 1) fun hH => ?_
      refine wpAnyH_take (i := 0) (oi := ⟨some 17, _, _, _, _, _⟩) rfl (by kernel_rfl) (by kernel_rfl) (by kernel_rfl) (fun _ _ _ h => h) (Or.inl ⟨by rfl, fun w hw => by ((try dsimp only at hw); go_split_ands; go_simp; with_reducible rfl)⟩) (by assumption) ?_
      try simp only [Act.put, List.setIfInBounds_toArray, List.set_cons_zero, List.set_cons_succ]
      refine wpAnyH_take (i := 1) (oi := ⟨some 18, _, _, _, _, _⟩) rfl (by kernel_rfl) (by kernel_rfl) (by kernel_rfl) (fun _ _ _ h => h) (Or.inl ⟨by rfl, fun w hw => by ((try dsimp only at hw); go_split_ands; go_simp; with_reducible rfl)⟩) (by assumption) ?_
      try simp only [Act.put, List.setIfInBounds_toArray, List.set_cons_zero, List.set_cons_succ]
      refine wpAnyH_take (i := 2) (oi := ⟨some 19, _, _, _, _, _⟩) rfl (by kernel_rfl) (by kernel_rfl) (by kernel_rfl) (fun _ _ _ h => h) (Or.inl ⟨by rfl, fun w hw => by ((try dsimp only at hw); go_split_ands; go_simp; with_reducible rfl)⟩) (by assumption) ?_
      try simp only [Act.put, List.setIfInBounds_toArray, List.set_cons_zero, List.set_cons_succ]
      refine wpAnyH_take (i := 3) (oi := ⟨some 20, _, _, _, _, _⟩) rfl (by kernel_rfl) (by kernel_rfl) (by kernel_rfl) (fun _ _ _ h => h) (Or.inl ⟨by rfl, fun w hw => by ((try dsimp only at hw); go_split_ands; go_simp; with_reducible rfl)⟩) (by assumption) ?_
      try simp only [Act.put, List.setIfInBounds_toArray, List.set_cons_zero, List.set_cons_succ]
      refine wpAnyH_take (i := 4) (oi := ⟨some 21, _, _, _, _, _⟩) rfl (by kernel_rfl) (by kernel_rfl) (by kernel_rfl) (fun _ _ _ h => h) (yieldsIf_load_mid (by rfl) _ _ rfl _ _ rfl _ _ (fun w hw => by (try dsimp only at hw); go_split_ands; assumption) (by assumption) rfl (by assumption)) (by assumption) ?_
      try simp only [Act.put, List.setIfInBounds_toArray, List.set_cons_zero, List.set_cons_succ]
      refine wpAnyH_take (i := 5) (oi := ⟨some 22, _, _, _, _, _⟩) rfl (by kernel_rfl) (by kernel_rfl) (by kernel_rfl) (fun _ _ _ h => h) (Or.inl ⟨by rfl, fun w hw => by ((try dsimp only at hw); go_split_ands; go_simp; with_reducible rfl)⟩) (by assumption) ?_
      try simp only [Act.put, List.setIfInBounds_toArray, List.set_cons_zero, List.set_cons_succ]
      refine wpAnyH_take (i := 6) (oi := ⟨some 23, _, _, _, _, _⟩) rfl (by kernel_rfl) (by kernel_rfl) (by kernel_rfl) (fun _ _ _ h => h) (Or.inl ⟨by rfl, fun w hw => by ((try dsimp only at hw); go_split_ands; go_simp; with_reducible rfl)⟩) (by assumption) ?_
      try simp only [Act.put, List.setIfInBounds_toArray, List.set_cons_zero, List.set_cons_succ]
      refine wpAnyH_take (i := 7) (oi := ⟨some 24, _, _, _, _, _⟩) rfl (by kernel_rfl) (by kernel_rfl) (by kernel_rfl) (fun _ _ _ h => h) (Or.inl ⟨by rfl, fun w hw => by ((try dsimp only at hw); go_split_ands; go_simp; with_reducible rfl)⟩) (by assumption) ?_
      try simp only [Act.put, List.setIfInBounds_toArray, List.set_cons_zero, List.set_cons_succ]
      refine wpAnyH_take (i := 8) (oi := ⟨some 25, _, _, _, _, _⟩) rfl (by kernel_rfl) (by kernel_rfl) (by kernel_rfl) (fun _ _ _ h => h) (Or.inl ⟨by rfl, fun w hw => by ((try dsimp only at hw); go_split_ands; go_simp; with_reducible rfl)⟩) (by assumption) ?_
      try simp only [Act.put, List.setIfInBounds_toArray, List.set_cons_zero, List.set_cons_succ]
      refine wpAnyH_take (i := 9) (oi := ⟨some 26, _, _, _, _, _⟩) rfl (by kernel_rfl) (by kernel_rfl) (by kernel_rfl) (fun _ _ _ h => h) (yieldsIf_load_mid (by rfl) _ _ rfl _ _ rfl _ _ (fun w hw => by (try dsimp only at hw); go_split_ands; assumption) (by assumption) rfl (by assumption)) (by assumption) ?_
      try simp only [Act.put, List.setIfInBounds_toArray, List.set_cons_zero, List.set_cons_succ]
      refine wpAnyH_ready (rs := [10]) (by kernel_rfl) (by simp) ?_
      refine AllReadyH.cons rfl (fun K hK => ?_) (AllReadyH.nil)
      go_simp
      refine hK.out _ _ hH (fun hH2 => ?_)
      clear hK hH
      refine wpAnyH_take (i := 11) (oi := ⟨some 28, _, _, _, _, _⟩) rfl (by kernel_rfl) (by kernel_rfl) (by kernel_rfl) (fun _ _ _ h => h) (Or.inl ⟨by rfl, fun w hw => by ((try dsimp only at hw); go_split_ands; go_simp; with_reducible rfl)⟩) (by assumption) ?_
      try simp only [Act.put, List.setIfInBounds_toArray, List.set_cons_zero, List.set_cons_succ]
      refine wpAnyH_take (i := 12) (oi := ⟨some 29, _, _, _, _, _⟩) rfl (by kernel_rfl) (by kernel_rfl) (by kernel_rfl) (fun _ _ _ h => h) (Or.inl ⟨by rfl, fun w hw => by ((try dsimp only at hw); go_split_ands; go_simp; with_reducible rfl)⟩) (by assumption) ?_
      try simp only [Act.put, List.setIfInBounds_toArray, List.set_cons_zero, List.set_cons_succ]
      refine wpAnyH_take (i := 13) (oi := ⟨some 30, _, _, _, _, _⟩) rfl (by kernel_rfl) (by kernel_rfl) (by kernel_rfl) (fun _ _ _ h => h) (Or.inl ⟨by rfl, fun w hw => by ((try dsimp only at hw); go_split_ands; go_simp; with_reducible rfl)⟩) (by assumption) ?_
      try simp only [Act.put, List.setIfInBounds_toArray, List.set_cons_zero, List.set_cons_succ]
      refine wpAnyH_take (i := 14) (oi := ⟨some 31, _, _, _, _, _⟩) rfl (by kernel_rfl) (by kernel_rfl) (by kernel_rfl) (fun _ _ _ h => h) (Or.inl ⟨by rfl, fun w hw => by ((try dsimp only at hw); go_split_ands; go_simp; with_reducible rfl)⟩) (by assumption) ?_
      try simp only [Act.put, List.setIfInBounds_toArray, List.set_cons_zero, List.set_cons_succ]
      refine wpAnyH_take (i := 15) (oi := ⟨some 32, _, _, _, _, _⟩) rfl (by kernel_rfl) (by kernel_rfl) (by kernel_rfl) (fun _ _ _ h => h) (Or.inl ⟨by rfl, fun w hw => by ((try dsimp only at hw); go_split_ands; go_simp; with_reducible rfl)⟩) (by assumption) ?_
      try simp only [Act.put, List.setIfInBounds_toArray, List.set_cons_zero, List.set_cons_succ]
      refine wpAnyH_take (i := 16) (oi := ⟨some 33, _, _, _, _, _⟩) rfl (by kernel_rfl) (by kernel_rfl) (by kernel_rfl) (fun _ _ _ h => h) (Or.inl ⟨by rfl, fun w hw => by ((try dsimp only at hw); go_split_ands; go_simp; with_reducible rfl)⟩) (by assumption) ?_
      try simp only [Act.put, List.setIfInBounds_toArray, List.set_cons_zero, List.set_cons_succ]
      refine wpAnyH_take (i := 17) (oi := ⟨some 34, _, _, _, _, _⟩) rfl (by kernel_rfl) (by kernel_rfl) (by kernel_rfl) (fun _ _ _ h => h) (Or.inl ⟨by rfl, fun w hw => by ((try dsimp only at hw); go_split_ands; go_simp; with_reducible rfl)⟩) (by assumption) ?_
      try simp only [Act.put, List.setIfInBounds_toArray, List.set_cons_zero, List.set_cons_succ]
      refine wpAnyH_take (i := 18) (oi := ⟨some 35, _, _, _, _, _⟩) rfl (by kernel_rfl) (by kernel_rfl) (by kernel_rfl) (fun _ _ _ h => h) (Or.inl ⟨by rfl, fun w hw => by ((try dsimp only at hw); go_split_ands; go_simp; with_reducible rfl)⟩) (by assumption) ?_
      try simp only [Act.put, List.setIfInBounds_toArray, List.set_cons_zero, List.set_cons_succ]
      refine wpAnyH_take (i := 19) (oi := ⟨some 36, _, _, _, _, _⟩) rfl (by kernel_rfl) (by kernel_rfl) (by kernel_rfl) (fun _ _ _ h => h) (Or.inl ⟨by rfl, fun w hw => by ((try dsimp only at hw); go_split_ands; go_simp; with_reducible rfl)⟩) (by assumption) ?_
      try simp only [Act.put, List.setIfInBounds_toArray, List.set_cons_zero, List.set_cons_succ]
      refine wpAnyH_take (i := 20) (oi := ⟨some 37, _, _, _, _, _⟩) rfl (by kernel_rfl) (by kernel_rfl) (by kernel_rfl) (fun _ _ _ h => h) (Or.inl ⟨by rfl, fun w hw => by ((try dsimp only at hw); go_split_ands; go_simp; with_reducible rfl)⟩) (by assumption) ?_
      try simp only [Act.put, List.setIfInBounds_toArray, List.set_cons_zero, List.set_cons_succ]
      refine wpAnyH_take (i := 21) (oi := ⟨some 38, _, _, _, _, _⟩) rfl (by kernel_rfl) (by kernel_rfl) (by kernel_rfl) (fun _ _ _ h => h) (Or.inl ⟨by rfl, fun w hw => by ((try dsimp only at hw); go_split_ands; go_simp; with_reducible rfl)⟩) (by assumption) ?_
      try simp only [Act.put, List.setIfInBounds_toArray, List.set_cons_zero, List.set_cons_succ]
      refine wpAnyH_take (i := 22) (oi := ⟨some 39, _, _, _, _, _⟩) rfl (by kernel_rfl) (by kernel_rfl) (by kernel_rfl) (fun _ _ _ h => h) (Or.inl ⟨by rfl, fun w hw => by ((try dsimp only at hw); go_split_ands; go_simp; with_reducible rfl)⟩) (by assumption) ?_
      try simp only [Act.put, List.setIfInBounds_toArray, List.set_cons_zero, List.set_cons_succ]
      refine wpAnyH_take (i := 23) (oi := ⟨some 40, _, _, _, _, _⟩) rfl (by kernel_rfl) (by kernel_rfl) (by kernel_rfl) (fun _ _ _ h => h) (Or.inl ⟨by rfl, fun w hw => by ((try dsimp only at hw); go_split_ands; go_simp; with_reducible rfl)⟩) (by assumption) ?_
      try simp only [Act.put, List.setIfInBounds_toArray, List.set_cons_zero, List.set_cons_succ]
      refine wpAnyH_take (i := 24) (oi := ⟨some 41, _, _, _, _, _⟩) rfl (by kernel_rfl) (by kernel_rfl) (by kernel_rfl) (fun _ _ _ h => h) (Or.inl ⟨by rfl, fun w hw => by ((try dsimp only at hw); go_split_ands; go_simp; with_reducible rfl)⟩) (by assumption) ?_
      try simp only [Act.put, List.setIfInBounds_toArray, List.set_cons_zero, List.set_cons_succ]
      refine wpAnyH_take (i := 25) (oi := ⟨some 42, _, _, _, _, _⟩) rfl (by kernel_rfl) (by kernel_rfl) (by kernel_rfl) (fun _ _ _ h => h) (Or.inl ⟨by rfl, fun w hw => by ((try dsimp only at hw); go_split_ands; go_simp; with_reducible rfl)⟩) (by assumption) ?_
      try simp only [Act.put, List.setIfInBounds_toArray, List.set_cons_zero, List.set_cons_succ]
      refine wpAnyH_take (i := 26) (oi := ⟨some 43, _, _, _, _, _⟩) rfl (by kernel_rfl) (by kernel_rfl) (by kernel_rfl) (fun _ _ _ h => h) (Or.inl ⟨by rfl, fun w hw => by ((try dsimp only at hw); go_split_ands; go_simp; with_reducible rfl)⟩) (by assumption) ?_
      try simp only [Act.put, List.setIfInBounds_toArray, List.set_cons_zero, List.set_cons_succ]
      refine wpAnyH_take (i := 27) (oi := ⟨some 44, _, _, _, _, _⟩) rfl (by kernel_rfl) (by kernel_rfl) (by kernel_rfl) (fun _ _ _ h => h) (Or.inl ⟨by rfl, fun w hw => by ((try dsimp only at hw); go_split_ands; go_simp; with_reducible rfl)⟩) (by assumption) ?_
      try simp only [Act.put, List.setIfInBounds_toArray, List.set_cons_zero, List.set_cons_succ]
      refine wpAnyH_take (i := 28) (oi := ⟨some 45, _, _, _, _, _⟩) rfl (by kernel_rfl) (by kernel_rfl) (by kernel_rfl) (fun _ _ _ h => h) (Or.inl ⟨by rfl, fun w hw => by ((try dsimp only at hw); go_split_ands; go_simp; with_reducible rfl)⟩) (by assumption) ?_
      try simp only [Act.put, List.setIfInBounds_toArray, List.set_cons_zero, List.set_cons_succ]
      refine wpAnyH_take (i := 29) (oi := ⟨some 46, _, _, _, _, _⟩) rfl (by kernel_rfl) (by kernel_rfl) (by kernel_rfl) (fun _ _ _ h => h) (Or.inl ⟨by rfl, fun w hw => by ((try dsimp only at hw); go_split_ands; go_simp; with_reducible rfl)⟩) (by assumption) ?_
      try simp only [Act.put, List.setIfInBounds_toArray, List.set_cons_zero, List.set_cons_succ]
      refine wpAnyH_take (i := 30) (oi := ⟨some 47, _, _, _, _, _⟩) rfl (by kernel_rfl) (by kernel_rfl) (by kernel_rfl) (fun _ _ _ h => h) (Or.inl ⟨by rfl, fun w hw => by ((try dsimp only at hw); go_split_ands; go_simp; with_reducible rfl)⟩) (by assumption) ?_
      try simp only [Act.put, List.setIfInBounds_toArray, List.set_cons_zero, List.set_cons_succ]
      refine wpAnyH_take (i := 31) (oi := ⟨some 48, _, _, _, _, _⟩) rfl (by kernel_rfl) (by kernel_rfl) (by kernel_rfl) (fun _ _ _ h => h) (Or.inl ⟨by rfl, fun w hw => by ((try dsimp only at hw); go_split_ands; go_simp; with_reducible rfl)⟩) (by assumption) ?_
      try simp only [Act.put, List.setIfInBounds_toArray, List.set_cons_zero, List.set_cons_succ]
      refine wpAnyH_take (i := 32) (oi := ⟨some 49, _, _, _, _, _⟩) rfl (by kernel_rfl) (by kernel_rfl) (by kernel_rfl) (fun _ _ _ h => h) (Or.inl ⟨by rfl, fun w hw => by ((try dsimp only at hw); go_split_ands; go_simp; with_reducible rfl)⟩) (by assumption) ?_
      try simp only [Act.put, List.setIfInBounds_toArray, List.set_cons_zero, List.set_cons_succ]
      refine wpAnyH_take (i := 33) (oi := ⟨some 50, _, _, _, _, _⟩) rfl (by kernel_rfl) (by kernel_rfl) (by kernel_rfl) (fun _ _ _ h => h) (Or.inl ⟨by rfl, fun w hw => by ((try dsimp only at hw); go_split_ands; go_simp; with_reducible rfl)⟩) (by assumption) ?_
      try simp only [Act.put, List.setIfInBounds_toArray, List.set_cons_zero, List.set_cons_succ]
      refine wpAnyH_take (i := 34) (oi := ⟨some 51, _, _, _, _, _⟩) rfl (by kernel_rfl) (by kernel_rfl) (by kernel_rfl) (fun _ _ _ h => h) (Or.inl ⟨by rfl, fun w hw => by ((try dsimp only at hw); go_split_ands; go_simp; with_reducible rfl)⟩) (by assumption) ?_
      try simp only [Act.put, List.setIfInBounds_toArray, List.set_cons_zero, List.set_cons_succ]
      refine wpAnyH_ready (rs := [35]) (by kernel_rfl) (by simp) ?_
      refine AllReadyH.cons rfl (fun K hK => ?_) (AllReadyH.nil)
      go_simp
      refine (sameBytes_true (n := x.val.length) (m := x.val.length) (HV.out 1) (HV2.out 1) hvm rfl).mono ?_
      rintro e w2 ⟨rfl, p, hp⟩
      obtain ⟨p', hp'⟩ : ∃ p', w2 = w1.drewN p' := ⟨1 + p, by rw [hp, ← World.drewN_drewN]⟩
      have hS : w2.rangeAt b (o + k * 34) (bvs x.key) ∧ w2.rangeAt b2 (o2 + k * 34) (bvs x.key) ∧ w2.cell? ⟨b, o + k * 34 + 32, none⟩ = some (.bool x.del) ∧ w2.cell? ⟨b2, o2 + k * 34 + 32, none⟩ = some (.bool x.del) ∧
          w2.cell? ⟨b, o + k * 34 + 33, none⟩ = some (.slice Av x.val.length Cv) ∧ w2.cell? ⟨b2, o2 + k * 34 + 33, none⟩ = some (.slice Av2 x.val.length Cv2) := by rw [hp']; exact KS.out p'
      have HP := Lib.hid hp'
      clear hp hp'
      refine hK.out _ _ hS (fun hH3 => ?_)
      clear hK hH2 hS
      refine wpAnyH_take (i := 36) (oi := ⟨some 53, _, _, _, _, _⟩) rfl (by kernel_rfl) (by kernel_rfl) (by kernel_rfl) (fun _ _ _ h => h) (Or.inl ⟨by rfl, fun w hw => by ((try dsimp only at hw); go_split_ands; go_simp; with_reducible rfl)⟩) (by assumption) ?_
      try simp only [Act.put, List.setIfInBounds_toArray, List.set_cons_zero, List.set_cons_succ]
      refine wpAnyH_take (i := 37) (oi := ⟨some 54, _, _, _, _, _⟩) rfl (by kernel_rfl) (by kernel_rfl) (by kernel_rfl) (fun _ _ _ h => h) (Or.inl ⟨by rfl, fun w hw => by ((try dsimp only at hw); go_split_ands; go_simp; with_reducible rfl)⟩) (by assumption) ?_
      try simp only [Act.put, List.setIfInBounds_toArray, List.set_cons_zero, List.set_cons_succ]
      refine wpAnyH_done (by kernel_rfl) ?_ _
      change KK _ _
      refine HKK.out _ _ ?_
      clear hH3 hu hsz hek
      go_wp2_with fail
      go_roundw
      case rel => exact ⟨k + 1, q + p', by omega, by go_num, by rw [HP.out, ← HW1.out, World.drewN_drewN]⟩
      case measure => simp [intOf]; omega
    · have hnlt : ¬ (k : Int) < N := by omega
      go_wp2_with fail
      go_ret
      exact ⟨rfl, q, rfl⟩
end Go.Proofs.Ytkpbeibcfaenhaa
