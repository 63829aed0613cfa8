/- ledgerlaw3.copyChanges. -/
import Derived.Test.YtkpbeibcfaenhaaBuildC
namespace Go.Proofs.Ytkpbeibcfaenhaa
open Go.RowKit
theorem own_max {e : TypeId} {w : World} {base n c : Nat} {A : Option Addr} {xs : List Nat} (h : Own e w base (.slice A n c) xs) : c ≤ maxLen := by
  rcases h.1.2 with ⟨e1, _⟩ | ⟨g, cap, cur, e1, _, _, _, hm, _⟩
  · injection e1 with _ _ e3
    rw [e3]
    exact Nat.zero_le _
  · injection e1 with _ _ e3
    rw [e3]
    exact hm
/-- A list of changes in new memory. -/
def ChsRet (N : Nat) (X : Nat → Chg) (w : World) (e : Ending) (w' : World) : Prop := ∃ v Ad Cp, e = .returned v ∧ ChsOwn w' w.heap.size v N X Ad Cp ∧ Below w.heap.size w w'
set_option maxRecDepth 100000 in
set_option maxHeartbeats 4000000 in
theorem copyChanges_any (A : Option Addr) (N c : Nat) (X : Nat → Chg) (w : World) (hx : ChsAt w A N X) (hn : N * 64 ≤ 140737488355328) (hv : ∀ k, k < N → (X k).val.length ≤ 140737488355328) :
    Calls Try.prog 20 #[.slice A N c] w (ChsRet N X w) := by
  have HX := Lib.hid hx
  have HV := Lib.hid hv
  have hu := und_key
  clear hx hv
  go_enter Try.func20, Try.ntmps20
  go_wp2_with fail
  go_loopw [3, 4] (fun v i wr => ∃ k : Nat, k ≤ N ∧ i = .int .i64 k ∧ (∃ Ad Cp, Hid (ChsOwn wr w.heap.size v k X Ad Cp)) ∧ Hid (Below w.heap.size w wr)) (fun _ i _ => N - (intOf i).toNat)
  case atStart => exact ⟨0, by omega, rfl, ⟨fun _ => none, fun _ => 0, ChsOwn.nil _ _ _ _ _⟩, Below.refl _ _⟩
  case round =>
    obtain ⟨k, hk, rfl, ⟨Ad, Cp, HO⟩, HB⟩ := hrel
    obtain ⟨w1, rfl⟩ : ∃ w1, w1 = wr := ⟨_, rfl⟩
    by_cases hlt : k < N
    · obtain ⟨b, o, Av, Cv, rfl, hb, hr, hkB, hkl, hvr, hvC, hCm, hnil⟩ := HX.out.2 k hlt
      have hlt' : (k : Int) < N := by omega
      have KS : Hid (∀ W, Below w.heap.size w W → W.rangeAt b (o + k * 34) (bvs (X k).key) ∧ W.cell? ⟨b, o + k * 34 + 32, none⟩ = some (.bool (X k).del) ∧ W.cell? ⟨b, o + k * 34 + 33, none⟩ = some (.slice Av (X k).val.length Cv)) := fun W hW =>
        have h2 := range_below hW hb hr
        ⟨ch_key h2, ch_del h2 hkl, ch_val h2 hkl⟩
      have HR : Hid (∀ W, Below w.heap.size w W → RB W Av (X k).val.length (X k).val) := fun W hW => hvr.below hW
      have hsz : (Try.prog.info? 25).map (·.size) = some (bvs (X k).key).length := by rw [size_key]; simp [bvs, hkl]
      have HK := Lib.hid (show IsB (X k).key ∧ (X k).key.length = 32 from ⟨hkB, hkl⟩)
      have hvl := HV.out k hlt
      have HUP : Hid (∀ _ : Nat, upd X k (X k) = X) := fun _ => upd_self X k
      clear hr hkB hvr hkl hvC hCm hnil
      generalize X k = x at *
      go_wp2_with fail
      rename_i KK hKK
      have HKK := Lib.hid hKK
      clear hKK
      refine wp_region_held_drew (S := fun w' => w'.rangeAt b (o + k * 34) (bvs x.key) ∧ w'.cell? ⟨b, o + k * 34 + 32, none⟩ = some (.bool x.del) ∧ w'.cell? ⟨b, o + k * 34 + 33, none⟩ = some (.slice Av x.val.length Cv)) (by kernel_rfl) (KS.out _ (drewN_below HB.out 1)) fun hH => ?_
      refine wpAnyH_take (i := 0) (oi := ⟨some 11, _, _, _, _, _⟩) rfl (by kernel_rfl) (by kernel_rfl) (by kernel_rfl) (fun _ _ _ h => h) (Or.inl ⟨by rfl, fun w hw => by ((try dsimp only at hw); go_split_ands; go_simp; with_reducible rfl)⟩) (by assumption) ?_
      try simp only [Act.put, List.setIfInBounds_toArray, List.set_cons_zero, List.set_cons_succ]
      refine wpAnyH_take (i := 1) (oi := ⟨some 12, _, _, _, _, _⟩) rfl (by kernel_rfl) (by kernel_rfl) (by kernel_rfl) (fun _ _ _ h => h) (Or.inl ⟨by rfl, fun w hw => by ((try dsimp only at hw); go_split_ands; go_simp; with_reducible rfl)⟩) (by assumption) ?_
      try simp only [Act.put, List.setIfInBounds_toArray, List.set_cons_zero, List.set_cons_succ]
      refine wpAnyH_take (i := 2) (oi := ⟨some 13, _, _, _, _, _⟩) rfl (by kernel_rfl) (by kernel_rfl) (by kernel_rfl) (fun _ _ _ h => h) (Or.inl ⟨by rfl, fun w hw => by ((try dsimp only at hw); go_split_ands; go_simp; with_reducible rfl)⟩) (by assumption) ?_
      try simp only [Act.put, List.setIfInBounds_toArray, List.set_cons_zero, List.set_cons_succ]
      refine wpAnyH_take (i := 3) (oi := ⟨some 14, _, _, _, _, _⟩) rfl (by kernel_rfl) (by kernel_rfl) (by kernel_rfl) (fun _ _ _ h => h) (Or.inl ⟨by rfl, fun w hw => by ((try dsimp only at hw); go_split_ands; go_simp; with_reducible rfl)⟩) (by assumption) ?_
      try simp only [Act.put, List.setIfInBounds_toArray, List.set_cons_zero, List.set_cons_succ]
      refine wpAnyH_take (i := 4) (oi := ⟨some 15, _, _, _, _, _⟩) rfl (by kernel_rfl) (by kernel_rfl) (by kernel_rfl) (fun _ _ _ h => h) (Or.inl ⟨by rfl, fun w hw => by ((try dsimp only at hw); go_split_ands; go_simp; with_reducible rfl)⟩) (by assumption) ?_
      try simp only [Act.put, List.setIfInBounds_toArray, List.set_cons_zero, List.set_cons_succ]
      refine wpAnyH_take (i := 5) (oi := ⟨some 16, _, _, _, _, _⟩) rfl (by kernel_rfl) (by kernel_rfl) (by kernel_rfl) (fun _ _ _ h => h) (yieldsIf_load_mid (by rfl) _ _ rfl _ _ rfl _ _ (fun w hw => by (try dsimp only at hw); go_split_ands; assumption) (by assumption) rfl (by assumption)) (by assumption) ?_
      try simp only [Act.put, List.setIfInBounds_toArray, List.set_cons_zero, List.set_cons_succ]
      refine wpAnyH_take (i := 6) (oi := ⟨some 17, _, _, _, _, _⟩) rfl (by kernel_rfl) (by kernel_rfl) (by kernel_rfl) (fun _ _ _ h => h) (Or.inl ⟨by rfl, fun w hw => by ((try dsimp only at hw); go_split_ands; go_simp; with_reducible rfl)⟩) (by assumption) ?_
      try simp only [Act.put, List.setIfInBounds_toArray, List.set_cons_zero, List.set_cons_succ]
      refine wpAnyH_take (i := 7) (oi := ⟨some 18, _, _, _, _, _⟩) rfl (by kernel_rfl) (by kernel_rfl) (by kernel_rfl) (fun _ _ _ h => h) (Or.inl ⟨by rfl, fun w hw => by ((try dsimp only at hw); go_split_ands; go_simp; with_reducible rfl)⟩) (by assumption) ?_
      try simp only [Act.put, List.setIfInBounds_toArray, List.set_cons_zero, List.set_cons_succ]
      refine wpAnyH_take (i := 8) (oi := ⟨some 19, _, _, _, _, _⟩) rfl (by kernel_rfl) (by kernel_rfl) (by kernel_rfl) (fun _ _ _ h => h) (Or.inl ⟨by rfl, fun w hw => by ((try dsimp only at hw); go_split_ands; go_simp; with_reducible rfl)⟩) (by assumption) ?_
      try simp only [Act.put, List.setIfInBounds_toArray, List.set_cons_zero, List.set_cons_succ]
      refine wpAnyH_take (i := 9) (oi := ⟨some 20, _, _, _, _, _⟩) rfl (by kernel_rfl) (by kernel_rfl) (by kernel_rfl) (fun _ _ _ h => h) (Or.inl ⟨by rfl, fun w hw => by ((try dsimp only at hw); go_split_ands; go_simp; with_reducible rfl)⟩) (by assumption) ?_
      try simp only [Act.put, List.setIfInBounds_toArray, List.set_cons_zero, List.set_cons_succ]
      refine wpAnyH_take (i := 10) (oi := ⟨some 21, _, _, _, _, _⟩) rfl (by kernel_rfl) (by kernel_rfl) (by kernel_rfl) (fun _ _ _ h => h) (Or.inl ⟨by rfl, fun w hw => by ((try dsimp only at hw); go_split_ands; go_simp; with_reducible rfl)⟩) (by assumption) ?_
      try simp only [Act.put, List.setIfInBounds_toArray, List.set_cons_zero, List.set_cons_succ]
      refine wpAnyH_take (i := 11) (oi := ⟨some 22, _, _, _, _, _⟩) rfl (by kernel_rfl) (by kernel_rfl) (by kernel_rfl) (fun _ _ _ h => h) (Or.inl ⟨by rfl, fun w hw => by ((try dsimp only at hw); go_split_ands; go_simp; with_reducible rfl)⟩) (by assumption) ?_
      try simp only [Act.put, List.setIfInBounds_toArray, List.set_cons_zero, List.set_cons_succ]
      refine wpAnyH_take (i := 12) (oi := ⟨some 23, _, _, _, _, _⟩) rfl (by kernel_rfl) (by kernel_rfl) (by kernel_rfl) (fun _ _ _ h => h) (Or.inl ⟨by rfl, fun w hw => by ((try dsimp only at hw); go_split_ands; go_simp; with_reducible rfl)⟩) (by assumption) ?_
      try simp only [Act.put, List.setIfInBounds_toArray, List.set_cons_zero, List.set_cons_succ]
      refine wpAnyH_take (i := 13) (oi := ⟨some 24, _, _, _, _, _⟩) rfl (by kernel_rfl) (by kernel_rfl) (by kernel_rfl) (fun _ _ _ h => h) (Or.inl ⟨by rfl, fun w hw => by ((try dsimp only at hw); go_split_ands; go_simp; with_reducible rfl)⟩) (by assumption) ?_
      try simp only [Act.put, List.setIfInBounds_toArray, List.set_cons_zero, List.set_cons_succ]
      refine wpAnyH_take (i := 14) (oi := ⟨some 25, _, _, _, _, _⟩) rfl (by kernel_rfl) (by kernel_rfl) (by kernel_rfl) (fun _ _ _ h => h) (Or.inl ⟨by rfl, fun w hw => by ((try dsimp only at hw); go_split_ands; go_simp; with_reducible rfl)⟩) (by assumption) ?_
      try simp only [Act.put, List.setIfInBounds_toArray, List.set_cons_zero, List.set_cons_succ]
      refine wpAnyH_take (i := 15) (oi := ⟨some 26, _, _, _, _, _⟩) rfl (by kernel_rfl) (by kernel_rfl) (by kernel_rfl) (fun _ _ _ h => h) (Or.inl ⟨by rfl, fun w hw => by ((try dsimp only at hw); go_split_ands; go_simp; with_reducible rfl)⟩) (by assumption) ?_
      try simp only [Act.put, List.setIfInBounds_toArray, List.set_cons_zero, List.set_cons_succ]
      refine wpAnyH_ready (rs := [16]) (by kernel_rfl) (by simp) ?_
      refine AllReadyH.cons rfl (fun K hK => ?_) (AllReadyH.nil)
      go_simp
      refine (copyBytes_any Av x.val.length Cv x.val (w1.drewN 1) (HR.out _ (drewN_below HB.out 1)) hvl).mono ?_
      rintro e w2 ⟨vc, rfl, hoc, hbc⟩
      have HB2 : Hid (Below w.heap.size w w2) := (drewN_below HB.out 1).trans (hbc.mono (drewN_below HB.out 1).size)
      have HO2 := Lib.hid ((HO.out.later (drewN_below (Below.refl _ _) 1)).later hbc)
      obtain ⟨A2, c2, e2, hr2, hlo2, hnil2, hle2⟩ := hoc.form
      subst e2
      have hcm2 := own_max hoc
      have HV2 := Lib.hid (show RB w2 A2 x.val.length x.val ∧ x.val.length ≤ c2 ∧ c2 ≤ maxLen ∧ (A2 = none → c2 = 0) from ⟨hr2, hle2, hcm2, hnil2⟩)
      have HAP : Hid (0 < x.val.length → ∀ ad, A2 = some ad → some ad.block ≠ u3.ownBlock) := fun _ ad e he => by
        have q1 := (hlo2 ad e).1
        have q2 := (HO.out.own.lt _ he.symm).2
        have q3 : (w1.drewN 1).heap.size = w1.heap.size := rfl
        omega
      refine hK.out _ _ (KS.out _ HB2.out) (fun hH2 => ?_)
      clear hK hH hoc hbc hr2 hlo2 hnil2 hle2 hcm2
      refine wpAnyH_ready (rs := [17]) (by kernel_rfl) (by simp) ?_
      refine AllReadyH.cons (o := ⟨some 28, _, _, _, _, _⟩) rfl (fun K hK => ?_) (AllReadyH.nil)
      refine wpOp_build (o := ⟨some 28, _, _, _, _, _⟩) ?hw1 w2 45 #[(0, .tmp 16), (1, .tmp 21), (2, .tmp 27)] rfl [(0, .agg (bvs x.key).toArray), (1, .bool x.del), (2, .slice A2 x.val.length c2)] ?hv1 _ (built_ch HK.out.2) ?hh1
      case hw1 => kernel_rfl
      case hv1 => simp [go_sem]
      refine hK.out _ _ (KS.out _ HB2.out) (fun hH3 => ?_)
      clear hK hH2
      refine wpAnyH_ready (rs := [18]) (by kernel_rfl) (by simp) ?_
      refine AllReadyH.cons (o := ⟨some 29, _, _, _, _, _⟩) rfl (fun K hK => ?_) (AllReadyH.nil)
      refine wpOp_buildSlice1 (o := ⟨some 29, _, _, _, _, _⟩) ?hw2 w2 30 45 _ 34 (.tmp 28) rfl und_chl info_chg (by decide) (by decide) (chC x A2 c2).toArray ?hx2 ?hs2 ?hh2
      case hw2 => kernel_rfl
      case hx2 => rfl
      case hs2 => rw [List.size_toArray, chC_length HK.out.2]
      refine hK.out _ _ (KS.out _ (HB2.out.alloc HB2.out.size _)) (fun hH4 => ?_)
      clear hK hH3
      refine wpAnyH_ready (rs := [19]) (by kernel_rfl) (by simp) ?_
      refine AllReadyH.cons (o := ⟨some 30, _, _, _, _, _⟩) rfl (fun K hK => ?_) (AllReadyH.nil)
      refine wpOp_append1C (o := ⟨some 30, _, _, _, _, _⟩) und_chl info_chg3 rfl ?hw3 w2 (.tmp 11) (.tmp 29) rfl w.heap.size u3 k _ HO2.out.own (chC x A2 c2) (chC_length HK.out.2) chC_one ?hs3 ?hx3 (by omega) (by omega) HB2.out.size ?hh3
      case hw3 => kernel_rfl
      case hs3 => rfl
      case hx3 => rfl
      intro v3 w3 ho3 hg3 hl3
      have HO3 := Lib.hid (HO2.out.more HK.out HV2.out HAP.out ho3 hg3 hl3)
      rw [HUP.out 0] at HO3
      have HB3 : Hid (Below w.heap.size w w3) := HB2.out.grown hg3 HB2.out.size HO2.out.ge
      refine hK.out _ _ (KS.out _ HB3.out) (fun hH5 => ?_)
      clear hK hH4 ho3 hg3 hl3
      refine wpAnyH_take (i := 20) (oi := ⟨some 3, _, _, _, _, _⟩) rfl (by kernel_rfl) (by kernel_rfl) (by kernel_rfl) (fun _ _ _ h => h) (Or.inl ⟨by rfl, fun w hw => by ((try dsimp only at hw); go_split_ands; go_simp; with_reducible rfl)⟩) (by assumption) ?_
      try simp only [Act.put, List.setIfInBounds_toArray, List.set_cons_zero, List.set_cons_succ]
      refine wpAnyH_done (by kernel_rfl) ?_ _
      change KK _ _
      refine HKK.out _ _ ?_
      clear hH5 hu hsz
      go_wp2_with fail
      go_roundw
      case rel => exact ⟨k + 1, by omega, by go_num, ⟨_, _, HO3.out⟩, HB3.out⟩
      case measure => simp [intOf]; omega
    · have hnlt : ¬ (k : Int) < N := by omega
      obtain rfl : k = N := by omega
      go_wp2_with fail
      go_ret
      exact ⟨_, _, _, rfl, HO.out, HB.out⟩
end Go.Proofs.Ytkpbeibcfaenhaa
