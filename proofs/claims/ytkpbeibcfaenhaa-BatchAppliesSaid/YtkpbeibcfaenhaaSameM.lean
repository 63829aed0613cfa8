/- ledgerlaw3.sameMap of two alike maps, rising of a list in order. -/
import Derived.Test.YtkpbeibcfaenhaaAfter
namespace Go.Proofs.Ytkpbeibcfaenhaa
open Go.RowKit
def hitB (x : Chg) (G : Nat → Chg) : Nat → Bool
  | 0 => false
  | j + 1 => hitB x G j || (decide (x.key = (G j).key) && sameB x.val (G j).val)
theorem hitB_at {x : Chg} {G : Nat → Chg} {n j : Nat} (h : j < n) (hk : x.key = (G j).key) (hv : x.val = (G j).val) : hitB x G n = true := by
  induction n with
  | zero => omega
  | succ n ih =>
    rw [hitB]
    by_cases e : j = n
    · subst e; rw [decide_eq_true hk, sameB_eq hv]; simp
    · rw [ih (by omega), Bool.true_or]
set_option maxRecDepth 100000 in
set_option maxHeartbeats 4000000 in
theorem sameMap_true (A B : Option Addr) (n c d : Nat) (F G : Nat → Chg) (w : World) (hx : EntsAt w A n F) (hy : EntsAt w B n G) (hn : n ≤ 4096) (hh : ∀ i, i < n → hitB (F i) G n = true) :
    Calls Try.prog 31 #[.slice A n c, .slice B n d] w fun e w' => e = .returned (.bool true) ∧ ∃ q, w' = w.drewN q := by
  have HX := Lib.hid hx
  have HY := Lib.hid hy
  have HH := Lib.hid hh
  have hu := und_key
  have hnn : ((n : Int) != (n : Int)) = false := by simp
  clear hx hy hh
  go_enter Try.func31, Try.ntmps31
  go_wp2_with fail
  go_loopw [5] (fun i wr => ∃ k q : Nat, k ≤ n ∧ i = .int .i64 k ∧ wr = w.drewN q) (fun i _ => n - (intOf i).toNat)
  case atStart => exact ⟨0, 0, by omega, rfl, rfl⟩
  case round =>
    obtain ⟨k, q, hk, rfl, rfl⟩ := hrel
    by_cases hlt : k < n
    · have hlt' : (k : Int) < n := by omega
      go_wp2_with fail
      go_loopw [6, 7] (fun f i wr => ∃ m p : Nat, m ≤ n ∧ i = .int .i64 m ∧ f = .bool (hitB (F k) G m) ∧ wr = w.drewN p) (fun _ i _ => n - (intOf i).toNat)
      case atStart => exact ⟨0, q, by omega, rfl, rfl, rfl⟩
      case round =>
        obtain ⟨m, p, hm2, rfl, rfl, rfl⟩ := hrel
        by_cases hmk : m < n
        · have hmk' : (m : Int) < n := by omega
          obtain ⟨b, o, Av, Cv, rfl, hb, hr, hkB, hkl, hvr, hvC, hCm, hq1⟩ := HX.out.2 k hlt
          obtain ⟨b2, o2, Av2, Cv2, rfl, hb2, hr2, hkB2, hkl2, hvr2, hvC2, hCm2, hq2⟩ := HY.out.2 m hmk
          have a1 := en_key hr
          have a2 := en_key hr2
          have a3 := en_val hr hkl
          have a4 := en_val hr2 hkl2
          have hsz : (Try.prog.info? 25).map (·.size) = some (bvs (F k).key).length := by rw [size_key]; simp [bvs, hkl]
          have hsz2 : (Try.prog.info? 25).map (·.size) = some (bvs (G m).key).length := by rw [size_key]; simp [bvs, hkl2]
          have hek : ∀ w, (Op.equalIn 10000 25 (.agg (bvs (F k).key).toArray) (.agg (bvs (G m).key).toArray)).run Try.prog w = .ok (decide ((F k).key = (G m).key)) w := fun w => key_eq w _ _ hkB hkB2 hkl hkl2
          have hvm : (F k).val.length ≤ 9223372036854775807 := by unfold maxLen at hCm; omega
          obtain ⟨w1, hw1⟩ : ∃ w1, w.drewN p = w1 := ⟨_, rfl⟩
          have HW1 := Lib.hid hw1
          have KS : Hid (∀ j, (w1.drewN j).rangeAt b (o + k * 33) (bvs (F k).key) ∧ (w1.drewN j).rangeAt b2 (o2 + m * 33) (bvs (G m).key) ∧ (w1.drewN j).cell? ⟨b, o + k * 33 + 32, none⟩ = some (.slice Av (F k).val.length Cv) ∧ (w1.drewN j).cell? ⟨b2, o2 + m * 33 + 32, none⟩ = some (.slice Av2 (G m).val.length Cv2)) := fun j => by
            rw [← hw1]
            exact ⟨a1, a2, a3, a4⟩
          have HSB : Hid (∀ j, Calls Try.prog 27 #[.slice Av (F k).val.length Cv, .slice Av2 (G m).val.length Cv2] (w1.drewN j) fun e w' => e = .returned (.bool (sameB (F k).val (G m).val)) ∧ ∃ q, w' = (w1.drewN j).drewN q) := fun j => by
            rw [← hw1]
            exact sameB_any Av Av2 _ Cv _ Cv2 _ _ _ (hvr.below (drewN_below (drewN_below (Below.refl _ _) p) j)) (hvr2.below (drewN_below (drewN_below (Below.refl _ _) p) j)) hvm
          have HMn : Hid (hitB (F k) G (m + 1) = (hitB (F k) G m || (decide ((F k).key = (G m).key) && sameB (F k).val (G m).val))) := rfl
          rw [hw1]
          obtain ⟨bb, hbb⟩ : ∃ bb, bb = hitB (F k) G m := ⟨_, rfl⟩
          rw [← hbb] at HMn ⊢
          clear hr hr2 hkB hkl hkB2 hkl2 a1 a2 a3 a4 hw1 hq1 hq2 hbb hb hb2 hvr hvC hCm hvr2 hvC2 hCm2
          generalize hfk : (F k).key = x at KS HSB hsz hek HMn
          generalize (G m).key = y at *
          generalize (F k).val.length = l1 at *
          generalize (G m).val.length = l2 at *
          generalize sameB (F k).val (G m).val = sb at *
          clear hfk
          go_wp2_with fail
          rename_i KK hKK
          have HKK := Lib.hid hKK
          clear hKK
          refine wp_region_held_drew (S := fun w' => w'.rangeAt b (o + k * 33) (bvs x) ∧ w'.rangeAt b2 (o2 + m * 33) (bvs y) ∧ w'.cell? ⟨b, o + k * 33 + 32, none⟩ = some (.slice Av l1 Cv) ∧ w'.cell? ⟨b2, o2 + m * 33 + 32, none⟩ = some (.slice Av2 l2 Cv2)) (by kernel_rfl) (KS.out 1) fun hH => ?_
          refine wpAnyH_take (i := 0) (oi := ⟨some 25, _, _, _, _, _⟩) rfl (by kernel_rfl) (by kernel_rfl) (by kernel_rfl) (fun _ _ _ h => h) (Or.inl ⟨by rfl, fun w hw => by ((try dsimp only at hw); go_split_ands; go_simp; with_reducible rfl)⟩) (by assumption) ?_
          try simp only [Act.put, List.setIfInBounds_toArray, List.set_cons_zero, List.set_cons_succ]
          refine wpAnyH_take (i := 1) (oi := ⟨some 26, _, _, _, _, _⟩) rfl (by kernel_rfl) (by kernel_rfl) (by kernel_rfl) (fun _ _ _ h => h) (Or.inl ⟨by rfl, fun w hw => by ((try dsimp only at hw); go_split_ands; go_simp; with_reducible rfl)⟩) (by assumption) ?_
          try simp only [Act.put, List.setIfInBounds_toArray, List.set_cons_zero, List.set_cons_succ]
          refine wpAnyH_take (i := 2) (oi := ⟨some 27, _, _, _, _, _⟩) rfl (by kernel_rfl) (by kernel_rfl) (by kernel_rfl) (fun _ _ _ h => h) (Or.inl ⟨by rfl, fun w hw => by ((try dsimp only at hw); go_split_ands; go_simp; with_reducible rfl)⟩) (by assumption) ?_
          try simp only [Act.put, List.setIfInBounds_toArray, List.set_cons_zero, List.set_cons_succ]
          refine wpAnyH_take (i := 3) (oi := ⟨some 28, _, _, _, _, _⟩) rfl (by kernel_rfl) (by kernel_rfl) (by kernel_rfl) (fun _ _ _ h => h) (Or.inl ⟨by rfl, fun w hw => by ((try dsimp only at hw); go_split_ands; go_simp; with_reducible rfl)⟩) (by assumption) ?_
          try simp only [Act.put, List.setIfInBounds_toArray, List.set_cons_zero, List.set_cons_succ]
          refine wpAnyH_take (i := 4) (oi := ⟨some 29, _, _, _, _, _⟩) rfl (by kernel_rfl) (by kernel_rfl) (by kernel_rfl) (fun _ _ _ h => h) (yieldsIf_load_mid (by rfl) _ _ rfl _ _ rfl _ _ (fun w hw => by (try dsimp only at hw); go_split_ands; assumption) (by assumption) rfl (by assumption)) (by assumption) ?_
          try simp only [Act.put, List.setIfInBounds_toArray, List.set_cons_zero, List.set_cons_succ]
          refine wpAnyH_take (i := 5) (oi := ⟨some 30, _, _, _, _, _⟩) rfl (by kernel_rfl) (by kernel_rfl) (by kernel_rfl) (fun _ _ _ h => h) (Or.inl ⟨by rfl, fun w hw => by ((try dsimp only at hw); go_split_ands; go_simp; with_reducible rfl)⟩) (by assumption) ?_
          try simp only [Act.put, List.setIfInBounds_toArray, List.set_cons_zero, List.set_cons_succ]
          refine wpAnyH_take (i := 6) (oi := ⟨some 31, _, _, _, _, _⟩) rfl (by kernel_rfl) (by kernel_rfl) (by kernel_rfl) (fun _ _ _ h => h) (Or.inl ⟨by rfl, fun w hw => by ((try dsimp only at hw); go_split_ands; go_simp; with_reducible rfl)⟩) (by assumption) ?_
          try simp only [Act.put, List.setIfInBounds_toArray, List.set_cons_zero, List.set_cons_succ]
          refine wpAnyH_take (i := 7) (oi := ⟨some 32, _, _, _, _, _⟩) rfl (by kernel_rfl) (by kernel_rfl) (by kernel_rfl) (fun _ _ _ h => h) (Or.inl ⟨by rfl, fun w hw => by ((try dsimp only at hw); go_split_ands; go_simp; with_reducible rfl)⟩) (by assumption) ?_
          try simp only [Act.put, List.setIfInBounds_toArray, List.set_cons_zero, List.set_cons_succ]
          refine wpAnyH_take (i := 8) (oi := ⟨some 33, _, _, _, _, _⟩) rfl (by kernel_rfl) (by kernel_rfl) (by kernel_rfl) (fun _ _ _ h => h) (Or.inl ⟨by rfl, fun w hw => by ((try dsimp only at hw); go_split_ands; go_simp; with_reducible rfl)⟩) (by assumption) ?_
          try simp only [Act.put, List.setIfInBounds_toArray, List.set_cons_zero, List.set_cons_succ]
          refine wpAnyH_take (i := 9) (oi := ⟨some 34, _, _, _, _, _⟩) rfl (by kernel_rfl) (by kernel_rfl) (by kernel_rfl) (fun _ _ _ h => h) (yieldsIf_load_mid (by rfl) _ _ rfl _ _ rfl _ _ (fun w hw => by (try dsimp only at hw); go_split_ands; assumption) (by assumption) rfl (by assumption)) (by assumption) ?_
          try simp only [Act.put, List.setIfInBounds_toArray, List.set_cons_zero, List.set_cons_succ]
          refine wpAnyH_ready (rs := [10]) (by kernel_rfl) (by simp) ?_
          refine AllReadyH.cons rfl (fun K hK => ?_) (AllReadyH.nil)
          go_simp
          refine hK.out _ _ hH (fun hH2 => ?_)
          clear hK hH
          by_cases hxy : x = y
          · rw [decide_eq_true hxy] at HMn ⊢
            refine wpAnyH_take (i := 11) (oi := ⟨some 36, _, _, _, _, _⟩) rfl (by kernel_rfl) (by kernel_rfl) (by kernel_rfl) (fun _ _ _ h => h) (Or.inl ⟨by rfl, fun w hw => by ((try dsimp only at hw); go_split_ands; go_simp; with_reducible rfl)⟩) (by assumption) ?_
            try simp only [Act.put, List.setIfInBounds_toArray, List.set_cons_zero, List.set_cons_succ]
            refine wpAnyH_take (i := 12) (oi := ⟨some 37, _, _, _, _, _⟩) rfl (by kernel_rfl) (by kernel_rfl) (by kernel_rfl) (fun _ _ _ h => h) (Or.inl ⟨by rfl, fun w hw => by ((try dsimp only at hw); go_split_ands; go_simp; with_reducible rfl)⟩) (by assumption) ?_
            try simp only [Act.put, List.setIfInBounds_toArray, List.set_cons_zero, List.set_cons_succ]
            refine wpAnyH_take (i := 13) (oi := ⟨some 38, _, _, _, _, _⟩) rfl (by kernel_rfl) (by kernel_rfl) (by kernel_rfl) (fun _ _ _ h => h) (Or.inl ⟨by rfl, fun w hw => by ((try dsimp only at hw); go_split_ands; go_simp; with_reducible rfl)⟩) (by assumption) ?_
            try simp only [Act.put, List.setIfInBounds_toArray, List.set_cons_zero, List.set_cons_succ]
            refine wpAnyH_take (i := 14) (oi := ⟨some 39, _, _, _, _, _⟩) rfl (by kernel_rfl) (by kernel_rfl) (by kernel_rfl) (fun _ _ _ h => h) (Or.inl ⟨by rfl, fun w hw => by ((try dsimp only at hw); go_split_ands; go_simp; with_reducible rfl)⟩) (by assumption) ?_
            try simp only [Act.put, List.setIfInBounds_toArray, List.set_cons_zero, List.set_cons_succ]
            refine wpAnyH_take (i := 15) (oi := ⟨some 40, _, _, _, _, _⟩) rfl (by kernel_rfl) (by kernel_rfl) (by kernel_rfl) (fun _ _ _ h => h) (Or.inl ⟨by rfl, fun w hw => by ((try dsimp only at hw); go_split_ands; go_simp; with_reducible rfl)⟩) (by assumption) ?_
            try simp only [Act.put, List.setIfInBounds_toArray, List.set_cons_zero, List.set_cons_succ]
            refine wpAnyH_take (i := 16) (oi := ⟨some 41, _, _, _, _, _⟩) rfl (by kernel_rfl) (by kernel_rfl) (by kernel_rfl) (fun _ _ _ h => h) (Or.inl ⟨by rfl, fun w hw => by ((try dsimp only at hw); go_split_ands; go_simp; with_reducible rfl)⟩) (by assumption) ?_
            try simp only [Act.put, List.setIfInBounds_toArray, List.set_cons_zero, List.set_cons_succ]
            refine wpAnyH_take (i := 17) (oi := ⟨some 42, _, _, _, _, _⟩) rfl (by kernel_rfl) (by kernel_rfl) (by kernel_rfl) (fun _ _ _ h => h) (Or.inl ⟨by rfl, fun w hw => by ((try dsimp only at hw); go_split_ands; go_simp; with_reducible rfl)⟩) (by assumption) ?_
            try simp only [Act.put, List.setIfInBounds_toArray, List.set_cons_zero, List.set_cons_succ]
            refine wpAnyH_take (i := 18) (oi := ⟨some 43, _, _, _, _, _⟩) rfl (by kernel_rfl) (by kernel_rfl) (by kernel_rfl) (fun _ _ _ h => h) (Or.inl ⟨by rfl, fun w hw => by ((try dsimp only at hw); go_split_ands; go_simp; with_reducible rfl)⟩) (by assumption) ?_
            try simp only [Act.put, List.setIfInBounds_toArray, List.set_cons_zero, List.set_cons_succ]
            refine wpAnyH_take (i := 19) (oi := ⟨some 44, _, _, _, _, _⟩) rfl (by kernel_rfl) (by kernel_rfl) (by kernel_rfl) (fun _ _ _ h => h) (Or.inl ⟨by rfl, fun w hw => by ((try dsimp only at hw); go_split_ands; go_simp; with_reducible rfl)⟩) (by assumption) ?_
            try simp only [Act.put, List.setIfInBounds_toArray, List.set_cons_zero, List.set_cons_succ]
            refine wpAnyH_take (i := 20) (oi := ⟨some 45, _, _, _, _, _⟩) rfl (by kernel_rfl) (by kernel_rfl) (by kernel_rfl) (fun _ _ _ h => h) (Or.inl ⟨by rfl, fun w hw => by ((try dsimp only at hw); go_split_ands; go_simp; with_reducible rfl)⟩) (by assumption) ?_
            try simp only [Act.put, List.setIfInBounds_toArray, List.set_cons_zero, List.set_cons_succ]
            refine wpAnyH_take (i := 21) (oi := ⟨some 46, _, _, _, _, _⟩) rfl (by kernel_rfl) (by kernel_rfl) (by kernel_rfl) (fun _ _ _ h => h) (Or.inl ⟨by rfl, fun w hw => by ((try dsimp only at hw); go_split_ands; go_simp; with_reducible rfl)⟩) (by assumption) ?_
            try simp only [Act.put, List.setIfInBounds_toArray, List.set_cons_zero, List.set_cons_succ]
            refine wpAnyH_ready (rs := [22]) (by kernel_rfl) (by simp) ?_
            refine AllReadyH.cons rfl (fun K hK => ?_) (AllReadyH.nil)
            go_simp
            refine (HSB.out 1).mono ?_
            rintro e w2 ⟨rfl, t, ht⟩
            obtain ⟨t', ht'⟩ : ∃ t', w2 = w1.drewN t' := ⟨1 + t, by rw [ht, ← World.drewN_drewN]⟩
            have hS : w2.rangeAt b (o + k * 33) (bvs x) ∧ w2.rangeAt b2 (o2 + m * 33) (bvs y) ∧ w2.cell? ⟨b, o + k * 33 + 32, none⟩ = some (.slice Av l1 Cv) ∧ w2.cell? ⟨b2, o2 + m * 33 + 32, none⟩ = some (.slice Av2 l2 Cv2) := by rw [ht']; exact KS.out t'
            have HT := Lib.hid ht'
            clear ht ht'
            refine hK.out _ _ hS (fun hH3 => ?_)
            clear hK hH2 hS
            refine wpAnyH_take (i := 23) (oi := ⟨some 48, _, _, _, _, _⟩) rfl (by kernel_rfl) (by kernel_rfl) (by kernel_rfl) (fun _ _ _ h => h) (Or.inl ⟨by rfl, fun w hw => by ((try dsimp only at hw); go_split_ands; go_simp; with_reducible rfl)⟩) (by assumption) ?_
            try simp only [Act.put, List.setIfInBounds_toArray, List.set_cons_zero, List.set_cons_succ]
            refine wpAnyH_done (by kernel_rfl) ?_ _
            change KK _ _
            refine HKK.out _ _ ?_
            clear hH3 hu hsz hsz2 hek HKK KK
            cases sb
            · have HB : Hid (hitB (F k) G (m + 1) = bb) := by show _ = _; rw [HMn.out]; simp
              go_wp2_with fail
              go_roundw
              case rel => exact ⟨m + 1, p + t', by omega, by go_num, by rw [← HB.out], by rw [HT.out, ← HW1.out, World.drewN_drewN]⟩
              case measure => simp [intOf]; omega
            · have HB : Hid (hitB (F k) G (m + 1) = true) := by show _ = _; rw [HMn.out]; simp
              go_wp2_with fail
              go_roundw
              case rel => exact ⟨m + 1, p + t', by omega, by go_num, by rw [← HB.out], by rw [HT.out, ← HW1.out, World.drewN_drewN]⟩
              case measure => simp [intOf]; omega
          · rw [decide_eq_false hxy] at HMn ⊢
            have HB : Hid (hitB (F k) G (m + 1) = bb) := by show _ = _; rw [HMn.out]; simp
            refine wpAnyH_take (i := 11) (oi := ⟨some 36, _, _, _, _, _⟩) rfl (by kernel_rfl) (by kernel_rfl) (by kernel_rfl) (fun _ _ _ h => h) (Or.inl ⟨by rfl, fun w hw => by ((try dsimp only at hw); go_split_ands; go_simp; with_reducible rfl)⟩) (by assumption) ?_
            try simp only [Act.put, List.setIfInBounds_toArray, List.set_cons_zero, List.set_cons_succ]
            refine wpAnyH_take (i := 12) (oi := ⟨some 37, _, _, _, _, _⟩) rfl (by kernel_rfl) (by kernel_rfl) (by kernel_rfl) (fun _ _ _ h => h) (Or.inr ⟨by rfl, rfl⟩) (by assumption) ?_
            try simp only [Act.put, List.setIfInBounds_toArray, List.set_cons_zero, List.set_cons_succ]
            refine wpAnyH_take (i := 13) (oi := ⟨some 38, _, _, _, _, _⟩) rfl (by kernel_rfl) (by kernel_rfl) (by kernel_rfl) (fun _ _ _ h => h) (Or.inr ⟨by rfl, rfl⟩) (by assumption) ?_
            try simp only [Act.put, List.setIfInBounds_toArray, List.set_cons_zero, List.set_cons_succ]
            refine wpAnyH_take (i := 14) (oi := ⟨some 39, _, _, _, _, _⟩) rfl (by kernel_rfl) (by kernel_rfl) (by kernel_rfl) (fun _ _ _ h => h) (Or.inr ⟨by rfl, rfl⟩) (by assumption) ?_
            try simp only [Act.put, List.setIfInBounds_toArray, List.set_cons_zero, List.set_cons_succ]
            refine wpAnyH_take (i := 15) (oi := ⟨some 40, _, _, _, _, _⟩) rfl (by kernel_rfl) (by kernel_rfl) (by kernel_rfl) (fun _ _ _ h => h) (Or.inr ⟨by rfl, rfl⟩) (by assumption) ?_
            try simp only [Act.put, List.setIfInBounds_toArray, List.set_cons_zero, List.set_cons_succ]
            refine wpAnyH_take (i := 16) (oi := ⟨some 41, _, _, _, _, _⟩) rfl (by kernel_rfl) (by kernel_rfl) (by kernel_rfl) (fun _ _ _ h => h) (Or.inr ⟨by rfl, rfl⟩) (by assumption) ?_
            try simp only [Act.put, List.setIfInBounds_toArray, List.set_cons_zero, List.set_cons_succ]
            refine wpAnyH_take (i := 17) (oi := ⟨some 42, _, _, _, _, _⟩) rfl (by kernel_rfl) (by kernel_rfl) (by kernel_rfl) (fun _ _ _ h => h) (Or.inr ⟨by rfl, rfl⟩) (by assumption) ?_
            try simp only [Act.put, List.setIfInBounds_toArray, List.set_cons_zero, List.set_cons_succ]
            refine wpAnyH_take (i := 18) (oi := ⟨some 43, _, _, _, _, _⟩) rfl (by kernel_rfl) (by kernel_rfl) (by kernel_rfl) (fun _ _ _ h => h) (Or.inr ⟨by rfl, rfl⟩) (by assumption) ?_
            try simp only [Act.put, List.setIfInBounds_toArray, List.set_cons_zero, List.set_cons_succ]
            refine wpAnyH_take (i := 19) (oi := ⟨some 44, _, _, _, _, _⟩) rfl (by kernel_rfl) (by kernel_rfl) (by kernel_rfl) (fun _ _ _ h => h) (Or.inr ⟨by rfl, rfl⟩) (by assumption) ?_
            try simp only [Act.put, List.setIfInBounds_toArray, List.set_cons_zero, List.set_cons_succ]
            refine wpAnyH_take (i := 20) (oi := ⟨some 45, _, _, _, _, _⟩) rfl (by kernel_rfl) (by kernel_rfl) (by kernel_rfl) (fun _ _ _ h => h) (Or.inr ⟨by rfl, rfl⟩) (by assumption) ?_
            try simp only [Act.put, List.setIfInBounds_toArray, List.set_cons_zero, List.set_cons_succ]
            refine wpAnyH_take (i := 21) (oi := ⟨some 46, _, _, _, _, _⟩) rfl (by kernel_rfl) (by kernel_rfl) (by kernel_rfl) (fun _ _ _ h => h) (Or.inr ⟨by rfl, rfl⟩) (by assumption) ?_
            try simp only [Act.put, List.setIfInBounds_toArray, List.set_cons_zero, List.set_cons_succ]
            refine wpAnyH_take (i := 22) (oi := ⟨some 47, _, _, _, _, _⟩) rfl (by kernel_rfl) (by kernel_rfl) (by kernel_rfl) (fun _ _ _ h => h) (Or.inr ⟨by rfl, rfl⟩) (by assumption) ?_
            try simp only [Act.put, List.setIfInBounds_toArray, List.set_cons_zero, List.set_cons_succ]
            refine wpAnyH_take (i := 23) (oi := ⟨some 48, _, _, _, _, _⟩) rfl (by kernel_rfl) (by kernel_rfl) (by kernel_rfl) (fun _ _ _ h => h) (Or.inl ⟨by rfl, fun w hw => by ((try dsimp only at hw); go_split_ands; go_simp; with_reducible rfl)⟩) (by assumption) ?_
            try simp only [Act.put, List.setIfInBounds_toArray, List.set_cons_zero, List.set_cons_succ]
            refine wpAnyH_done (by kernel_rfl) ?_ _
            change KK _ _
            refine HKK.out _ _ ?_
            clear hH2 hu hsz hsz2 hek HKK KK
            go_wp2_with fail
            go_roundw
            case rel => exact ⟨m + 1, p + 1, by omega, by go_num, by rw [← HB.out], by rw [← HW1.out]; rfl⟩
            case measure => simp [intOf]; omega
        · have hnm : ¬ (m : Int) < n := by omega
          obtain rfl : m = n := by omega
          rw [HH.out k hlt]
          go_wp2_with fail
          go_roundw
          case rel => exact ⟨k + 1, p, by omega, by go_num, rfl⟩
          case measure => simp [intOf]; omega
    · have hnlt : ¬ (k : Int) < n := by omega
      go_wp2_with fail
      go_ret
      exact ⟨rfl, q, rfl⟩
set_option maxRecDepth 100000 in
set_option maxHeartbeats 1600000 in
theorem rising_true (A : Option Addr) (N c : Nat) (X : Nat → Chg) (w : World) (hx : ChsAt w A N X) (hs : SSorted (lst X N)) :
    Calls Try.prog 32 #[.slice A N c] w fun e w' => e = .returned (.bool true) ∧ Below w.heap.size w w' := by
  have HX := Lib.hid hx
  have hn := hx.1
  unfold maxLen at hn
  have hu := und_key
  have HS : Hid (∀ p m, p < m → m < N → numK (X p).key < numK (X m).key) := fun p m h1 h2 => by
    have h := List.pairwise_iff_getElem.1 hs p m (by rw [lst_length]; omega) (by rw [lst_length]; exact h2) h1
    simpa [lst] using h
  clear hx hs
  go_enter Try.func32, Try.ntmps32
  go_wp2_with fail
  go_loopw [3] (fun i wr => ∃ m : Nat, 1 ≤ m ∧ (m ≤ N ∨ N = 0) ∧ i = .int .i64 m ∧ Hid (Below w.heap.size w wr)) (fun i _ => N - (intOf i).toNat)
  case atStart => exact ⟨1, by omega, by omega, rfl, Below.refl _ _⟩
  case round =>
    obtain ⟨m, h1m, hmk, rfl, HB⟩ := hrel
    obtain ⟨w1, rfl⟩ : ∃ w1, w1 = wr := ⟨_, rfl⟩
    by_cases hml : m < N
    · have hml' : (m : Int) < N := by omega
      obtain ⟨p, hp⟩ : ∃ p, m - 1 = p := ⟨_, rfl⟩
      have hpm : IntKind.i64.wrap ((m : Int) - 1) = (p : Int) := by rw [IntWalk.i64_in _ (by omega)]; omega
      have hp0 : (0 : Int) ≤ (p : Int) := by omega
      have hpk2 : p < N := by omega
      have hpk : (p : Int) < N := by omega
      obtain ⟨b, o, Av, Cv, rfl, hb, hr, hkB, hkl, hq1⟩ := HX.out.2 p hpk2
      obtain ⟨b2, o2, Av2, Cv2, e2, hb2, hr2, hkB2, hkl2, hq2⟩ := HX.out.2 m hml
      injection e2 with e2
      injection e2 with e2 e3 e4
      subst e2 e3
      clear e4
      have HLT := Lib.hid (HS.out p m (by omega) hml)
      have hsz : (Try.prog.info? 25).map (·.size) = some (bvs (X p).key).length := by rw [size_key]; simp [bvs, hkl]
      have hsz2 : (Try.prog.info? 25).map (·.size) = some (bvs (X m).key).length := by rw [size_key]; simp [bvs, hkl2]
      have HK := Lib.hid (show (IsB (X p).key ∧ (X p).key.length = 32) ∧ IsB (X m).key ∧ (X m).key.length = 32 from ⟨⟨hkB, hkl⟩, hkB2, hkl2⟩)
      have KS : Hid (∀ W, Below w.heap.size w W → W.rangeAt b (o + p * 34) (bvs (X p).key) ∧ W.rangeAt b (o + m * 34) (bvs (X m).key)) := fun W hW => ⟨ch_key (range_below hW hb hr), ch_key (range_below hW hb2 hr2)⟩
      clear hr hr2 hkB hkl hkB2 hkl2 hq1 hq2 hb hb2 hp
      generalize (X p).key = x at *
      generalize (X m).key = y at *
      go_wp2_with fail
      rename_i KK hKK
      have HKK := Lib.hid hKK
      clear hKK
      refine wp_region_held_drew (S := fun w' => w'.rangeAt b (o + p * 34) (bvs x) ∧ w'.rangeAt b (o + m * 34) (bvs y)) (by kernel_rfl) (KS.out _ (drewN_below HB.out 1)) fun hH => ?_
      refine wpAnyH_take (i := 0) (oi := ⟨some 10, _, _, _, _, _⟩) rfl (by kernel_rfl) (by kernel_rfl) (by kernel_rfl) (fun _ _ _ h => h) (Or.inl ⟨by rfl, fun w hw => by ((try dsimp only at hw); go_split_ands; go_simp; with_reducible rfl)⟩) (by assumption) ?_
      try simp only [Act.put, List.setIfInBounds_toArray, List.set_cons_zero, List.set_cons_succ]
      refine wpAnyH_take (i := 1) (oi := ⟨some 11, _, _, _, _, _⟩) rfl (by kernel_rfl) (by kernel_rfl) (by kernel_rfl) (fun _ _ _ h => h) (Or.inl ⟨by rfl, fun w hw => by ((try dsimp only at hw); go_split_ands; go_simp; with_reducible rfl)⟩) (by assumption) ?_
      try simp only [Act.put, List.setIfInBounds_toArray, List.set_cons_zero, List.set_cons_succ]
      refine wpAnyH_take (i := 2) (oi := ⟨some 12, _, _, _, _, _⟩) rfl (by kernel_rfl) (by kernel_rfl) (by kernel_rfl) (fun _ _ _ h => h) (Or.inl ⟨by rfl, fun w hw => by ((try dsimp only at hw); go_split_ands; go_simp; with_reducible rfl)⟩) (by assumption) ?_
      try simp only [Act.put, List.setIfInBounds_toArray, List.set_cons_zero, List.set_cons_succ]
      refine wpAnyH_take (i := 3) (oi := ⟨some 13, _, _, _, _, _⟩) rfl (by kernel_rfl) (by kernel_rfl) (by kernel_rfl) (fun _ _ _ h => h) (Or.inl ⟨by rfl, fun w hw => by ((try dsimp only at hw); go_split_ands; go_simp; with_reducible rfl)⟩) (by assumption) ?_
      try simp only [Act.put, List.setIfInBounds_toArray, List.set_cons_zero, List.set_cons_succ]
      refine wpAnyH_take (i := 4) (oi := ⟨some 14, _, _, _, _, _⟩) rfl (by kernel_rfl) (by kernel_rfl) (by kernel_rfl) (fun _ _ _ h => h) (Or.inl ⟨by rfl, fun w hw => by ((try dsimp only at hw); go_split_ands; go_simp; with_reducible rfl)⟩) (by assumption) ?_
      try simp only [Act.put, List.setIfInBounds_toArray, List.set_cons_zero, List.set_cons_succ]
      refine wpAnyH_take (i := 5) (oi := ⟨some 15, _, _, _, _, _⟩) rfl (by kernel_rfl) (by kernel_rfl) (by kernel_rfl) (fun _ _ _ h => h) (yieldsIf_load_mid (by rfl) _ _ rfl _ _ rfl _ _ (fun w hw => by (try dsimp only at hw); go_split_ands; assumption) (by assumption) rfl (by assumption)) (by assumption) ?_
      try simp only [Act.put, List.setIfInBounds_toArray, List.set_cons_zero, List.set_cons_succ]
      refine wpAnyH_take (i := 6) (oi := ⟨some 16, _, _, _, _, _⟩) rfl (by kernel_rfl) (by kernel_rfl) (by kernel_rfl) (fun _ _ _ h => h) (Or.inl ⟨by rfl, fun w hw => by ((try dsimp only at hw); go_split_ands; go_simp; with_reducible rfl)⟩) (by assumption) ?_
      try simp only [Act.put, List.setIfInBounds_toArray, List.set_cons_zero, List.set_cons_succ]
      refine wpAnyH_take (i := 7) (oi := ⟨some 17, _, _, _, _, _⟩) rfl (by kernel_rfl) (by kernel_rfl) (by kernel_rfl) (fun _ _ _ h => h) (Or.inl ⟨by rfl, fun w hw => by ((try dsimp only at hw); go_split_ands; go_simp; with_reducible rfl)⟩) (by assumption) ?_
      try simp only [Act.put, List.setIfInBounds_toArray, List.set_cons_zero, List.set_cons_succ]
      refine wpAnyH_take (i := 8) (oi := ⟨some 18, _, _, _, _, _⟩) rfl (by kernel_rfl) (by kernel_rfl) (by kernel_rfl) (fun _ _ _ h => h) (Or.inl ⟨by rfl, fun w hw => by ((try dsimp only at hw); go_split_ands; go_simp; with_reducible rfl)⟩) (by assumption) ?_
      try simp only [Act.put, List.setIfInBounds_toArray, List.set_cons_zero, List.set_cons_succ]
      refine wpAnyH_take (i := 9) (oi := ⟨some 19, _, _, _, _, _⟩) rfl (by kernel_rfl) (by kernel_rfl) (by kernel_rfl) (fun _ _ _ h => h) (Or.inl ⟨by rfl, fun w hw => by ((try dsimp only at hw); go_split_ands; go_simp; with_reducible rfl)⟩) (by assumption) ?_
      try simp only [Act.put, List.setIfInBounds_toArray, List.set_cons_zero, List.set_cons_succ]
      refine wpAnyH_take (i := 10) (oi := ⟨some 20, _, _, _, _, _⟩) rfl (by kernel_rfl) (by kernel_rfl) (by kernel_rfl) (fun _ _ _ h => h) (yieldsIf_load_mid (by rfl) _ _ rfl _ _ rfl _ _ (fun w hw => by (try dsimp only at hw); go_split_ands; assumption) (by assumption) rfl (by assumption)) (by assumption) ?_
      try simp only [Act.put, List.setIfInBounds_toArray, List.set_cons_zero, List.set_cons_succ]
      refine wpAnyH_ready (rs := [11]) (by kernel_rfl) (by simp) ?_
      refine AllReadyH.cons rfl (fun K hK => ?_) (AllReadyH.nil)
      go_simp
      refine (compare_num x y (w1.drewN 1) HK.out.1.1 HK.out.1.2 HK.out.2.1 HK.out.2.2).mono ?_
      rintro e w2 ⟨rfl, hb2⟩
      have HB2 : Hid (Below w.heap.size w w2) := (drewN_below HB.out 1).trans (hb2.mono (drewN_below HB.out 1).size)
      have hz : cmpZ (numK x) (numK y) = -1 := if_pos HLT.out
      rw [hz]
      clear hb2 hz
      refine hK.out _ _ (KS.out _ HB2.out) (fun hH2 => ?_)
      clear hK hH
      refine wpAnyH_take (i := 12) (oi := ⟨some 22, _, _, _, _, _⟩) rfl (by kernel_rfl) (by kernel_rfl) (by kernel_rfl) (fun _ _ _ h => h) (Or.inl ⟨by rfl, fun w hw => by ((try dsimp only at hw); go_split_ands; go_simp; with_reducible rfl)⟩) (by assumption) ?_
      try simp only [Act.put, List.setIfInBounds_toArray, List.set_cons_zero, List.set_cons_succ]
      refine wpAnyH_done (by kernel_rfl) ?_ _
      change KK _ _
      refine HKK.out _ _ ?_
      clear hH2 hu hsz hsz2 hpm HKK KK
      go_wp2_with fail
      go_roundw
      case rel => exact ⟨m + 1, by omega, by omega, by go_num, HB2.out⟩
      case measure => simp [intOf]; omega
    · have hml' : ¬ (m : Int) < N := by omega
      go_wp2_with fail
      go_ret
      exact ⟨rfl, HB.out⟩
end Go.Proofs.Ytkpbeibcfaenhaa
