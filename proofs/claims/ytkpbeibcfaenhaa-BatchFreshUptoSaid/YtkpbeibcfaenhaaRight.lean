/- ledgerlaw3.right. -/
import Derived.Test.YtkpbeibcfaenhaaBuild
namespace Go.Proofs.Ytkpbeibcfaenhaa
open Go.RowKit
def rightF (X : Nat → Chg) : Nat → Bool
  | 0 => true
  | k + 1 => rightF X k && (!long (X k) && !hasKey X (X k).key k)
def rightB (X : Nat → Chg) (N n : Nat) : Bool := decide (N ≤ n) && rightF X N
theorem rightF_not {X : Nat → Chg} {k n : Nat} (h : k < n) (hb : rightF X (k + 1) = false) : rightF X n = false := by
  induction n with
  | zero => omega
  | succ n ih =>
    by_cases e : k = n
    · subst e; exact hb
    · rw [rightF, ih (by omega), Bool.false_and]
theorem rightF_iff {X : Nat → Chg} {n : Nat} : rightF X n = true ↔ anyLong X n = false ∧ repN X n < 0 := by
  induction n with
  | zero => simp [rightF, anyLong, repN]
  | succ n ih =>
    rw [rightF, anyLong, Bool.and_eq_true, ih, repN]
    simp only [Bool.or_eq_false_iff, Bool.and_eq_true, Bool.not_eq_true']
    constructor
    · rintro ⟨⟨h1, h2⟩, h3, h4⟩
      refine ⟨⟨h1, h3⟩, ?_⟩
      rw [if_neg (by omega), h4]
      simp
    · rintro ⟨⟨h1, h3⟩, h2⟩
      split at h2
      · omega
      · rename_i hn
        split at h2
        · omega
        · rename_i h4
          exact ⟨⟨h1, by omega⟩, h3, by simpa using h4⟩
theorem rightB_iff {X : Nat → Chg} {N n : Nat} : rightB X N n = true ↔ heldN X N n = 0 ∧ repN X N < 0 := by
  unfold rightB heldN
  rw [Bool.and_eq_true, rightF_iff, decide_eq_true_eq]
  constructor
  · rintro ⟨h1, h2, h3⟩
    rw [if_neg (by omega), h2]
    exact ⟨rfl, h3⟩
  · rintro ⟨h1, h2⟩
    split at h1
    · omega
    · split at h1
      · omega
      · rename_i h3 h4
        exact ⟨by omega, by simpa using h4, h2⟩
set_option maxRecDepth 100000 in
set_option maxHeartbeats 1600000 in
theorem right_any (A : Option Addr) (N c n : Nat) (X : Nat → Chg) (w : World) (hx : ChsAt w A N X) (hn4 : n ≤ 4096) :
    Calls Try.prog 22 #[.slice A N c, .int .i64 n] w fun e w' => e = .returned (.bool (rightB X N n)) ∧ ∃ q, w' = w.drewN q := by
  have HX := Lib.hid hx
  have hn := hx.1
  have hu := und_key
  unfold maxLen at hn
  clear hx
  go_enter Try.func22, Try.ntmps22
  by_cases hnN : N ≤ n
  · have hnN' : ¬ (n : Int) < N := by omega
    have HRB : Hid (rightB X N n = rightF X N) := by show _ = _; unfold rightB; rw [decide_eq_true hnN, Bool.true_and]
    go_wp2_with fail
    go_loopw [5] (fun i wr => ∃ k q : Nat, k ≤ N ∧ i = .int .i64 k ∧ Hid (rightF X k = true) ∧ wr = w.drewN q) (fun i _ => N - (intOf i).toNat)
    case atStart => exact ⟨0, 0, by omega, rfl, rfl, rfl⟩
    case round =>
      obtain ⟨k, q, hk, rfl, HF, rfl⟩ := hrel
      by_cases hlt : k < N
      · have hlt' : (k : Int) < N := by omega
        obtain ⟨b, o, Av, Cv, rfl, hb, hr, hkB, hkl, hvr, hvC, hq1⟩ := HX.out.2 k hlt
        have d1 := ch_del hr hkl
        have d2 := ch_val hr hkl
        have HFn : Hid (rightF X (k + 1) = (rightF X k && (!long (X k) && !hasKey X (X k).key k))) := rfl
        have HNo : Hid (rightF X (k + 1) = false → rightF X N = false) := fun h => rightF_not hlt h
        have hvm : (X k).val.length ≤ 9223372036854775807 := by unfold maxLen at hq1; omega
        clear hq1 hvC hvr
        by_cases hlo : long (X k) = true
        · have HR : Hid (rightB X N n = false) := by show _ = _; rw [HRB.out, HNo.out (by rw [HFn.out, hlo]; simp)]
          unfold long at hlo
          generalize X k = x at *
          obtain ⟨ky, dl, vl⟩ := x
          cases dl
          · have hlen : (128 : Int) < (vl.length : Int) := by
              simp at hlo
              omega
            clear hr hkB hkl hlo
            go_wp2_with fail
            go_ret
            exact ⟨by rw [HR.out]; rfl, q, rfl⟩
          · simp at hlo
        · have hlo2 : long (X k) = false := by simpa using hlo
          have HLO := Lib.hid hlo2
          have hcond : (!(X k).del && decide ((128 : Int) < ((X k).val.length : Int))) = false := by
            unfold long at hlo2
            rw [← hlo2]
            congr 1
            exact decide_eq_decide.2 (by omega)
          generalize hdl : (X k).del = dl at *
          generalize hvl : (X k).val.length = vl at *
          clear hlo hlo2
          have HC := Lib.hid hcond
          clear hcond
          cases dl
          · have hlen : ¬ (128 : Int) < (vl : Int) := by
              have := HC.out
              simp at this
              omega
            go_wp2_with fail
            go_loopw [6] (fun i wr => ∃ m p : Nat, m ≤ k ∧ i = .int .i64 m ∧ Hid (hasKey X (X k).key m = false) ∧ wr = w.drewN p) (fun i _ => k - (intOf i).toNat)
            case atStart => exact ⟨0, q, by omega, rfl, rfl, rfl⟩
            case round =>
              obtain ⟨m, p, hm, rfl, HM, rfl⟩ := hrel
              by_cases hmk : m < k
              · have hmk' : (m : Int) < k := by omega
                obtain ⟨b2, o2, Av2, Cv2, e2, hb2, hr2, hkB2, hkl2, hq2⟩ := HX.out.2 m (by omega)
                injection e2 with e2
                injection e2 with e2 e3 e4
                subst e2 e3
                have a1 := ch_key hr
                have a2 := ch_key hr2
                have hsz : (Try.prog.info? 25).map (·.size) = some (bvs (X k).key).length := by rw [size_key]; simp [bvs, hkl]
                have hsz2 : (Try.prog.info? 25).map (·.size) = some (bvs (X m).key).length := by rw [size_key]; simp [bvs, hkl2]
                have hek : ∀ w, (Op.equalIn 10000 25 (.agg (bvs (X k).key).toArray) (.agg (bvs (X m).key).toArray)).run Try.prog w = .ok (decide ((X k).key = (X m).key)) w := fun w => key_eq w _ _ hkB hkB2 hkl hkl2
                obtain ⟨w1, hw1⟩ : ∃ w1, w.drewN p = w1 := ⟨_, rfl⟩
                have HW1 := Lib.hid hw1
                have KS : Hid (∀ j, (w1.drewN j).rangeAt b (o + k * 34) (bvs (X k).key) ∧ (w1.drewN j).rangeAt b (o + m * 34) (bvs (X m).key)) := fun j => by
                  rw [← hw1]
                  exact ⟨a1, a2⟩
                have HMn : Hid (hasKey X (X k).key (m + 1) = (hasKey X (X k).key m || decide ((X k).key = (X m).key))) := rfl
                have HAT : Hid ((X k).key = (X m).key → hasKey X (X k).key k = true) := fun h => hasKey_at hmk h
                have HR : Hid (hasKey X (X k).key k = true → rightB X N n = false) := fun h => by rw [HRB.out, HNo.out (by rw [HFn.out, h]; simp)]
                rw [hw1]
                clear hr hr2 hkB hkl hkB2 hkl2 a1 a2 hw1 hq2 e4 HFn HNo
                have hmN : (m : Int) < N := by omega
                have hmN2 : m < N := by omega
                generalize (X k).key = x at *
                generalize (X m).key = y at *
                go_wp2_with fail
                rename_i KK hKK
                have HKK := Lib.hid hKK
                clear hKK
                refine wp_region_held_drew (S := fun w' => w'.rangeAt b (o + k * 34) (bvs x) ∧ w'.rangeAt b (o + m * 34) (bvs y)) (by kernel_rfl) (KS.out 1) fun hH => ?_
                refine wpAnyH_take (i := 0) (oi := ⟨some 37, _, _, _, _, _⟩) rfl (by kernel_rfl) (by kernel_rfl) (by kernel_rfl) (fun _ _ _ h => h) (Or.inl ⟨by rfl, fun w hw => by ((try dsimp only at hw); go_split_ands; go_simp; with_reducible rfl)⟩) (by assumption) ?_
                try simp only [Act.put, List.setIfInBounds_toArray, List.set_cons_zero, List.set_cons_succ]
                refine wpAnyH_take (i := 1) (oi := ⟨some 38, _, _, _, _, _⟩) rfl (by kernel_rfl) (by kernel_rfl) (by kernel_rfl) (fun _ _ _ h => h) (Or.inl ⟨by rfl, fun w hw => by ((try dsimp only at hw); go_split_ands; go_simp; with_reducible rfl)⟩) (by assumption) ?_
                try simp only [Act.put, List.setIfInBounds_toArray, List.set_cons_zero, List.set_cons_succ]
                refine wpAnyH_take (i := 2) (oi := ⟨some 39, _, _, _, _, _⟩) rfl (by kernel_rfl) (by kernel_rfl) (by kernel_rfl) (fun _ _ _ h => h) (Or.inl ⟨by rfl, fun w hw => by ((try dsimp only at hw); go_split_ands; go_simp; with_reducible rfl)⟩) (by assumption) ?_
                try simp only [Act.put, List.setIfInBounds_toArray, List.set_cons_zero, List.set_cons_succ]
                refine wpAnyH_take (i := 3) (oi := ⟨some 40, _, _, _, _, _⟩) rfl (by kernel_rfl) (by kernel_rfl) (by kernel_rfl) (fun _ _ _ h => h) (Or.inl ⟨by rfl, fun w hw => by ((try dsimp only at hw); go_split_ands; go_simp; with_reducible rfl)⟩) (by assumption) ?_
                try simp only [Act.put, List.setIfInBounds_toArray, List.set_cons_zero, List.set_cons_succ]
                refine wpAnyH_take (i := 4) (oi := ⟨some 41, _, _, _, _, _⟩) rfl (by kernel_rfl) (by kernel_rfl) (by kernel_rfl) (fun _ _ _ h => h) (yieldsIf_load_mid (by rfl) _ _ rfl _ _ rfl _ _ (fun w hw => by (try dsimp only at hw); go_split_ands; assumption) (by assumption) rfl (by assumption)) (by assumption) ?_
                try simp only [Act.put, List.setIfInBounds_toArray, List.set_cons_zero, List.set_cons_succ]
                refine wpAnyH_take (i := 5) (oi := ⟨some 42, _, _, _, _, _⟩) rfl (by kernel_rfl) (by kernel_rfl) (by kernel_rfl) (fun _ _ _ h => h) (Or.inl ⟨by rfl, fun w hw => by ((try dsimp only at hw); go_split_ands; go_simp; with_reducible rfl)⟩) (by assumption) ?_
                try simp only [Act.put, List.setIfInBounds_toArray, List.set_cons_zero, List.set_cons_succ]
                refine wpAnyH_take (i := 6) (oi := ⟨some 43, _, _, _, _, _⟩) rfl (by kernel_rfl) (by kernel_rfl) (by kernel_rfl) (fun _ _ _ h => h) (Or.inl ⟨by rfl, fun w hw => by ((try dsimp only at hw); go_split_ands; go_simp; with_reducible rfl)⟩) (by assumption) ?_
                try simp only [Act.put, List.setIfInBounds_toArray, List.set_cons_zero, List.set_cons_succ]
                refine wpAnyH_take (i := 7) (oi := ⟨some 44, _, _, _, _, _⟩) rfl (by kernel_rfl) (by kernel_rfl) (by kernel_rfl) (fun _ _ _ h => h) (Or.inl ⟨by rfl, fun w hw => by ((try dsimp only at hw); go_split_ands; go_simp; with_reducible rfl)⟩) (by assumption) ?_
                try simp only [Act.put, List.setIfInBounds_toArray, List.set_cons_zero, List.set_cons_succ]
                refine wpAnyH_take (i := 8) (oi := ⟨some 45, _, _, _, _, _⟩) rfl (by kernel_rfl) (by kernel_rfl) (by kernel_rfl) (fun _ _ _ h => h) (Or.inl ⟨by rfl, fun w hw => by ((try dsimp only at hw); go_split_ands; go_simp; with_reducible rfl)⟩) (by assumption) ?_
                try simp only [Act.put, List.setIfInBounds_toArray, List.set_cons_zero, List.set_cons_succ]
                refine wpAnyH_take (i := 9) (oi := ⟨some 46, _, _, _, _, _⟩) rfl (by kernel_rfl) (by kernel_rfl) (by kernel_rfl) (fun _ _ _ h => h) (yieldsIf_load_mid (by rfl) _ _ rfl _ _ rfl _ _ (fun w hw => by (try dsimp only at hw); go_split_ands; assumption) (by assumption) rfl (by assumption)) (by assumption) ?_
                try simp only [Act.put, List.setIfInBounds_toArray, List.set_cons_zero, List.set_cons_succ]
                refine wpAnyH_ready (rs := [10]) (by kernel_rfl) (by simp) ?_
                refine AllReadyH.cons rfl (fun K hK => ?_) (AllReadyH.nil)
                go_simp
                refine hK.out _ _ hH (fun hH2 => ?_)
                clear hK hH
                refine wpAnyH_done (by kernel_rfl) ?_ _
                change KK _ _
                refine HKK.out _ _ ?_
                clear hH2 hu hsz hsz2 hek
                by_cases hxy : x = y
                · rw [decide_eq_true hxy]
                  go_wp2_with fail
                  go_ret
                  exact ⟨by rw [HR.out (HAT.out hxy)]; rfl, p + 1, by rw [← HW1.out]; rfl⟩
                · rw [decide_eq_false hxy] at HMn ⊢
                  go_wp2_with fail
                  go_roundw
                  case rel => exact ⟨m + 1, p + 1, by omega, by go_num, by show _ = _; rw [HMn.out, HM.out]; rfl, by rw [← HW1.out]; rfl⟩
                  case measure => simp [intOf]; omega
              · have hnm : ¬ (m : Int) < k := by omega
                obtain rfl : m = k := by omega
                have HFF : Hid (rightF X (m + 1) = true) := by show _ = _; rw [HFn.out, HF.out, HLO.out, HM.out]; rfl
                go_wp2_with fail
                go_roundw
                case rel => exact ⟨m + 1, p, by omega, by go_num, HFF.out, rfl⟩
                case measure => simp [intOf]; omega
          · go_wp2_with fail
            go_loopw [6] (fun i wr => ∃ m p : Nat, m ≤ k ∧ i = .int .i64 m ∧ Hid (hasKey X (X k).key m = false) ∧ wr = w.drewN p) (fun i _ => k - (intOf i).toNat)
            case atStart => exact ⟨0, q, by omega, rfl, rfl, rfl⟩
            case round =>
              obtain ⟨m, p, hm, rfl, HM, rfl⟩ := hrel
              by_cases hmk : m < k
              · have hmk' : (m : Int) < k := by omega
                obtain ⟨b2, o2, Av2, Cv2, e2, hb2, hr2, hkB2, hkl2, hq2⟩ := HX.out.2 m (by omega)
                injection e2 with e2
                injection e2 with e2 e3 e4
                subst e2 e3
                have a1 := ch_key hr
                have a2 := ch_key hr2
                have hsz : (Try.prog.info? 25).map (·.size) = some (bvs (X k).key).length := by rw [size_key]; simp [bvs, hkl]
                have hsz2 : (Try.prog.info? 25).map (·.size) = some (bvs (X m).key).length := by rw [size_key]; simp [bvs, hkl2]
                have hek : ∀ w, (Op.equalIn 10000 25 (.agg (bvs (X k).key).toArray) (.agg (bvs (X m).key).toArray)).run Try.prog w = .ok (decide ((X k).key = (X m).key)) w := fun w => key_eq w _ _ hkB hkB2 hkl hkl2
                obtain ⟨w1, hw1⟩ : ∃ w1, w.drewN p = w1 := ⟨_, rfl⟩
                have HW1 := Lib.hid hw1
                have KS : Hid (∀ j, (w1.drewN j).rangeAt b (o + k * 34) (bvs (X k).key) ∧ (w1.drewN j).rangeAt b (o + m * 34) (bvs (X m).key)) := fun j => by
                  rw [← hw1]
                  exact ⟨a1, a2⟩
                have HMn : Hid (hasKey X (X k).key (m + 1) = (hasKey X (X k).key m || decide ((X k).key = (X m).key))) := rfl
                have HAT : Hid ((X k).key = (X m).key → hasKey X (X k).key k = true) := fun h => hasKey_at hmk h
                have HR : Hid (hasKey X (X k).key k = true → rightB X N n = false) := fun h => by rw [HRB.out, HNo.out (by rw [HFn.out, h]; simp)]
                rw [hw1]
                clear hr hr2 hkB hkl hkB2 hkl2 a1 a2 hw1 hq2 e4 HFn HNo
                have hmN : (m : Int) < N := by omega
                have hmN2 : m < N := by omega
                generalize (X k).key = x at *
                generalize (X m).key = y at *
                go_wp2_with fail
                rename_i KK hKK
                have HKK := Lib.hid hKK
                clear hKK
                refine wp_region_held_drew (S := fun w' => w'.rangeAt b (o + k * 34) (bvs x) ∧ w'.rangeAt b (o + m * 34) (bvs y)) (by kernel_rfl) (KS.out 1) fun hH => ?_
                refine wpAnyH_take (i := 0) (oi := ⟨some 37, _, _, _, _, _⟩) rfl (by kernel_rfl) (by kernel_rfl) (by kernel_rfl) (fun _ _ _ h => h) (Or.inl ⟨by rfl, fun w hw => by ((try dsimp only at hw); go_split_ands; go_simp; with_reducible rfl)⟩) (by assumption) ?_
                try simp only [Act.put, List.setIfInBounds_toArray, List.set_cons_zero, List.set_cons_succ]
                refine wpAnyH_take (i := 1) (oi := ⟨some 38, _, _, _, _, _⟩) rfl (by kernel_rfl) (by kernel_rfl) (by kernel_rfl) (fun _ _ _ h => h) (Or.inl ⟨by rfl, fun w hw => by ((try dsimp only at hw); go_split_ands; go_simp; with_reducible rfl)⟩) (by assumption) ?_
                try simp only [Act.put, List.setIfInBounds_toArray, List.set_cons_zero, List.set_cons_succ]
                refine wpAnyH_take (i := 2) (oi := ⟨some 39, _, _, _, _, _⟩) rfl (by kernel_rfl) (by kernel_rfl) (by kernel_rfl) (fun _ _ _ h => h) (Or.inl ⟨by rfl, fun w hw => by ((try dsimp only at hw); go_split_ands; go_simp; with_reducible rfl)⟩) (by assumption) ?_
                try simp only [Act.put, List.setIfInBounds_toArray, List.set_cons_zero, List.set_cons_succ]
                refine wpAnyH_take (i := 3) (oi := ⟨some 40, _, _, _, _, _⟩) rfl (by kernel_rfl) (by kernel_rfl) (by kernel_rfl) (fun _ _ _ h => h) (Or.inl ⟨by rfl, fun w hw => by ((try dsimp only at hw); go_split_ands; go_simp; with_reducible rfl)⟩) (by assumption) ?_
                try simp only [Act.put, List.setIfInBounds_toArray, List.set_cons_zero, List.set_cons_succ]
                refine wpAnyH_take (i := 4) (oi := ⟨some 41, _, _, _, _, _⟩) rfl (by kernel_rfl) (by kernel_rfl) (by kernel_rfl) (fun _ _ _ h => h) (yieldsIf_load_mid (by rfl) _ _ rfl _ _ rfl _ _ (fun w hw => by (try dsimp only at hw); go_split_ands; assumption) (by assumption) rfl (by assumption)) (by assumption) ?_
                try simp only [Act.put, List.setIfInBounds_toArray, List.set_cons_zero, List.set_cons_succ]
                refine wpAnyH_take (i := 5) (oi := ⟨some 42, _, _, _, _, _⟩) rfl (by kernel_rfl) (by kernel_rfl) (by kernel_rfl) (fun _ _ _ h => h) (Or.inl ⟨by rfl, fun w hw => by ((try dsimp only at hw); go_split_ands; go_simp; with_reducible rfl)⟩) (by assumption) ?_
                try simp only [Act.put, List.setIfInBounds_toArray, List.set_cons_zero, List.set_cons_succ]
                refine wpAnyH_take (i := 6) (oi := ⟨some 43, _, _, _, _, _⟩) rfl (by kernel_rfl) (by kernel_rfl) (by kernel_rfl) (fun _ _ _ h => h) (Or.inl ⟨by rfl, fun w hw => by ((try dsimp only at hw); go_split_ands; go_simp; with_reducible rfl)⟩) (by assumption) ?_
                try simp only [Act.put, List.setIfInBounds_toArray, List.set_cons_zero, List.set_cons_succ]
                refine wpAnyH_take (i := 7) (oi := ⟨some 44, _, _, _, _, _⟩) rfl (by kernel_rfl) (by kernel_rfl) (by kernel_rfl) (fun _ _ _ h => h) (Or.inl ⟨by rfl, fun w hw => by ((try dsimp only at hw); go_split_ands; go_simp; with_reducible rfl)⟩) (by assumption) ?_
                try simp only [Act.put, List.setIfInBounds_toArray, List.set_cons_zero, List.set_cons_succ]
                refine wpAnyH_take (i := 8) (oi := ⟨some 45, _, _, _, _, _⟩) rfl (by kernel_rfl) (by kernel_rfl) (by kernel_rfl) (fun _ _ _ h => h) (Or.inl ⟨by rfl, fun w hw => by ((try dsimp only at hw); go_split_ands; go_simp; with_reducible rfl)⟩) (by assumption) ?_
                try simp only [Act.put, List.setIfInBounds_toArray, List.set_cons_zero, List.set_cons_succ]
                refine wpAnyH_take (i := 9) (oi := ⟨some 46, _, _, _, _, _⟩) rfl (by kernel_rfl) (by kernel_rfl) (by kernel_rfl) (fun _ _ _ h => h) (yieldsIf_load_mid (by rfl) _ _ rfl _ _ rfl _ _ (fun w hw => by (try dsimp only at hw); go_split_ands; assumption) (by assumption) rfl (by assumption)) (by assumption) ?_
                try simp only [Act.put, List.setIfInBounds_toArray, List.set_cons_zero, List.set_cons_succ]
                refine wpAnyH_ready (rs := [10]) (by kernel_rfl) (by simp) ?_
                refine AllReadyH.cons rfl (fun K hK => ?_) (AllReadyH.nil)
                go_simp
                refine hK.out _ _ hH (fun hH2 => ?_)
                clear hK hH
                refine wpAnyH_done (by kernel_rfl) ?_ _
                change KK _ _
                refine HKK.out _ _ ?_
                clear hH2 hu hsz hsz2 hek
                by_cases hxy : x = y
                · rw [decide_eq_true hxy]
                  go_wp2_with fail
                  go_ret
                  exact ⟨by rw [HR.out (HAT.out hxy)]; rfl, p + 1, by rw [← HW1.out]; rfl⟩
                · rw [decide_eq_false hxy] at HMn ⊢
                  go_wp2_with fail
                  go_roundw
                  case rel => exact ⟨m + 1, p + 1, by omega, by go_num, by show _ = _; rw [HMn.out, HM.out]; rfl, by rw [← HW1.out]; rfl⟩
                  case measure => simp [intOf]; omega
              · have hnm : ¬ (m : Int) < k := by omega
                obtain rfl : m = k := by omega
                have HFF : Hid (rightF X (m + 1) = true) := by show _ = _; rw [HFn.out, HF.out, HLO.out, HM.out]; rfl
                go_wp2_with fail
                go_roundw
                case rel => exact ⟨m + 1, p, by omega, by go_num, HFF.out, rfl⟩
                case measure => simp [intOf]; omega
      · have hnlt : ¬ (k : Int) < N := by omega
        obtain rfl : k = N := by omega
        go_wp2_with fail
        go_ret
        exact ⟨by rw [HRB.out, HF.out]; rfl, q, rfl⟩
  · have hnN' : (n : Int) < N := by omega
    have HRB : Hid (rightB X N n = false) := by show _ = _; unfold rightB; rw [decide_eq_false hnN, Bool.false_and]
    go_wp2_with fail
    go_ret
    exact ⟨by rw [HRB.out]; rfl, 0, rfl⟩
end Go.Proofs.Ytkpbeibcfaenhaa
