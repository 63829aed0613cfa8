/- Wrong (merged) -/
import Derived.Test.YtfnlhfaihoojfaaDoorFc
/- ledgerref3.wrong. -/
namespace Go.Proofs.YtfnlhfaihoojfaaDoor
open Go.RowKit
def wrongN (X : Nat → Chg) (n most : Nat) : Nat := if heldN X n most = 0 then (if 0 ≤ repN X n then 33 else 0) else heldN X n most
theorem wrong_build (X : Nat → Chg) (n : Nat) : wrongN X n 64 = buildE X n := rfl
theorem wrong_held {X : Nat → Chg} {n most : Nat} (h : heldN X n most ≠ 0) : wrongN X n most = heldN X n most := if_neg h
theorem sort_dup {X Z : Nat → Chg} {N : Nat} (hs : Sorted (lst Z N)) (hp : (lst Z N).Perm ((lst X N).map plainC)) (hg : ∀ k, k < N → GoodK (Z k)) : adjS (lst Z N) N = true ↔ 0 ≤ repN X N := by
  have h1 := adjS_keys hs (fun x hx => by
    obtain ⟨i, hi, rfl⟩ := mem_lst.1 hx
    exact hg i hi)
  rw [lst_length] at h1
  rw [h1, nodup_rep, nodup_perm hp]
  have : keysOf ((lst X N).map plainC) = keysOf (lst X N) := by
    unfold keysOf
    rw [List.map_map]
    exact List.map_congr_left fun x _ => plainC_key x
  rw [this]
set_option maxRecDepth 100000 in
set_option maxHeartbeats 1600000 in
theorem wrong_any (A : Option Addr) (N c most : Nat) (X : Nat → Chg) (w : World) (hx : ChsAt w A N X) (hc : N ≤ c) (hm : most ≤ 4096) (hn : N * 64 ≤ 140737488355328) (hv : ∀ k, k < N → (X k).val.length ≤ 140737488355328) :
    Calls Tryd.prog 46 #[.slice A N c, .int .i64 most] w fun e w' => e = .returned (.int .i64 (wrongN X N most : Nat)) ∧ Below w.heap.size w w' := by
  have HX := Lib.hid hx
  have HS := Lib.hid (fun W (hW : Below w.heap.size w W) => sorted_any N A c X W (hx.below hW) hc hn hv)
  have hu := und_key
  clear hx hv
  go_enter Tryd.func46, Tryd.ntmps46
  by_cases hmn : most < N
  · have HR : Hid (wrongN X N most = 31) := by
      have h1 : heldN X N most = 31 := by unfold heldN; rw [if_pos hmn]
      show _ = _
      rw [wrong_held (by rw [h1]; decide), h1]
    have hmn' : (most : Int) < N := by omega
    go_wp2_with fail
    go_ret
    exact ⟨by rw [HR.out]; rfl, Below.refl _ _⟩
  · have hmn' : ¬ (most : Int) < N := by omega
    go_wp2_with fail
    go_loopw [5] (fun i wr => ∃ k : Nat, k ≤ N ∧ i = .int .i64 k ∧ Hid (anyLong X k = false) ∧ Hid (Below w.heap.size w wr)) (fun i _ => N - (intOf i).toNat)
    case atStart => exact ⟨0, by omega, rfl, rfl, Below.refl _ _⟩
    case round =>
      obtain ⟨k, hk, rfl, HL, HB⟩ := hrel
      obtain ⟨w1, rfl⟩ : ∃ w1, w1 = wr := ⟨_, rfl⟩
      by_cases hlt : k < N
      · obtain ⟨b, o, Av, Cv, rfl, hb, hr, hkB, hkl, hvr, hvC, hCm, hnil⟩ := (HX.out.below HB.out).2 k hlt
        have hlt' : (k : Int) < N := by omega
        have b1 := ch_del hr hkl
        have b2 := ch_val hr hkl
        have HLk : Hid (long (X k) = (!(X k).del && decide (128 < (X k).val.length))) := rfl
        have HLn : Hid (anyLong X (k + 1) = (anyLong X k || long (X k))) := rfl
        have HLt : Hid (long (X k) = true → wrongN X N most = 32) := fun h => by
          have h1 : heldN X N most = 32 := by unfold heldN; rw [if_neg hmn, anyLong_at hlt h]; rfl
          rw [wrong_held (by rw [h1]; decide), h1]
        clear hr hkB hkl hvr hvC hCm hnil
        generalize X k = x at *
        obtain ⟨ky, dl, vl⟩ := x
        cases dl
        · by_cases hlen : 128 < vl.length
          · have hlen' : (128 : Int) < (vl.length : Int) := by omega
            have HR : Hid (wrongN X N most = 32) := HLt.out (by rw [HLk.out]; simp; exact hlen)
            go_wp2_with fail
            go_ret
            exact ⟨by rw [HR.out]; rfl, HB.out⟩
          · have hlen' : ¬ (128 : Int) < (vl.length : Int) := by omega
            have HLm : Hid (anyLong X (k + 1) = false) := by
              show _ = _
              rw [HLn.out, HL.out, HLk.out]
              simp
              omega
            go_wp2_with fail
            go_roundw
            case rel => exact ⟨k + 1, by omega, by go_num, HLm.out, HB.out⟩
            case measure => simp [intOf]; omega
        · have HLm : Hid (anyLong X (k + 1) = false) := by
            show _ = _
            rw [HLn.out, HL.out, HLk.out]
            simp
          go_wp2_with fail
          go_roundw
          case rel => exact ⟨k + 1, by omega, by go_num, HLm.out, HB.out⟩
          case measure => simp [intOf]; omega
      · have hnlt : ¬ (k : Int) < N := by omega
        obtain rfl : k = N := by omega
        have HH : Hid (heldN X k most = 0) := by show _ = _; unfold heldN; rw [if_neg hmn, HL.out]; rfl
        go_wp2_with fail
        refine (HS.out w1 HB.out).mono ?_
        rintro e w2 ⟨Z, ⟨v, Ad, Cp, rfl, ho, hb⟩, hs, hp⟩
        obtain ⟨A2, c2, rfl, hc2, hq3, hq4, hN, hq5⟩ := ho.form
        have HC := Lib.hid hc2
        have HB2 := Lib.hid (HB.out.trans (hb.mono HB.out.size))
        have HD := Lib.hid (sort_dup hs hp ho.key)
        unfold maxLen at hN
        clear ho hb hs hp hc2 hq3 hq4 hq5
        go_wp2_with fail
        go_loopw [7] (fun i wr => ∃ m q : Nat, 1 ≤ m ∧ (m ≤ k ∨ k = 0) ∧ i = .int .i64 m ∧ Hid (adjS (lst Z k) (min m k) = false) ∧ wr = w2.drewN q) (fun i _ => k - (intOf i).toNat)
        case atStart => exact ⟨1, 0, by omega, by omega, rfl, (by show _ = _; rcases Nat.eq_zero_or_pos k with h | h
                                                                  · rw [h]; rfl
                                                                  · rw [show min 1 k = 1 by omega]; simp [adjS]), rfl⟩
        case round =>
          obtain ⟨m, q, h1m, hmk, rfl, HA, rfl⟩ := hrel
          by_cases hml : m < k
          · have hml' : (m : Int) < k := by omega
            obtain ⟨p, hp⟩ : ∃ p, m - 1 = p := ⟨_, rfl⟩
            have hpm : IntKind.i64.wrap ((m : Int) - 1) = (p : Int) := by rw [IntWalk.i64_in _ (by omega)]; omega
            have hp0 : (0 : Int) ≤ (p : Int) := by omega
            have hpk : (p : Int) < k := by omega
            have hpk2 : p < k := by omega
            obtain ⟨b, o, Av, Cv, e1, hb, hr, hkB, hkl, hq1⟩ := HC.out.2 m hml
            obtain ⟨b', o', Av', Cv', e2, hb', hr', hkB', hkl', hq2⟩ := HC.out.2 p hpk2
            subst e1
            injection e2 with e2
            injection e2 with e2 e3 e4
            clear e4
            subst e2 e3
            have a1 := ch_key hr
            have a2 := ch_key hr'
            have hsz : (Tryd.prog.info? 31).map (·.size) = some (bvs (Z m).key).length := by rw [size_key]; simp [bvs, hkl]
            have hsz2 : (Tryd.prog.info? 31).map (·.size) = some (bvs (Z p).key).length := by rw [size_key]; simp [bvs, hkl']
            have hek : ∀ w, (Op.equalIn 10000 31 (.agg (bvs (Z m).key).toArray) (.agg (bvs (Z p).key).toArray)).run Tryd.prog w = .ok (decide ((Z m).key = (Z p).key)) w := fun w => key_eq w _ _ hkB hkB' hkl hkl'
            have HNX : Hid ((Z m).key = (Z p).key → wrongN X k most = 33) := fun h => by
              unfold wrongN
              rw [if_pos HH.out, if_pos (HD.out.1 (adjS_at hml (by omega) (by rw [lst_getD hml, hp, lst_getD hpk2]; exact h)))]
            have HNY : Hid (¬ (Z m).key = (Z p).key → adjS (lst Z k) (m + 1) = false) := fun h => by
              have h1 := HA.out
              rw [show min m k = m by omega] at h1
              rw [adjS, h1, lst_getD hml, hp, lst_getD hpk2, decide_eq_false h]
              simp
            obtain ⟨w3, hw3⟩ : ∃ w3, w2.drewN q = w3 := ⟨_, rfl⟩
            have HW3 := Lib.hid hw3
            have KS : Hid (∀ j, (w3.drewN j).rangeAt b (o + m * 34) (bvs (Z m).key) ∧ (w3.drewN j).rangeAt b (o + p * 34) (bvs (Z p).key)) := fun j => by
              rw [← hw3]
              exact ⟨a1, a2⟩
            rw [hw3]
            clear hr hr' hkB hkl hkB' hkl' a1 a2 hw3 hp hq1 hq2
            generalize (Z m).key = x at *
            generalize (Z p).key = y at *
            go_wp2_with fail
            rename_i KK hKK
            have HKK := Lib.hid hKK
            clear hKK
            refine wp_region_held_drew (S := fun w' => w'.rangeAt b (o + m * 34) (bvs x) ∧ w'.rangeAt b (o + p * 34) (bvs y)) (by kernel_rfl) (KS.out 1) fun hH => ?_
            refine wpAnyH_take (i := 0) (oi := ⟨some 41, _, _, _, _, _⟩) rfl (by kernel_rfl) (by kernel_rfl) (by kernel_rfl) (fun _ _ _ h => h) (Or.inl ⟨by rfl, fun w hw => by ((try dsimp only at hw); go_split_ands; go_simp; with_reducible rfl)⟩) (by assumption) ?_
            try simp only [Act.put, List.setIfInBounds_toArray, List.set_cons_zero, List.set_cons_succ]
            refine wpAnyH_take (i := 1) (oi := ⟨some 42, _, _, _, _, _⟩) rfl (by kernel_rfl) (by kernel_rfl) (by kernel_rfl) (fun _ _ _ h => h) (Or.inl ⟨by rfl, fun w hw => by ((try dsimp only at hw); go_split_ands; go_simp; with_reducible rfl)⟩) (by assumption) ?_
            try simp only [Act.put, List.setIfInBounds_toArray, List.set_cons_zero, List.set_cons_succ]
            refine wpAnyH_take (i := 2) (oi := ⟨some 43, _, _, _, _, _⟩) rfl (by kernel_rfl) (by kernel_rfl) (by kernel_rfl) (fun _ _ _ h => h) (Or.inl ⟨by rfl, fun w hw => by ((try dsimp only at hw); go_split_ands; go_simp; with_reducible rfl)⟩) (by assumption) ?_
            try simp only [Act.put, List.setIfInBounds_toArray, List.set_cons_zero, List.set_cons_succ]
            refine wpAnyH_take (i := 3) (oi := ⟨some 44, _, _, _, _, _⟩) rfl (by kernel_rfl) (by kernel_rfl) (by kernel_rfl) (fun _ _ _ h => h) (Or.inl ⟨by rfl, fun w hw => by ((try dsimp only at hw); go_split_ands; go_simp; with_reducible rfl)⟩) (by assumption) ?_
            try simp only [Act.put, List.setIfInBounds_toArray, List.set_cons_zero, List.set_cons_succ]
            refine wpAnyH_take (i := 4) (oi := ⟨some 45, _, _, _, _, _⟩) rfl (by kernel_rfl) (by kernel_rfl) (by kernel_rfl) (fun _ _ _ h => h) (yieldsIf_load_mid (by rfl) _ _ rfl _ _ rfl _ _ (fun w hw => by (try dsimp only at hw); go_split_ands; assumption) (by assumption) rfl (by assumption)) (by assumption) ?_
            try simp only [Act.put, List.setIfInBounds_toArray, List.set_cons_zero, List.set_cons_succ]
            refine wpAnyH_take (i := 5) (oi := ⟨some 46, _, _, _, _, _⟩) rfl (by kernel_rfl) (by kernel_rfl) (by kernel_rfl) (fun _ _ _ h => h) (Or.inl ⟨by rfl, fun w hw => by ((try dsimp only at hw); go_split_ands; go_simp; with_reducible rfl)⟩) (by assumption) ?_
            try simp only [Act.put, List.setIfInBounds_toArray, List.set_cons_zero, List.set_cons_succ]
            refine wpAnyH_take (i := 6) (oi := ⟨some 47, _, _, _, _, _⟩) rfl (by kernel_rfl) (by kernel_rfl) (by kernel_rfl) (fun _ _ _ h => h) (Or.inl ⟨by rfl, fun w hw => by ((try dsimp only at hw); go_split_ands; go_simp; with_reducible rfl)⟩) (by assumption) ?_
            try simp only [Act.put, List.setIfInBounds_toArray, List.set_cons_zero, List.set_cons_succ]
            refine wpAnyH_take (i := 7) (oi := ⟨some 48, _, _, _, _, _⟩) rfl (by kernel_rfl) (by kernel_rfl) (by kernel_rfl) (fun _ _ _ h => h) (Or.inl ⟨by rfl, fun w hw => by ((try dsimp only at hw); go_split_ands; go_simp; with_reducible rfl)⟩) (by assumption) ?_
            try simp only [Act.put, List.setIfInBounds_toArray, List.set_cons_zero, List.set_cons_succ]
            refine wpAnyH_take (i := 8) (oi := ⟨some 49, _, _, _, _, _⟩) rfl (by kernel_rfl) (by kernel_rfl) (by kernel_rfl) (fun _ _ _ h => h) (Or.inl ⟨by rfl, fun w hw => by ((try dsimp only at hw); go_split_ands; go_simp; with_reducible rfl)⟩) (by assumption) ?_
            try simp only [Act.put, List.setIfInBounds_toArray, List.set_cons_zero, List.set_cons_succ]
            refine wpAnyH_take (i := 9) (oi := ⟨some 50, _, _, _, _, _⟩) rfl (by kernel_rfl) (by kernel_rfl) (by kernel_rfl) (fun _ _ _ h => h) (Or.inl ⟨by rfl, fun w hw => by ((try dsimp only at hw); go_split_ands; go_simp; with_reducible rfl)⟩) (by assumption) ?_
            try simp only [Act.put, List.setIfInBounds_toArray, List.set_cons_zero, List.set_cons_succ]
            refine wpAnyH_take (i := 10) (oi := ⟨some 51, _, _, _, _, _⟩) rfl (by kernel_rfl) (by kernel_rfl) (by kernel_rfl) (fun _ _ _ h => h) (yieldsIf_load_mid (by rfl) _ _ rfl _ _ rfl _ _ (fun w hw => by (try dsimp only at hw); go_split_ands; assumption) (by assumption) rfl (by assumption)) (by assumption) ?_
            try simp only [Act.put, List.setIfInBounds_toArray, List.set_cons_zero, List.set_cons_succ]
            refine wpAnyH_ready (rs := [11]) (by kernel_rfl) (by simp) ?_
            refine AllReadyH.cons rfl (fun K hK => ?_) (AllReadyH.nil)
            go_simp
            refine hK.out _ _ hH (fun hH2 => ?_)
            clear hK hH
            refine wpAnyH_done (by kernel_rfl) ?_ _
            change KK _ _
            refine HKK.out _ _ ?_
            clear hH2 hu hsz hsz2 hek hpm
            by_cases hxy : x = y
            · have HE := Lib.hid (HNX.out hxy)
              rw [decide_eq_true hxy]
              go_wp2_with fail
              go_ret
              exact ⟨by rw [HE.out]; rfl, by rw [← HW3.out]; exact drewN_below (drewN_below HB2.out q) 1⟩
            · have HE := Lib.hid (HNY.out hxy)
              rw [decide_eq_false hxy]
              go_wp2_with fail
              go_roundw
              case rel => exact ⟨m + 1, q + 1, by omega, by omega, by go_num, (by show _ = _; rw [show min (m + 1) k = m + 1 by omega]; exact HE.out), by rw [← HW3.out]; rfl⟩
              case measure => simp [intOf]; omega
          · have hml' : ¬ (m : Int) < k := by omega
            have HE : Hid (wrongN X k most = 0) := by
              show _ = _
              have h1 : adjS (lst Z k) k = false := by have := HA.out; rwa [show min m k = k by omega] at this
              unfold wrongN
              rw [if_pos HH.out, if_neg (fun h => by rw [HD.out.2 h] at h1; cases h1)]
            go_wp2_with fail
            go_ret
            exact ⟨by rw [HE.out]; rfl, drewN_below HB2.out q⟩
end Go.Proofs.YtfnlhfaihoojfaaDoor
