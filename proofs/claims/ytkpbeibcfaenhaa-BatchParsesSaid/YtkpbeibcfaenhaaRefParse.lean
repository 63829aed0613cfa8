/- ledgerref3.Parse. -/
import Derived.Test.YtkpbeibcfaenhaaRefOne2
import Derived.Test.YtkpbeibcfaenhaaTwiceR
namespace Go.Proofs.Ytkpbeibcfaenhaa
open Go.RowKit
theorem one_any (A : Option Addr) (n c pl : Nat) (xs : List Nat) (w : World) (hx : RB w A n xs) (hnc : n ≤ c) (hn : n ≤ 140737488355328) (hp : pl ≤ n) :
    Calls Try.prog 92 #[.slice A n c, .int .i64 (pl : Int)] w (OnePost xs pl w) := by
  by_cases h : n ≤ pl ∨ (¬ xs.getD pl 0 = 1 ∧ ¬ xs.getD pl 0 = 2) ∨ n < pl + 33
  · exact one_short A n c pl xs w hx hn hp h
  · refine one_known A n c pl xs w hx hnc hn (by omega) (by omega)
set_option maxRecDepth 100000 in
set_option maxHeartbeats 4000000 in
theorem refparse_any (A : Option Addr) (n c : Nat) (xs : List Nat) (w : World) (hx : RB w A n xs) (hnc : n ≤ c) (hn : n ≤ 140737488355328) :
    Calls Try.prog 83 #[.slice A n c] w (ParsePost xs w) := by
  have HX := Lib.hid hx
  have HLX := Lib.hid hx.1
  by_cases h2 : n < 2
  · have HE : Hid (parseE xs = (30, 0)) := by show _ = _; unfold parseE; rw [if_pos (by rw [HLX.out]; exact h2)]
    have h2' : (n : Int) < 2 := by omega
    clear hx
    go_enter Try.func83, Try.ntmps83
    go_wp2_with fail
    refine tmp3_ret rfl rfl rfl rfl rfl ?_
    exact ⟨_, by rw [HE.out]; rfl, Below.refl _ _, fun _ => rfl, fun h => by rw [HE.out] at h; cases h⟩
  · have h2' : ¬ (n : Int) < 2 := by omega
    obtain ⟨ad, rfl, hb, hc0⟩ := hx.at_ (k := 0) (by omega)
    obtain ⟨ad', e', _, hc1⟩ := hx.at_ (k := 1) (by omega)
    injection e' with e'
    subst e'
    rw [show ad.add 0 = ad by simp [Addr.add]] at hc0
    have hc1b : w.cell? ⟨ad.block, ad.off + 1, none⟩ = some (.int .u8 ((xs.getD 1 0 : Nat) : Int)) := hc1
    have hy0 := hx.lt (k := 0) (by omega)
    have hy1 := hx.lt (k := 1) (by omega)
    have HNM : Hid (numN xs = xs.getD 0 0 + 256 * xs.getD 1 0) := rfl
    have hn2 : (1 : Int) < n := by omega
    have hn3 : (0 : Int) < n := by omega
    have hn4 : 1 < n := by omega
    have hn5 : 0 < n := by omega
    clear hx hc1
    generalize xs.getD 0 0 = y0 at *
    generalize xs.getD 1 0 = y1 at *
    go_enter Try.func83, Try.ntmps83
    go_wp2_with fail
    go_quiet (fail)
    have HB1 : Hid (Below w.heap.size w (w.drewN nq)) := drewN_below (Below.refl _ _) nq
    generalize w.drewN nq = w1 at *
    obtain ⟨num, hnum⟩ : ∃ num, numN xs = num := ⟨_, rfl⟩
    have HNU := Lib.hid hnum
    have hni : (y0 : Int) + 256 * (y1 : Int) = (num : Int) := by have := HNM.out; omega
    rw [hni]
    have HEV : Hid (parseE xs = if 64 < num then (31, 0) else if 0 ≤ failK (xs.drop 2) num then (takeE (restK (xs.drop 2) (failK (xs.drop 2) num).toNat), failK (xs.drop 2) num) else
      if 0 < (restK (xs.drop 2) num).length then (30, num) else if 0 ≤ repN (parC (xs.drop 2)) num then (33, repN (parC (xs.drop 2)) num) else (0, 0)) := by
      show _ = _
      unfold parseE
      rw [if_neg (by rw [HLX.out]; exact h2), hnum]
    clear hc0 hc1b hnum
    by_cases hbig : 64 < num
    · have HE : Hid (parseE xs = (31, 0)) := by show _ = _; rw [HEV.out, if_pos hbig]
      have hbig' : (64 : Int) < (num : Int) := by omega
      go_wp2_with fail
      refine tmp3_ret rfl rfl rfl rfl rfl ?_
      exact ⟨_, by rw [HE.out]; rfl, HB1.out, fun _ => rfl, fun h => by rw [HE.out] at h; cases h⟩
    · have hbig' : ¬ (64 : Int) < (num : Int) := by omega
      go_wp2_with fail
      obtain ⟨r0, hr0⟩ : ∃ r0, xs.drop 2 = r0 := ⟨_, rfl⟩
      have HR0 := Lib.hid hr0
      rw [hr0] at HEV
      clear hr0 hb hni
      go_loopw [6, 7, 8] (fun v pv i wr => ∃ k p : Nat, k ≤ num ∧ p ≤ n ∧ i = .int .i64 k ∧ pv = .int .i64 (p : Int) ∧ Hid (xs.drop p = restK r0 k) ∧ (∃ Ad Cp, Hid (ChsOwn wr w.heap.size v k (parC r0) Ad Cp)) ∧ Hid (failK r0 k < 0) ∧ Hid (Below w.heap.size w wr)) (fun _ _ i _ => num - (intOf i).toNat)
      case atStart => exact ⟨0, 2, by omega, by omega, rfl, rfl, HR0.out, ⟨fun _ => none, fun _ => 0, ChsOwn.nil _ _ _ _ _⟩, (show (-1 : Int) < 0 by decide), HB1.out⟩
      case round =>
        clear HB1
        obtain ⟨k, p, hk, hpn, rfl, rfl, HP, ⟨Ad, Cp, HO⟩, HF, HB⟩ := hrel
        obtain ⟨w3, rfl⟩ : ∃ w3, w3 = wr := ⟨_, rfl⟩
        by_cases hlt : k < num
        · have hlt' : (k : Int) < num := by omega
          have HIB : Hid (IsB (restK r0 k)) := by rw [← HP.out]; exact HX.out.isB.drop p
          go_wp2_with fail
          refine (one_any (some ad) n c p xs w3 (HX.out.below HB.out) hnc hn hpn).mono ?_
          rintro e w4 ⟨cs, p4, rfl, hb4, hcl, hone, hok⟩
          rw [HP.out] at hok ⊢
          have HB4 := Lib.hid (HB.out.trans (hb4.mono HB.out.size))
          have HONE := Lib.hid hone
          have HCL := Lib.hid hcl
          by_cases h0 : takeE (restK r0 k) = 0
          · have HFn := Lib.hid (failK_next HF.out h0)
            obtain ⟨hp4, hrest, Av, Cv, hcs, hr, hle, hcm, hnil, hlo⟩ := hok h0
            rw [HLX.out] at hp4
            have HO4 := Lib.hid (HO.out.later hb4)
            have HK4 := Lib.hid (takeC_key h0 HIB.out)
            have HV4 := Lib.hid (show RB w4 Av (parC r0 k).val.length (parC r0 k).val ∧ (parC r0 k).val.length ≤ Cv ∧ Cv ≤ maxLen ∧ (Av = none → Cv = 0) from ⟨hr, hle, hcm, hnil⟩)
            have HAP : Hid (0 < (parC r0 k).val.length → ∀ ad, Av = some ad → some ad.block ≠ u6.ownBlock) := fun _ ad e he => by
              have q1 := hlo ad e
              have q2 := (HO.out.own.lt _ he.symm).2
              omega
            have HCS := Lib.hid hcs
            have HRS : Hid (xs.drop p4 = restK r0 (k + 1)) := hrest
            rw [h0]
            clear hr hle hcm hnil hlo hrest hok hb4 hone hcl hcs h0
            go_wp2_with (first
              | ((with_reducible refine stopAt (o := ⟨some 9, _, _, _, _, _⟩) ?_); refine allocNew (o := ⟨some 9, _, _, _, _, _⟩) (by rfl) 45 rfl _ _ info_chS ?_; intro w5 HA5 HW5 HS5)
              | ((with_reducible refine stopAt (o := ⟨none, .store _ (.tmp 9) _, _, _, _, _⟩) ?_); refine storeV (o := ⟨none, _, _, _, _, _⟩) (by rfl) 45 (.tmp 9) (.tmp 37) rfl w4.heap.size cs _ 45 rfl rfl HA5.out (by rw [size_chg, HCL.out]) (by rw [HCL.out]; rfl) HONE.out ?_; intro w6 HA6 HG6 HS6; have HW6 : Hid (Below w4.heap.size w4 w6) := HW5.out.grown HG6.out HW5.out.size (fun k hk => by injection hk with hk; omega); have HO6 := Lib.hid (HO4.out.later HW6.out); have HB6 := Lib.hid (HB4.out.trans (HW6.out.mono HB4.out.size)))
              | ((with_reducible refine stopAt (o := ⟨some 45, _, _, _, _, _⟩) ?_); refine loadRange (o := ⟨some 45, _, _, _, _, _⟩) (by rfl) 45 (.tmp 9) rfl w4.heap.size 0 cs rfl (BlkIs.range HA6.out) row_chg (by rw [size_chg, HCL.out]) ?_)
              | ((with_reducible refine stopAt (o := ⟨some 46, _, _, _, _, _⟩) ?_); refine buildSlice1 (o := ⟨some 46, _, _, _, _, _⟩) rfl w6 30 45 _ 34 (.tmp 45) rfl und_chl info_chg (by decide) (by decide) cs.toArray rfl (by rw [List.size_toArray, HCL.out]) ?_)
              | ((with_reducible refine stopAt (o := ⟨some 47, _, _, _, _, _⟩) ?_); refine append1C (o := ⟨some 47, _, _, _, _, _⟩) und_chl info_chg3 rfl w6 rfl (.tmp 44) (.tmp 46) rfl w.heap.size u6 k _ HO6.out.own cs HCL.out HONE.out rfl rfl (by omega) (by omega) HB6.out.size ?_; intro v7 w7 ho7 hg7 hl7; have HO7 := Lib.hid (HO6.out.more HK4.out ⟨HV4.out.1.below HW6.out, HV4.out.2⟩ HAP.out (HCS.out ▸ ho7) hg7 hl7); have HB7 : Hid (Below w.heap.size w w7) := HB6.out.grown hg7 HB6.out.size HO6.out.ge; clear ho7 hg7 hl7))
            go_roundw
            case rel => exact ⟨k + 1, p4, by omega, hp4, by go_num, rfl, HRS.out, ⟨_, _, by
              show ChsOwn _ _ _ _ _ _ _
              have h := HO7.out
              rwa [show takeC (restK r0 k) = parC r0 k from rfl, upd_self] at h⟩, HFn.out, HB7.out⟩
            case measure => simp [intOf]; omega
          · have hfk : failK r0 num = k := by
              have h := failK_here HF.out h0
              rw [failK_keep (show k + 1 ≤ num by omega) (by rw [h]; omega), h]
            have HE : Hid (parseE xs = (takeE (restK r0 k), (k : Int))) := by show _ = _; rw [HEV.out, if_neg hbig, hfk, if_pos (by omega), Int.toNat_natCast]
            have hz1 : ((takeE (restK r0 k) : Nat) : Int) ≠ 0 := by omega
            have hz2 : (((takeE (restK r0 k) : Nat) : Int) != 0) = true := by rw [bne_iff_ne]; exact hz1
            have HZ : Hid (¬ takeE (restK r0 k) = 0) := h0
            clear hok hb4 hone hcl h0 hfk
            generalize takeE (restK r0 k) = z at *
            go_wp2_with (first
              | ((with_reducible refine stopAt (o := ⟨some 9, _, _, _, _, _⟩) ?_); refine allocNew (o := ⟨some 9, _, _, _, _, _⟩) (by rfl) 45 rfl _ _ info_chS ?_; intro w5 HA5 HW5 HS5)
              | ((with_reducible refine stopAt (o := ⟨none, .store _ (.tmp 9) _, _, _, _, _⟩) ?_); refine storeV (o := ⟨none, _, _, _, _, _⟩) (by rfl) 45 (.tmp 9) (.tmp 37) rfl w4.heap.size cs _ 45 rfl rfl HA5.out (by rw [size_chg, HCL.out]) (by rw [HCL.out]; rfl) HONE.out ?_; intro w6 HA6 HG6 HS6; have HW6 : Hid (Below w4.heap.size w4 w6) := HW5.out.grown HG6.out HW5.out.size (fun k hk => by injection hk with hk; omega); have HB6 := Lib.hid (HB4.out.trans (HW6.out.mono HB4.out.size))))
            refine tmp3_ret rfl rfl rfl rfl rfl ?_
            exact ⟨_, by rw [HE.out]; rfl, HB6.out, fun _ => rfl, fun h => by rw [HE.out] at h; exact absurd h HZ.out⟩
        · have hnlt : ¬ (k : Int) < num := by omega
          obtain rfl : k = num := by omega
          have HLP : Hid ((restK r0 k).length = n - p) := by show _ = _; rw [← HP.out, List.length_drop, HLX.out]
          have HFN := HF.out
          have HLPo := HLP.out
          by_cases hm0 : p < n
          · have HE : Hid (parseE xs = (30, (k : Int))) := by show _ = _; rw [HEV.out, if_neg hbig, if_neg (by omega), if_pos (by omega)]
            have hm1 : ((p : Int) != (n : Int)) = true := by rw [bne_iff_ne]; omega
            clear HFN HLPo
            go_wp2_with fail
            refine tmp3_ret rfl rfl rfl rfl rfl ?_
            exact ⟨_, by rw [HE.out]; rfl, HB.out, fun _ => rfl, fun h => by rw [HE.out] at h; cases h⟩
          · have hm1 : ((p : Int) != (n : Int)) = false := by rw [show p = n by omega]; simp
            have HEV2 : Hid (parseE xs = if 0 ≤ repN (parC r0) k then (33, repN (parC r0) k) else (0, 0)) := by show _ = _; rw [HEV.out, if_neg hbig, if_neg (by omega), if_neg (by omega)]
            obtain ⟨Av, Cv, hv, hch, _⟩ := HO.out.form
            subst hv
            have HCH := Lib.hid hch
            clear HFN HLPo hch
            go_wp2_with fail
            refine (twice_any Av k Cv (parC r0) w3 HCH.out).mono ?_
            rintro e w4 ⟨rfl, q, hq⟩
            have HO4 : Hid (ChsOwn w4 w.heap.size (.slice Av k Cv) k (parC r0) Ad Cp) := by rw [hq]; exact HO.out.later (drewN_below (Below.refl _ _) q)
            have HB4 : Hid (Below w.heap.size w w4) := by rw [hq]; exact drewN_below HB.out q
            clear hq
            by_cases hr : 0 ≤ repN (parC r0) k
            · have HE : Hid (parseE xs = (33, repN (parC r0) k)) := by show _ = _; rw [HEV2.out, if_pos hr]
              generalize repN (parC r0) k = z at *
              go_wp2_with fail
              refine tmp3_ret rfl rfl rfl rfl rfl ?_
              exact ⟨_, by rw [HE.out]; rfl, HB4.out, fun _ => rfl, fun h => by rw [HE.out] at h; cases h⟩
            · have HE : Hid (parseE xs = (0, 0)) := by show _ = _; rw [HEV2.out, if_neg hr]
              generalize repN (parC r0) k = z at *
              go_wp2_with fail
              refine tmp3_ret rfl rfl rfl rfl rfl ?_
              exact ⟨_, by rw [HE.out]; rfl, HB4.out, fun h => absurd (by rw [HE.out]) h, fun _ => ⟨Ad, Cp, by rw [HNU.out, HR0.out]; exact HO4.out⟩⟩
end Go.Proofs.Ytkpbeibcfaenhaa
