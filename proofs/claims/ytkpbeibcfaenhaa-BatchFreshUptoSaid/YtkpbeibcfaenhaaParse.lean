/- batch.Parse. -/
import Derived.Test.YtkpbeibcfaenhaaTake
import Derived.OwnWalk
namespace Go.Proofs.Ytkpbeibcfaenhaa
open Go.RowKit
/-- What is left behind k changes. -/
def restK (r : List Nat) : Nat → List Nat
  | 0 => r
  | k + 1 => takeR (restK r k)
/-- The number of the first change that is not taken; -1: there is none. -/
def failK (r : List Nat) : Nat → Int
  | 0 => -1
  | k + 1 => if 0 ≤ failK r k then failK r k else if takeE (restK r k) = 0 then -1 else k
def parC (r : List Nat) (i : Nat) : Chg := takeC (restK r i)
theorem failK_neg {r : List Nat} {k : Nat} (h : failK r k < 0) : failK r k = -1 := by
  induction k with
  | zero => rfl
  | succ k ih =>
    rw [failK] at h ⊢
    split
    · rename_i h1
      rw [if_pos h1] at h
      omega
    · rename_i h1
      rw [if_neg h1] at h
      split
      · rfl
      · rename_i h2
        rw [if_neg h2] at h
        omega
theorem failK_next {r : List Nat} {k : Nat} (h : failK r k < 0) (he : takeE (restK r k) = 0) : failK r (k + 1) < 0 := by
  rw [failK, if_neg (by omega), if_pos he]
  decide
theorem failK_here {r : List Nat} {k : Nat} (h : failK r k < 0) (he : ¬ takeE (restK r k) = 0) : failK r (k + 1) = k := by
  rw [failK, if_neg (by omega), if_neg he]
theorem failK_keep {r : List Nat} {k n : Nat} (h : k ≤ n) (h0 : 0 ≤ failK r k) : failK r n = failK r k := by
  induction n with
  | zero => rw [show k = 0 by omega]
  | succ n ih =>
    by_cases e : k = n + 1
    · rw [e]
    · rw [failK, ih (by omega), if_pos h0]
/-- The error and the place. -/
def parseE (raw : List Nat) : Nat × Int :=
  if raw.length < 2 then (30, 0) else if 64 < numN raw then (31, 0) else
    if 0 ≤ failK (raw.drop 2) (numN raw) then (takeE (restK (raw.drop 2) (failK (raw.drop 2) (numN raw)).toNat), failK (raw.drop 2) (numN raw)) else
      if 0 < (restK (raw.drop 2) (numN raw)).length then (30, numN raw) else if 0 ≤ repN (parC (raw.drop 2)) (numN raw) then (33, repN (parC (raw.drop 2)) (numN raw)) else (0, 0)
def ParsePost (raw : List Nat) (w : World) (e : Ending) (w' : World) : Prop :=
  ∃ v, e = .returned (.tuple #[v, .int .i64 (parseE raw).2, .int .i64 ((parseE raw).1 : Nat)]) ∧ Below w.heap.size w w' ∧ (¬ (parseE raw).1 = 0 → v = .slice none 0 0) ∧
    ((parseE raw).1 = 0 → ∃ Ad Cp, ChsOwn w' w.heap.size v (numN raw) (parC (raw.drop 2)) Ad Cp)
theorem tmp3_ret {fn : Func} {p u q : Tmp} {R : Ending → World → Prop} {x : Act} {w : World} {v z y : Value} (h : fn.results = #[.tmp p, .tmp u, .tmp q]) (hp : x.tmps.getD p undef = v) (hu : x.tmps.getD u undef = z) (hq : x.tmps.getD q undef = y) (hd : x.defers = [])
    (hR : R (.returned (.tuple #[v, z, y])) w) : bodyPost Try.prog fn R .ret x w := by
  refine bodyPost_ret (v := .tuple #[v, z, y]) ?_ hd hR
  simp only [results, h]
  simp
  exact ⟨by simpa using hp, by simpa using hu, by simpa using hq⟩
theorem takeE_pos {xs : List Nat} : takeE xs = 0 ∨ takeE xs = 30 ∨ takeE xs = 32 := by
  unfold takeE
  split
  · exact .inr (.inl rfl)
  · split
    · exact .inl rfl
    · split
      · split
        · exact .inr (.inl rfl)
        · split
          · exact .inr (.inr rfl)
          · split
            · exact .inr (.inl rfl)
            · exact .inl rfl
      · exact .inr (.inl rfl)
theorem takeC_key {xs : List Nat} (h : takeE xs = 0) (hB : IsB xs) : IsB (takeC xs).key ∧ (takeC xs).key.length = 32 := by
  have hl : 33 ≤ xs.length := by
    unfold takeE at h
    split at h
    · cases h
    · omega
  have hk : (takeC xs).key = (xs.drop 1).take 32 := by unfold takeC; split <;> rfl
  rw [hk]
  exact ⟨(hB.drop 1).take 32, by rw [List.length_take, List.length_drop]; omega⟩
set_option maxRecDepth 100000 in
set_option maxHeartbeats 4000000 in
theorem parse_any (A : Option Addr) (n c : Nat) (xs : List Nat) (w : World) (hx : RB w A n xs) (hnc : n ≤ c) :
    Calls Try.prog 23 #[.slice A n c] w (ParsePost xs w) := by
  have HX := Lib.hid hx
  have HLX := Lib.hid hx.1
  by_cases h2 : n < 2
  · have HE : Hid (parseE xs = (30, 0)) := by show _ = _; unfold parseE; rw [if_pos (by rw [HLX.out]; exact h2)]
    have h2' : (n : Int) < 2 := by omega
    clear hx
    go_enter Try.func23, Try.ntmps23
    go_wp2_with fail
    refine tmp3_ret rfl rfl rfl rfl rfl ?_
    exact ⟨_, by rw [HE.out]; rfl, Below.refl _ _, fun _ => rfl, fun h => by rw [HE.out] at h; cases h⟩
  · have h2' : ¬ (n : Int) < 2 := by omega
    obtain ⟨ad, rfl, hb, hc0⟩ := hx.at_ (k := 0) (by omega)
    obtain ⟨ad', e', _, hc1⟩ := hx.at_ (k := 1) (by omega)
    injection e' with e'
    subst e'
    rw [show ad.add 0 = ad by simp [Addr.add]] at hc0
    have hc1b : w.cell? ⟨ad.block, ad.off + 1, none⟩ = some (.int .u8 ((xs.getD 1 0 : Nat) : Int)) := hc1
    have hy0 := hx.lt (k := 0) (by omega)
    have hy1 := hx.lt (k := 1) (by omega)
    have HNM : Hid (numN xs = xs.getD 0 0 + 256 * xs.getD 1 0) := rfl
    have hor := or16 (xs.getD 0 0) (xs.getD 1 0) hy0 hy1
    have hn2 : (1 : Int) < n := by omega
    have hn3 : (0 : Int) < n := by omega
    have hn4 : 1 < n := by omega
    have hn5 : 0 < n := by omega
    clear hx hc1
    generalize xs.getD 0 0 = y0 at *
    generalize xs.getD 1 0 = y1 at *
    go_enter Try.func23, Try.ntmps23
    go_wp2_with fail
    go_quiet (fail)
    have HB1 : Hid (Below w.heap.size w (w.drewN nq)) := drewN_below (Below.refl _ _) nq
    generalize w.drewN nq = w1 at *
    obtain ⟨num, hnum⟩ : ∃ num, numN xs = num := ⟨_, rfl⟩
    have HNU := Lib.hid hnum
    have hni : (y0 : Int) + 256 * (y1 : Int) = (num : Int) := by have := HNM.out; omega
    rw [hni]
    have HEV : Hid (parseE xs = if 64 < num then (31, 0) else if 0 ≤ failK (xs.drop 2) num then (takeE (restK (xs.drop 2) (failK (xs.drop 2) num).toNat), failK (xs.drop 2) num) else
      if 0 < (restK (xs.drop 2) num).length then (30, num) else if 0 ≤ repN (parC (xs.drop 2)) num then (33, repN (parC (xs.drop 2)) num) else (0, 0)) := by
      show _ = _
      unfold parseE
      rw [if_neg (by rw [HLX.out]; exact h2), hnum]
    clear hc0 hc1b hor hnum
    by_cases hbig : 64 < num
    · have HE : Hid (parseE xs = (31, 0)) := by show _ = _; rw [HEV.out, if_pos hbig]
      have hbig' : (64 : Int) < (num : Int) := by omega
      go_wp2_with fail
      refine tmp3_ret rfl rfl rfl rfl rfl ?_
      exact ⟨_, by rw [HE.out]; rfl, HB1.out, fun _ => rfl, fun h => by rw [HE.out] at h; cases h⟩
    · have hbig' : ¬ (64 : Int) < (num : Int) := by omega
      obtain ⟨i, hi, hz, hs, hby⟩ := info_parts info_chg3
      have hib : i.bytes * num ≤ 281474976710656 := by rw [hby]; omega
      have hbk : ad.block < w.heap.size := hb
      go_wp2_with (first
        | ((with_reducible refine stopAt (o := ⟨some 29, _, _, _, _, _⟩) ?_); refine sliceFrom (o := ⟨some 29, _, _, _, _, _⟩) (by rfl) 31 (.tmp 28) (.const (.int .i64 2)) rfl (by kernel_rfl) (by kernel_rfl) (some ad) n c 2 rfl rfl (by omega) hnc ?_; intro B1 HF1)
        | ((with_reducible refine stopAt (o := ⟨some 31, _, _, _, _, _⟩) ?_); refine wpList_make_own w1 (o := ⟨some 31, _, _, _, _, _⟩) rfl (.const (.int .i64 0)) (.tmp 30) 30 rfl w.heap.size 45 i _ 34 und_chl hi hz hs .i64 .i64 _ num rfl rfl rfl hib (by unfold maxLen; omega) HB1.out.size ?_; intro w2 ho2 hg2; have HO2 := Lib.hid ho2; have HB2 : Hid (Below w.heap.size w w2) := HB1.out.grown hg2 HB1.out.size (fun k hk => by cases hk); clear ho2 hg2))
      have HR2 : Hid (RB w2 B1 (n - 2) (restK (xs.drop 2) 0)) := (HX.out.below HB2.out).drop (k := 2) (by omega) HF1.out.1
      have HBk2 : Hid (∀ ad', B1 = some ad' → ad'.block < w.heap.size) := fun ad' e => by
        obtain ⟨a2, e1, e2⟩ := HF1.out.2.1 ad' e
        injection e1 with e1
        rw [← e2, ← e1]
        exact hbk
      have hmd2 : n - 2 ≤ c - 2 := by omega
      obtain ⟨r0, hr0⟩ : ∃ r0, xs.drop 2 = r0 := ⟨_, rfl⟩
      have HR0 := Lib.hid hr0
      rw [hr0] at HEV HR2
      have HC2 : Hid (ChsOwn w2 w.heap.size (.slice (some ⟨w1.heap.size, 0, none⟩) 0 num) 0 (parC r0) (fun _ => none) (fun _ => 0)) := { own := HO2.out, key := fun i hi => by omega, val := fun i hi => by omega, apart := fun i hi => by omega }
      clear HF1 HO2 hi hz hs hby hib hr0 hb hbk HB1 hnc
      go_loopw [6, 7, 33] (fun r v i wr => ∃ (k : Nat) (B : Option Addr) (m d : Nat), k ≤ num ∧ i = .int .i64 k ∧ r = .slice B m d ∧ m ≤ d ∧ Hid (RB wr B m (restK r0 k)) ∧ Hid (∀ ad', B = some ad' → ad'.block < w.heap.size) ∧ (∃ Ad Cp, Hid (ChsOwn wr w.heap.size v k (parC r0) Ad Cp)) ∧ Hid (failK r0 k < 0) ∧ Hid (Below w.heap.size w wr)) (fun _ _ i _ => num - (intOf i).toNat)
      case atStart => exact ⟨0, B1, n - 2, c - 2, by omega, rfl, rfl, hmd2, HR2.out, HBk2.out, ⟨_, _, HC2.out⟩, (show (-1 : Int) < 0 by decide), HB2.out⟩
      case round =>
        clear HR2 HBk2 HC2 HB2 hmd2
        obtain ⟨k, B, m, d, hk, rfl, rfl, hmd, HR, HBk, ⟨Ad, Cp, HO⟩, HF, HB⟩ := hrel
        obtain ⟨w3, rfl⟩ : ∃ w3, w3 = wr := ⟨_, rfl⟩
        by_cases hlt : k < num
        · have hlt' : (k : Int) < num := by omega
          go_wp2_with fail
          refine (take_any B m d (restK r0 k) w3 HR.out hmd).mono ?_
          rintro e w4 ⟨cs, B4, m4, d4, rfl, hb4, hcl, hone, hok⟩
          have HB4 := Lib.hid (HB.out.trans (hb4.mono HB.out.size))
          have HONE := Lib.hid hone
          have HCL := Lib.hid hcl
          by_cases h0 : takeE (restK r0 k) = 0
          · have HFn := Lib.hid (failK_next HF.out h0)
            obtain ⟨Av, Cv, hcs, hr, hle, hcm, hnil, hlo, hrest, hmd4, _, hblk⟩ := hok h0
            have HO4 := Lib.hid (HO.out.later hb4)
            have HK4 := Lib.hid (takeC_key h0 HR.out.isB)
            have HV4 := Lib.hid (show RB w4 Av (parC r0 k).val.length (parC r0 k).val ∧ (parC r0 k).val.length ≤ Cv ∧ Cv ≤ maxLen ∧ (Av = none → Cv = 0) from ⟨hr, hle, hcm, hnil⟩)
            have HAP : Hid (0 < (parC r0 k).val.length → ∀ ad, Av = some ad → some ad.block ≠ u7.ownBlock) := fun _ ad e he => by
              have q1 := hlo ad e
              have q2 := (HO.out.own.lt _ he.symm).2
              omega
            have HCS := Lib.hid hcs
            have HRS := Lib.hid hrest
            have HBk4 : Hid (∀ ad', B4 = some ad' → ad'.block < w.heap.size) := fun ad' e => by
              obtain ⟨a2, e1, e2⟩ := hblk ad' e
              rw [← e2]
              exact HBk.out a2 e1
            rw [h0]
            clear hr hle hcm hnil hlo hrest hblk hok hb4 hone hcl hcs h0
            go_wp2_with (first
              | ((with_reducible refine stopAt (o := ⟨some 9, _, _, _, _, _⟩) ?_); refine allocNew (o := ⟨some 9, _, _, _, _, _⟩) (by rfl) 45 rfl _ _ info_chS ?_; intro w5 HA5 HW5 HS5)
              | ((with_reducible refine stopAt (o := ⟨none, .store _ (.tmp 9) _, _, _, _, _⟩) ?_); refine storeV (o := ⟨none, _, _, _, _, _⟩) (by rfl) 45 (.tmp 9) (.tmp 39) rfl w4.heap.size cs _ 45 rfl rfl HA5.out (by rw [size_chg, HCL.out]) (by rw [HCL.out]; rfl) HONE.out ?_; intro w6 HA6 HG6 HS6; have HW6 : Hid (Below w4.heap.size w4 w6) := HW5.out.grown HG6.out HW5.out.size (fun k hk => by injection hk with hk; omega); have HO6 := Lib.hid (HO4.out.later HW6.out); have HB6 := Lib.hid (HB4.out.trans (HW6.out.mono HB4.out.size)))
              | ((with_reducible refine stopAt (o := ⟨some 47, _, _, _, _, _⟩) ?_); refine loadRange (o := ⟨some 47, _, _, _, _, _⟩) (by rfl) 45 (.tmp 9) rfl w4.heap.size 0 cs rfl (BlkIs.range HA6.out) row_chg (by rw [size_chg, HCL.out]) ?_)
              | ((with_reducible refine stopAt (o := ⟨some 48, _, _, _, _, _⟩) ?_); refine buildSlice1 (o := ⟨some 48, _, _, _, _, _⟩) rfl w6 30 45 _ 34 (.tmp 47) rfl und_chl info_chg (by decide) (by decide) cs.toArray rfl (by rw [List.size_toArray, HCL.out]) ?_)
              | ((with_reducible refine stopAt (o := ⟨some 49, _, _, _, _, _⟩) ?_); refine append1C (o := ⟨some 49, _, _, _, _, _⟩) und_chl info_chg3 rfl w6 rfl (.tmp 46) (.tmp 48) rfl w.heap.size u7 k _ HO6.out.own cs HCL.out HONE.out rfl rfl (by omega) (by omega) HB6.out.size ?_; intro v7 w7 ho7 hg7 hl7; have HO7 := Lib.hid (HO6.out.more HK4.out ⟨HV4.out.1.below HW6.out, HV4.out.2⟩ HAP.out (HCS.out ▸ ho7) hg7 hl7); have HB7 : Hid (Below w.heap.size w w7) := HB6.out.grown hg7 HB6.out.size HO6.out.ge; have HRS7 : Hid (RB w7 B4 m4 (restK r0 (k + 1))) := (HRS.out.below HW6.out).grownBy hg7 (fun _ ad e he => by have q1 := HBk4.out ad e; have q2 := HO6.out.ge _ he.symm; omega); clear ho7 hg7 hl7))
            go_roundw
            case rel => exact ⟨k + 1, B4, m4, d4, by omega, by go_num, rfl, hmd4, HRS7.out, HBk4.out, ⟨_, _, by
              show ChsOwn _ _ _ _ _ _ _
              have h := HO7.out
              rwa [show takeC (restK r0 k) = parC r0 k from rfl, upd_self] at h⟩, HFn.out, HB7.out⟩
            case measure => simp [intOf]; omega
          · have hfk : failK r0 num = k := by
              have h := failK_here HF.out h0
              rw [failK_keep (show k + 1 ≤ num by omega) (by rw [h]; omega), h]
            have HE : Hid (parseE xs = (takeE (restK r0 k), (k : Int))) := by show _ = _; rw [HEV.out, if_neg hbig, hfk, if_pos (by omega), Int.toNat_natCast]
            have hz1 : ((takeE (restK r0 k) : Nat) : Int) ≠ 0 := by omega
            have hz2 : (((takeE (restK r0 k) : Nat) : Int) != 0) = true := by rw [bne_iff_ne]; exact hz1
            have HZ : Hid (¬ takeE (restK r0 k) = 0) := h0
            clear hok hb4 hone hcl h0 hfk
            generalize takeE (restK r0 k) = z at *
            go_wp2_with (first
              | ((with_reducible refine stopAt (o := ⟨some 9, _, _, _, _, _⟩) ?_); refine allocNew (o := ⟨some 9, _, _, _, _, _⟩) (by rfl) 45 rfl _ _ info_chS ?_; intro w5 HA5 HW5 HS5)
              | ((with_reducible refine stopAt (o := ⟨none, .store _ (.tmp 9) _, _, _, _, _⟩) ?_); refine storeV (o := ⟨none, _, _, _, _, _⟩) (by rfl) 45 (.tmp 9) (.tmp 39) rfl w4.heap.size cs _ 45 rfl rfl HA5.out (by rw [size_chg, HCL.out]) (by rw [HCL.out]; rfl) HONE.out ?_; intro w6 HA6 HG6 HS6; have HW6 : Hid (Below w4.heap.size w4 w6) := HW5.out.grown HG6.out HW5.out.size (fun k hk => by injection hk with hk; omega); have HB6 := Lib.hid (HB4.out.trans (HW6.out.mono HB4.out.size))))
            refine tmp3_ret rfl rfl rfl rfl rfl ?_
            exact ⟨_, by rw [HE.out]; rfl, HB6.out, fun _ => rfl, fun h => by rw [HE.out] at h; exact absurd h HZ.out⟩
        · have hnlt : ¬ (k : Int) < num := by omega
          obtain rfl : k = num := by omega
          have hm := HR.out.1
          have HFN := HF.out
          by_cases hm0 : 0 < m
          · have HE : Hid (parseE xs = (30, (k : Int))) := by show _ = _; rw [HEV.out, if_neg hbig, if_neg (by omega), if_pos (by omega)]
            have hm1 : (0 : Int) < (m : Int) := by omega
            clear HFN hm
            go_wp2_with fail
            refine tmp3_ret rfl rfl rfl rfl rfl ?_
            exact ⟨_, by rw [HE.out]; rfl, HB.out, fun _ => rfl, fun h => by rw [HE.out] at h; cases h⟩
          · have hm1 : ¬ (0 : Int) < (m : Int) := by omega
            have HEV2 : Hid (parseE xs = if 0 ≤ repN (parC r0) k then (33, repN (parC r0) k) else (0, 0)) := by show _ = _; rw [HEV.out, if_neg hbig, if_neg (by omega), if_neg (by omega)]
            obtain ⟨Av, Cv, hv, hch, _⟩ := HO.out.form
            subst hv
            have HCH := Lib.hid hch
            clear HFN hm hch
            go_wp2_with fail
            refine (repeated_any Av k Cv (parC r0) w3 HCH.out).mono ?_
            rintro e w4 ⟨rfl, q, hq⟩
            have HO4 : Hid (ChsOwn w4 w.heap.size (.slice Av k Cv) k (parC r0) Ad Cp) := by rw [hq]; exact HO.out.later (drewN_below (Below.refl _ _) q)
            have HB4 : Hid (Below w.heap.size w w4) := by rw [hq]; exact drewN_below HB.out q
            clear hq
            by_cases hr : 0 ≤ repN (parC r0) k
            · have HE : Hid (parseE xs = (33, repN (parC r0) k)) := by show _ = _; rw [HEV2.out, if_pos hr]
              generalize repN (parC r0) k = z at *
              go_wp2_with fail
              refine tmp3_ret rfl rfl rfl rfl rfl ?_
              exact ⟨_, by rw [HE.out]; rfl, HB4.out, fun _ => rfl, fun h => by rw [HE.out] at h; cases h⟩
            · have HE : Hid (parseE xs = (0, 0)) := by show _ = _; rw [HEV2.out, if_neg hr]
              generalize repN (parC r0) k = z at *
              go_wp2_with fail
              refine tmp3_ret rfl rfl rfl rfl rfl ?_
              exact ⟨_, by rw [HE.out]; rfl, HB4.out, fun h => absurd (by rw [HE.out]) h, fun _ => ⟨Ad, Cp, by rw [HNU.out, HR0.out]; exact HO4.out⟩⟩
end Go.Proofs.Ytkpbeibcfaenhaa
