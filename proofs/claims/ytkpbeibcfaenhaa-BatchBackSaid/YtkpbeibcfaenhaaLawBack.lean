/- ledgerlaw3.BatchBack: the walk. (printed by gen_back.py) -/
import Derived.Test.YtkpbeibcfaenhaaBackN
import Derived.Test.YtkpbeibcfaenhaaSameC
namespace Go.Proofs.Ytkpbeibcfaenhaa
open Go.RowKit
set_option maxRecDepth 100000 in
set_option maxHeartbeats 4000000 in
theorem back_walk (A : Option Addr) (N c : Nat) (X : Nat → Chg) (B : Option Addr) (m d : Nat) (raw : List Nat) (w : World) (hx : ChsAt w A N X) (hN : N * 64 ≤ 140737488355328) (hv : ∀ k, k < N → (X k).val.length ≤ 140737488355328) (hb : RB w B m raw) (hm : m ≤ 140737488355328) :
    Calls Try.prog 5 #[.slice A N c, .slice B m d] w fun e w' => e = .returned (.bool true) ∧ Below w.heap.size w w' := by
  have HX : Hid (∀ W, Below w.heap.size w W → ChsAt W A N X) := fun W hW => hx.below hW
  have HRW : Hid (∀ W, Below w.heap.size w W → RB W B m raw) := fun W hW => hb.below hW
  have HRB := Lib.hid hb.isB
  have HLR : Hid (raw.length = m) := hb.1
  have HV := Lib.hid hv
  have HOK : Hid (rightB X N 64 = true → ∀ i, i < N → ChOk (X i)) := fun hr i hi => by
    obtain ⟨_, _, _, _, _, _, _, h4, h5, h6, _⟩ := hx.2 i hi
    exact ⟨h4, h5, h6.isB, anyLong_not (heldN_le (rightB_iff.1 hr).1).2 hi⟩
  clear hx hv hb
  go_enter Try.func5, Try.ntmps5
  go_wp2_with fail
  refine (copyChanges_any A N c X w (HX.out w (Below.refl _ _)) hN HV.out).mono ?_
  rintro e w1 ⟨v5, Ad5, Cp5, rfl, ho, hb⟩
  obtain ⟨A1, C1, hv5, hch, _⟩ := ho.form
  subst hv5
  have HB1 := Lib.hid hb
  have HC1 := Lib.hid hch
  clear ho hb hch
  go_wp2_with fail
  refine (build_any A1 N C1 X w1 HC1.out).mono ?_
  rintro e w2 ⟨v6, rfl, hb, hyes, hno⟩
  have HB2 := Lib.hid (HB1.out.trans (hb.mono HB1.out.size))
  clear hb
  have HYES := Lib.hid hyes
  have HNO := Lib.hid hno
  clear hyes hno
  generalize hbe : buildE X N = be at *
  have HBE := Lib.hid hbe
  clear hbe
  go_wp2_with fail
  refine (right_any A N c 64 X w2 (HX.out w2 HB2.out) (by omega)).mono ?_
  rintro e w3 ⟨rfl, q, hq⟩
  have HB3 : Hid (Below w.heap.size w w3) := by rw [hq]; exact drewN_below HB2.out q
  cases hr : rightB X N 64
  · have hbe : ¬ be = 0 := fun h => by
      have h1 := HBE.out
      rw [h] at h1
      have h2 : rightB X N 64 = true := rightB_iff.2 (by
        unfold buildE at h1
        split at h1
        · rename_i h3
          split at h1
          · cases h1
          · rename_i h4
            exact ⟨h3, by omega⟩
        · rename_i h3
          exact absurd h1 h3)
      rw [h2] at hr
      cases hr
    have hv6 := HNO.out hbe
    subst hv6
    have hz1 : ((be : Nat) : Int) ≠ 0 := by omega
    have hz2 : (((be : Nat) : Int) == 0) = false := by simpa using hz1
    obtain ⟨w5, hw5⟩ : ∃ w5, w5 = w3 := ⟨_, rfl⟩
    rw [← hw5] at HB3 ⊢
    have HB5 := HB3
    clear hw5 hq hr HB3 HYES HNO HBE HOK
    go_wp2_with fail
    refine (copyBytes_any B m d raw w5 (HRW.out w5 HB5.out) (by omega)).mono ?_
    rintro e w6 ⟨v10, rfl, ho, hb⟩
    obtain ⟨A10, C10, hv10, hr10, _, _, hle10⟩ := ho.form
    subst hv10
    have HB6 := Lib.hid (HB5.out.trans (hb.mono HB5.out.size))
    have HR10 := Lib.hid hr10
    clear ho hb hr10
    go_wp2_with fail
    refine (parse_any A10 raw.length C10 raw w6 HR10.out hle10).mono ?_
    rintro e w7 ⟨v11, rfl, hb, hno, hyes⟩
    have HB7 := Lib.hid (HB6.out.trans (hb.mono HB6.out.size))
    clear hb
    by_cases h0 : (parseE raw).1 = 0
    · obtain ⟨Ad, Cp, hown⟩ := hyes h0
      obtain ⟨hlay, hright⟩ := lay_parse h0 HRB.out
      have hp := (parse_ok h0).2.2.2.2.2
      obtain ⟨A11, C11, hv11, hch, _⟩ := hown.form
      subst hv11
      have HCH := Lib.hid hch
      have hE0 : buildE (parC (raw.drop 2)) (numN raw) = 0 := by
        have h := rightB_iff.1 hright
        unfold buildE
        rw [if_pos h.1, if_neg (by omega)]
      have HE0 := Lib.hid hE0
      have HRT := Lib.hid hright
      have HLY := Lib.hid hlay
      rw [hp]
      clear hno hyes hown hch h0 hright hlay hp hE0
      generalize numN raw = nn at *
      generalize parC (raw.drop 2) = XX at *
      go_wp2_with fail
      refine (build_any A11 nn C11 XX w7 HCH.out).mono ?_
      rintro e w8 ⟨v14, rfl, hb, hy, _⟩
      have ho := hy HE0.out
      rw [HLY.out] at ho
      rw [HE0.out]
      obtain ⟨A14, C14, hv14, hr14, _, _, hle14⟩ := ho.form
      subst hv14
      have HB8 := Lib.hid (HB7.out.trans (hb.mono HB7.out.size))
      have HR14 := Lib.hid hr14
      have HCH8 := Lib.hid (HCH.out.below hb)
      clear ho hb hy hr14
      go_wp2_with fail
      refine (sameBytes_true HR14.out (HRW.out w8 HB8.out) (by have := HLR.out; omega) rfl).mono ?_
      rintro e w9 ⟨rfl, q, hq⟩
      have HB9 : Hid (Below w.heap.size w w9) := by rw [hq]; exact drewN_below HB8.out q
      have HCH9 : Hid (ChsAt w9 A11 nn XX) := by rw [hq]; exact HCH8.out.below (drewN_below (Below.refl _ _) q)
      clear hq
      go_wp2_with fail
      refine (right_any A11 nn C11 64 XX w9 HCH9.out (by omega)).mono ?_
      rintro e w10 ⟨rfl, q, hq⟩
      have HB10 : Hid (Below w.heap.size w w10) := by rw [hq]; exact drewN_below HB9.out q
      rw [HRT.out]
      clear hq
      go_wp2_with fail
      go_ret
      exact ⟨rfl, HB10.out⟩
    · have hz1 : (((parseE raw).1 : Nat) : Int) ≠ 0 := by omega
      have hz2 : ((((parseE raw).1 : Nat) : Int) != 0) = true := by rw [bne_iff_ne]; exact hz1
      have hv := hno h0
      subst hv
      clear hno hyes h0
      generalize (parseE raw).1 = z at *
      generalize (parseE raw).2 = y at *
      go_wp2_with fail
      go_ret
      exact ⟨rfl, HB7.out⟩
  · have hok := HOK.out hr
    have hri := rightB_iff.1 hr
    have hn64 := (heldN_le hri.1).1
    have hbe : be = 0 := by
      rw [← HBE.out]
      unfold buildE
      rw [if_pos hri.1, if_neg (by omega)]
    have ho := HYES.out hbe
    subst hbe
    have ho3 : OwnU w3 w1.heap.size v6 (layN X N) := by rw [hq]; exact ho.below (drewN_below (Below.refl _ _) q)
    obtain ⟨A6, C6, hv6, hr6, _, _, hle6⟩ := ho3.form
    subst hv6
    have HR6 := Lib.hid hr6
    have HPL := Lib.hid (parse_lay hn64 hok hri.2)
    have HPC : Hid (∀ k, k < N → parC (layF X N) k = bareC (X k)) := fun k hk => parC_lay hok hk
    have HNL := Lib.hid (numN_lay (X := X) hn64)
    clear ho ho3 hr6 hq hr hok hri HYES HNO HBE HOK
    go_wp2_with fail
    refine (parse_any A6 (layN X N).length C6 (layN X N) w3 HR6.out hle6).mono ?_
    rintro e w4 ⟨v8, rfl, hb, _, hyes⟩
    have hy := hyes (by rw [HPL.out])
    rw [HNL.out, drop_lay] at hy
    obtain ⟨Ad8, Cp8, hown⟩ := hy
    obtain ⟨A8, C8, hv8, hch, _⟩ := hown.form
    subst hv8
    have HB4 := Lib.hid (HB3.out.trans (hb.mono HB3.out.size))
    have HC4 := Lib.hid hch
    rw [HPL.out]
    clear hb hyes hown hch
    go_wp2_with fail
    refine (bare_any A N c X w4 (HX.out w4 HB4.out) hN HV.out).mono ?_
    rintro e w4' ⟨v9, Ad9, Cp9, rfl, ho, hb⟩
    obtain ⟨A9, C9, hv9, hch, _⟩ := ho.form
    subst hv9
    have HB4' := Lib.hid (HB4.out.trans (hb.mono HB4.out.size))
    have HC9 := Lib.hid hch
    have HC4' := Lib.hid (HC4.out.below hb)
    clear ho hb hch
    go_wp2_with fail
    refine (sameC_true A8 A9 N C8 C9 _ _ w4' HC4'.out HC9.out HPC.out).mono ?_
    rintro e w5 ⟨rfl, q, hq⟩
    have HB5 : Hid (Below w.heap.size w w5) := by rw [hq]; exact drewN_below HB4'.out q
    clear hq
    go_wp2_with fail
    refine (copyBytes_any B m d raw w5 (HRW.out w5 HB5.out) (by omega)).mono ?_
    rintro e w6 ⟨v10, rfl, ho, hb⟩
    obtain ⟨A10, C10, hv10, hr10, _, _, hle10⟩ := ho.form
    subst hv10
    have HB6 := Lib.hid (HB5.out.trans (hb.mono HB5.out.size))
    have HR10 := Lib.hid hr10
    clear ho hb hr10
    go_wp2_with fail
    refine (parse_any A10 raw.length C10 raw w6 HR10.out hle10).mono ?_
    rintro e w7 ⟨v11, rfl, hb, hno, hyes⟩
    have HB7 := Lib.hid (HB6.out.trans (hb.mono HB6.out.size))
    clear hb
    by_cases h0 : (parseE raw).1 = 0
    · obtain ⟨Ad, Cp, hown⟩ := hyes h0
      obtain ⟨hlay, hright⟩ := lay_parse h0 HRB.out
      have hp := (parse_ok h0).2.2.2.2.2
      obtain ⟨A11, C11, hv11, hch, _⟩ := hown.form
      subst hv11
      have HCH := Lib.hid hch
      have hE0 : buildE (parC (raw.drop 2)) (numN raw) = 0 := by
        have h := rightB_iff.1 hright
        unfold buildE
        rw [if_pos h.1, if_neg (by omega)]
      have HE0 := Lib.hid hE0
      have HRT := Lib.hid hright
      have HLY := Lib.hid hlay
      rw [hp]
      clear hno hyes hown hch h0 hright hlay hp hE0
      generalize numN raw = nn at *
      generalize parC (raw.drop 2) = XX at *
      go_wp2_with fail
      refine (build_any A11 nn C11 XX w7 HCH.out).mono ?_
      rintro e w8 ⟨v14, rfl, hb, hy, _⟩
      have ho := hy HE0.out
      rw [HLY.out] at ho
      rw [HE0.out]
      obtain ⟨A14, C14, hv14, hr14, _, _, hle14⟩ := ho.form
      subst hv14
      have HB8 := Lib.hid (HB7.out.trans (hb.mono HB7.out.size))
      have HR14 := Lib.hid hr14
      have HCH8 := Lib.hid (HCH.out.below hb)
      clear ho hb hy hr14
      go_wp2_with fail
      refine (sameBytes_true HR14.out (HRW.out w8 HB8.out) (by have := HLR.out; omega) rfl).mono ?_
      rintro e w9 ⟨rfl, q, hq⟩
      have HB9 : Hid (Below w.heap.size w w9) := by rw [hq]; exact drewN_below HB8.out q
      have HCH9 : Hid (ChsAt w9 A11 nn XX) := by rw [hq]; exact HCH8.out.below (drewN_below (Below.refl _ _) q)
      clear hq
      go_wp2_with fail
      refine (right_any A11 nn C11 64 XX w9 HCH9.out (by omega)).mono ?_
      rintro e w10 ⟨rfl, q, hq⟩
      have HB10 : Hid (Below w.heap.size w w10) := by rw [hq]; exact drewN_below HB9.out q
      rw [HRT.out]
      clear hq
      go_wp2_with fail
      go_ret
      exact ⟨rfl, HB10.out⟩
    · have hz1 : (((parseE raw).1 : Nat) : Int) ≠ 0 := by omega
      have hz2 : ((((parseE raw).1 : Nat) : Int) != 0) = true := by rw [bne_iff_ne]; exact hz1
      have hv := hno h0
      subst hv
      clear hno hyes h0
      generalize (parseE raw).1 = z at *
      generalize (parseE raw).2 = y at *
      go_wp2_with fail
      go_ret
      exact ⟨rfl, HB7.out⟩
end Go.Proofs.Ytkpbeibcfaenhaa
