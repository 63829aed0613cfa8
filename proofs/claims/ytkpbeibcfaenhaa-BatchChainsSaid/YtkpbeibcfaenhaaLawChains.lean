/- BatchChains. (printed by gen_chains.py) -/
import Derived.Test.YtkpbeibcfaenhaaSrc
namespace Go.Proofs.Ytkpbeibcfaenhaa
open Go.RowKit
set_option maxRecDepth 100000 in
set_option maxHeartbeats 8000000 in
theorem chains_walk (A : Option Addr) (N ca : Nat) (X : Nat → Chg) (B : Option Addr) (M cb : Nat) (Y : Nat → Chg) (C : Option Addr) (K cc : Nat) (V : Nat → Chg) (w : World) (hx : ChsAt w A N X) (hy : ChsAt w B M Y) (hv : ChsAt w C K V)
    (sx : ∀ k, k < N → (X k).val.length ≤ 140737488355328) (sy : ∀ k, k < M → (Y k).val.length ≤ 140737488355328) (sv : ∀ k, k < K → (V k).val.length ≤ 140737488355328) :
    Calls Try.prog 8 #[.slice A N ca, .slice B M cb, .slice C K cc] w fun e w' => e = .returned (.bool true) ∧ Below w.heap.size w w' := by
  have HRX := Lib.hid (fun W (hW : Below w.heap.size w W) => right_any A N ca 64 X W (hx.below hW) (by omega))
  have HRY := Lib.hid (fun W (hW : Below w.heap.size w W) => right_any B M cb 64 Y W (hy.below hW) (by omega))
  have HRV := Lib.hid (fun W (hW : Below w.heap.size w W) => right_any C K cc 64 V W (hv.below hW) (by omega))
  have HSX : Hid (rightB X N 64 = true → Src w A N X (nrm X N)) := fun h => Src.of hx sx h
  have HSY : Hid (rightB Y M 64 = true → Src w B M Y (nrm Y M)) := fun h => Src.of hy sy h
  have HSV : Hid (rightB V K 64 = true → Src w C K V (nrm V K)) := fun h => Src.of hv sv h
  clear hx hy hv sx sy sv
  go_enter Try.func8, Try.ntmps8
  go_wp2_with fail
  refine (HRX.out w (Below.refl _ _)).mono ?_
  rintro e w1 ⟨rfl, q, hq⟩
  have HB1 : Hid (Below w.heap.size w w1) := by show Below _ _ _; rw [hq]; exact drewN_below (Below.refl _ _) q
  clear hq HRX
  by_cases r1 : rightB X N 64 = true
  · have HX := Lib.hid (HSX.out r1)
    have hN64 := (heldN_le (rightB_iff.1 r1).1).1
    rw [r1]
    clear r1 HSX
    go_wp2_with fail
    refine (HRY.out w1 HB1.out).mono ?_
    rintro e w2 ⟨rfl, q, hq⟩
    have HB2 : Hid (Below w.heap.size w w2) := by show Below _ _ _; rw [hq]; exact drewN_below HB1.out q
    clear hq HRY
    by_cases r2 : rightB Y M 64 = true
    · have HY := Lib.hid (HSY.out r2)
      rw [r2]
      clear r2 HSY
      go_wp2_with fail
      refine (HRV.out w2 HB2.out).mono ?_
      rintro e w3 ⟨rfl, q, hq⟩
      have HB3 : Hid (Below w.heap.size w w3) := by show Below _ _ _; rw [hq]; exact drewN_below HB2.out q
      clear hq HRV
      by_cases r3 : rightB V K 64 = true
      · have HV := Lib.hid (HSV.out r3)
        rw [r3]
        clear r3 HSV HB1 HB2
        have hK4 := HV.out.few
        have HLV : Hid ((nrm V K).length = K) := HV.out.length
        have HLX : Hid ((nrm X N).length = N) := HX.out.length
        generalize nrm X N = a at *
        generalize nrm Y M = b at *
        generalize nrm V K = c at *
        go_wp2_with fail
        refine (keys_src ca cb (HX.out.below HB3.out) (HY.out.below HB3.out)).mono ?_
        rintro e w4 ⟨rfl, q, hq⟩
        have HB4 : Hid (Below w.heap.size w w4) := by show Below _ _ _; rw [hq]; exact drewN_below HB3.out q
        clear hq HB3
        have hab8 : (foldL a b).length ≤ 8192 := by have h1 := foldL_length _ a b (Nat.le_refl _); have h2 := HX.out.length; have h3 := HY.out.length; have h4 := HX.out.few; have h5 := HY.out.few; omega
        obtain ⟨L1, hL1⟩ : ∃ L1, L1 = (foldL a b).length := ⟨_, rfl⟩
        rw [← hL1] at hab8 ⊢
        by_cases h64 : 64 < L1 + K
        · have h64' : (64 : Int) < (L1 : Int) + (K : Int) := by omega
          clear hL1
          go_wp2_with fail
          go_ret
          exact ⟨rfl, HB4.out⟩
        · have h64' : ¬ (64 : Int) < (L1 : Int) + (K : Int) := by omega
          have HL1 := Lib.hid hL1
          have HBC : Hid ((foldL b c).length ≤ 64) := by
            have h1 := foldL_length _ b c (Nat.le_refl _)
            have h2 := foldL_ge _ a b (Nat.le_refl _)
            have h3 := HLV.out
            show _ ≤ _
            omega
          have HLF : Hid ((foldL (foldL a b) c).length ≤ 64) := by
            have h1 := foldL_length _ (foldL a b) c (Nat.le_refl _)
            have h3 := HLV.out
            show _ ≤ _
            omega
          have HAS : Hid (foldL (foldL a b) c = foldL a (foldL b c)) := foldL_assoc HX.out.nice HY.out.nice HV.out.nice
          have HSF : Hid (foldL a a = a) := foldL_self HX.out.nice
          have HFN : Hid (foldL [] a = a ∧ foldL a [] = a) := ⟨foldL_left a, foldL_right a⟩
          clear hL1
          go_wp2_with fail
          refine (fold_src ca cb (HX.out.below HB4.out) (HY.out.below HB4.out) (by rw [← HL1.out]; omega)).mono ?_
          rintro e w5 ⟨A5, C5, Z5, rfl, hs, hz, hb⟩
          have HS5 := Lib.hid hs
          have HZ5 := Lib.hid hz
          have HB5 := Lib.hid (HB4.out.trans (hb.mono HB4.out.size))
          clear hs hz hb HB4
          go_wp2_with fail
          refine (fold_src cb cc (HY.out.below HB5.out) (HV.out.below HB5.out) HBC.out).mono ?_
          rintro e w6 ⟨A6, C6, Z6, rfl, hs, hz, hb⟩
          have HS6 := Lib.hid hs
          have HZ6 := Lib.hid hz
          have HB6 := Lib.hid (HB5.out.trans (hb.mono HB5.out.size))
          have HS5 := Lib.hid (HS5.out.below hb)
          clear hs hz hb HB5
          go_wp2_with fail
          refine (fold_src C5 cc HS5.out (HV.out.below HB6.out) HLF.out).mono ?_
          rintro e w7 ⟨A7, C7, Z7, rfl, hs, hz, hb⟩
          have HS7 := Lib.hid hs
          have HZ7 := Lib.hid hz
          have HB7 := Lib.hid (HB6.out.trans (hb.mono HB6.out.size))
          have HS5 := Lib.hid (HS5.out.below hb)
          have HS6 := Lib.hid (HS6.out.below hb)
          clear hs hz hb HB6
          go_wp2_with fail
          refine (fold_src ca C6 (HX.out.below HB7.out) HS6.out (by rw [← HAS.out]; exact HLF.out)).mono ?_
          rintro e w8 ⟨A8, C8, Z8, rfl, hs, hz, hb⟩
          rw [← HAS.out] at hs hz ⊢
          have HS8 := Lib.hid hs
          have HZ8 := Lib.hid hz
          have HB8 := Lib.hid (HB7.out.trans (hb.mono HB7.out.size))
          have HS5 := Lib.hid (HS5.out.below hb)
          have HS7 := Lib.hid (HS7.out.below hb)
          clear hs hz hb HB7
          clear HS6 HZ6
          go_wp2_with fail
          refine (same_src C7 C8 HS7.out.at_ HS8.out.at_ HZ7.out HZ8.out).mono ?_
          rintro e w9 ⟨rfl, q, hq⟩
          have hb : Below w8.heap.size w8 w9 := by rw [hq]; exact drewN_below (Below.refl _ _) q
          have HB9 := Lib.hid (HB8.out.trans (hb.mono HB8.out.size))
          have HS5 := Lib.hid (HS5.out.below hb)
          clear hq hb HB8
          go_wp2_with fail
          refine (keys_src C5 cc HS5.out (HV.out.below HB9.out)).mono ?_
          rintro e w10 ⟨rfl, q, hq⟩
          have hb : Below w9.heap.size w9 w10 := by rw [hq]; exact drewN_below (Below.refl _ _) q
          have HB10 := Lib.hid (HB9.out.trans (hb.mono HB9.out.size))
          clear hq hb HB9
          obtain ⟨L3, hL3⟩ : ∃ L3 : Int, L3 = (((foldL (foldL a b) c).length : Nat) : Int) := ⟨_, rfl⟩
          rw [← hL3]
          have hq3 : (L3 != L3) = false := by simp
          clear hL3 HS5 HZ5 HS7 HZ7 HS8 HZ8
          go_wp2_with fail
          refine (norm_src ca (HX.out.below HB10.out)).mono ?_
          rintro e w11 ⟨A11, C11, Z11, rfl, hs, hz, hb⟩
          have HS11 := Lib.hid hs
          have HZ11 := Lib.hid hz
          have HB11 := Lib.hid (HB10.out.trans (hb.mono HB10.out.size))
          clear hs hz hb HB10
          go_wp2_with fail
          refine (fold_src 0 ca (Src.nil w11) (HX.out.below HB11.out) (by rw [HFN.out.1, HLX.out]; omega)).mono ?_
          rintro e w12 ⟨A12, C12, Z12, rfl, hs, hz, hb⟩
          rw [HFN.out.1] at hs hz ⊢
          have HS12 := Lib.hid hs
          have HZ12 := Lib.hid hz
          have HB12 := Lib.hid (HB11.out.trans (hb.mono HB11.out.size))
          have HS11 := Lib.hid (HS11.out.below hb)
          clear hs hz hb HB11
          go_wp2_with fail
          refine (fold_src ca 0 (HX.out.below HB12.out) (Src.nil w12) (by rw [HFN.out.2, HLX.out]; omega)).mono ?_
          rintro e w13 ⟨A13, C13, Z13, rfl, hs, hz, hb⟩
          rw [HFN.out.2] at hs hz ⊢
          have HS13 := Lib.hid hs
          have HZ13 := Lib.hid hz
          have HB13 := Lib.hid (HB12.out.trans (hb.mono HB12.out.size))
          have HS11 := Lib.hid (HS11.out.below hb)
          have HS12 := Lib.hid (HS12.out.below hb)
          clear hs hz hb HB12
          go_wp2_with fail
          refine (fold_src ca ca (HX.out.below HB13.out) (HX.out.below HB13.out) (by rw [HSF.out, HLX.out]; omega)).mono ?_
          rintro e w14 ⟨A14, C14, Z14, rfl, hs, hz, hb⟩
          rw [HSF.out] at hs hz ⊢
          have HS14 := Lib.hid hs
          have HZ14 := Lib.hid hz
          have HB14 := Lib.hid (HB13.out.trans (hb.mono HB13.out.size))
          have HS11 := Lib.hid (HS11.out.below hb)
          have HS12 := Lib.hid (HS12.out.below hb)
          have HS13 := Lib.hid (HS13.out.below hb)
          clear hs hz hb HB13
          have HLI : Hid ((((a.length : Nat) : Int) != (N : Int)) = false) := by show _ = _; rw [HLX.out]; simp
          have hli := HLI.out
          go_wp2_with fail
          refine (norm_src C11 HS11.out).mono ?_
          rintro e w15 ⟨A15, C15, Z15, rfl, hs, hz, hb⟩
          have HS15 := Lib.hid hs
          have HZ15 := Lib.hid hz
          have HB15 := Lib.hid (HB14.out.trans (hb.mono HB14.out.size))
          have HS11 := Lib.hid (HS11.out.below hb)
          have HS12 := Lib.hid (HS12.out.below hb)
          have HS13 := Lib.hid (HS13.out.below hb)
          have HS14 := Lib.hid (HS14.out.below hb)
          clear hs hz hb HB14
          go_wp2_with fail
          refine (same_src C11 C12 HS11.out.at_ HS12.out.at_ HZ11.out HZ12.out).mono ?_
          rintro e w16 ⟨rfl, q, hq⟩
          have hb : Below w15.heap.size w15 w16 := by rw [hq]; exact drewN_below (Below.refl _ _) q
          have HB16 := Lib.hid (HB15.out.trans (hb.mono HB15.out.size))
          have HS11 := Lib.hid (HS11.out.below hb)
          have HS13 := Lib.hid (HS13.out.below hb)
          have HS14 := Lib.hid (HS14.out.below hb)
          have HS15 := Lib.hid (HS15.out.below hb)
          clear hq hb HB15
          go_wp2_with fail
          refine (same_src C11 C13 HS11.out.at_ HS13.out.at_ HZ11.out HZ13.out).mono ?_
          rintro e w17 ⟨rfl, q, hq⟩
          have hb : Below w16.heap.size w16 w17 := by rw [hq]; exact drewN_below (Below.refl _ _) q
          have HB17 := Lib.hid (HB16.out.trans (hb.mono HB16.out.size))
          have HS11 := Lib.hid (HS11.out.below hb)
          have HS14 := Lib.hid (HS14.out.below hb)
          have HS15 := Lib.hid (HS15.out.below hb)
          clear hq hb HB16
          go_wp2_with fail
          refine (same_src C11 C14 HS11.out.at_ HS14.out.at_ HZ11.out HZ14.out).mono ?_
          rintro e w18 ⟨rfl, q, hq⟩
          have hb : Below w17.heap.size w17 w18 := by rw [hq]; exact drewN_below (Below.refl _ _) q
          have HB18 := Lib.hid (HB17.out.trans (hb.mono HB17.out.size))
          have HS11 := Lib.hid (HS11.out.below hb)
          have HS15 := Lib.hid (HS15.out.below hb)
          clear hq hb HB17
          go_wp2_with fail
          refine (same_src C11 C15 HS11.out.at_ HS15.out.at_ HZ11.out HZ15.out).mono ?_
          rintro e w19 ⟨rfl, q, hq⟩
          have hb : Below w18.heap.size w18 w19 := by rw [hq]; exact drewN_below (Below.refl _ _) q
          have HB19 := Lib.hid (HB18.out.trans (hb.mono HB18.out.size))
          clear hq hb HB18
          go_wp2_with fail
          go_ret
          exact ⟨rfl, HB19.out⟩
      · have r3' : rightB V K 64 = false := by simpa using r3
        rw [r3']
        clear r3 r3'
        go_wp2_with fail
        go_ret
        exact ⟨rfl, HB3.out⟩
    · have r2' : rightB Y M 64 = false := by simpa using r2
      rw [r2']
      clear r2 r2'
      go_wp2_with fail
      go_ret
      exact ⟨rfl, HB2.out⟩
  · have r1' : rightB X N 64 = false := by simpa using r1
    rw [r1']
    clear r1 r1'
    go_wp2_with fail
    go_ret
    exact ⟨rfl, HB1.out⟩
end Go.Proofs.Ytkpbeibcfaenhaa
