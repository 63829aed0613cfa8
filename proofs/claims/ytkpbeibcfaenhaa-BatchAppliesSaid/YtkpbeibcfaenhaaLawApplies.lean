/- BatchApplies. (printed by gen_applies.py) -/
import Derived.Test.YtkpbeibcfaenhaaSameM
namespace Go.Proofs.Ytkpbeibcfaenhaa
open Go.RowKit
theorem src_of4 {w : World} {A : Option Addr} {N : Nat} {X : Nat → Chg} (h : ChsAt w A N X) (hl : ∀ k, k < N → (X k).val.length ≤ 140737488355328) (hr : rightB X N 4096 = true) : Src w A N X (nrm X N) := by
  obtain ⟨h1, h2⟩ := rightB_iff.1 hr
  have h4 : wrongN X N 4096 = 0 := by
    unfold wrongN
    rw [if_pos h1, if_neg (by omega)]
  exact { at_ := h, nrm := rfl, nice := nice_nrm (chsat_good h) h4, ok := h4, few := (heldN_le h1).1, len := hl }
theorem EntsOwn.at_ {w : World} {base : Nat} {v : Value} {L : List Chg} {Ad : Nat → Option Addr} {Cp : Nat → Nat} (h : EntsOwn w base v L.length (fnOf L) Ad Cp) : ∃ A C, v = .slice A L.length C ∧ EntsAt w A L.length (fnOf L) := by
  obtain ⟨A, C, e, ha, _⟩ := h.form
  exact ⟨A, C, e, ha⟩
/-- 'after', the map and the changes as plain lists. -/
theorem after_list {w : World} {A B : Option Addr} {M c d : Nat} {m : List Chg} {X : Nat → Chg} {cs : List Chg} (hm : EntsAt w A m.length (fnOf m)) (hx : ChsAt w B M X) (hc : lst X M = cs) (hn : m.length + M ≤ 4096) :
    Calls Try.prog 29 #[.slice A m.length c, .slice B M d] w fun e w' => ∃ A' C', e = .returned (.slice A' (afterL m cs).length C') ∧ EntsAt w' A' (afterL m cs).length (fnOf (afterL m cs)) ∧ Below w.heap.size w w' := by
  have h := after_any A B m.length M c d (fnOf m) X w hm hx hn
  rw [lst_fnOf, hc] at h
  refine h.mono ?_
  rintro e w' ⟨v, Ad, Cp, rfl, ho, hb⟩
  obtain ⟨A', C', rfl, ha⟩ := ho.at_
  exact ⟨A', C', rfl, ha, hb⟩
theorem same_list {w : World} {A B : Option Addr} {c d : Nat} {a b : List Chg} (ha : EntsAt w A a.length (fnOf a)) (hb : EntsAt w B b.length (fnOf b)) (hn : a.length ≤ 4096) (na : NodK a) (nb : NodK b) (h : ∀ k v, Has a k v ↔ Has b k v) :
    Calls Try.prog 31 #[.slice A a.length c, .slice B b.length d] w fun e w' => e = .returned (.bool true) ∧ ∃ q, w' = w.drewN q := by
  obtain ⟨hl, hm⟩ := same_map na nb h
  rw [← hl] at hb ⊢
  refine sameMap_true A B a.length c d (fnOf a) (fnOf b) w ha hb hn fun i hi => ?_
  have hx : fnOf a i ∈ a := by
    have : fnOf a i = a[i] := by simp [fnOf, List.getD, List.getElem?_eq_getElem hi]
    rw [this]
    exact List.getElem_mem hi
  obtain ⟨y, hy, h1, h2⟩ := hm _ hx
  obtain ⟨j, hj, rfl⟩ := List.mem_iff_getElem.1 hy
  have e : fnOf b j = b[j] := by simp [fnOf, List.getD, List.getElem?_eq_getElem hj]
  exact hitB_at (j := j) (by omega) (by rw [e]; exact h1) (by rw [e]; exact h2)
/-- The map that the statement begins with. -/
theorem base_nod (X : Nat → Chg) (N : Nat) : NodK (afterL [] (lst X N)) := after_nod _ _ (by unfold NodK keysOf; exact List.nodup_nil)
theorem copy_src {w w' : World} {A : Option Addr} {N : Nat} {X : Nat → Chg} {a : List Chg} (h : Src w A N X a) {B : Option Addr} (hc : ChsAt w' B N X) : Src w' B N X a := { h with at_ := hc }
set_option maxRecDepth 100000 in
set_option maxHeartbeats 8000000 in
theorem applies_walk (A : Option Addr) (N ca : Nat) (X : Nat → Chg) (B : Option Addr) (M cb : Nat) (Y : Nat → Chg) (C : Option Addr) (K cc : Nat) (V : Nat → Chg) (w : World) (hx : ChsAt w A N X) (hy : ChsAt w B M Y) (hv : ChsAt w C K V)
    (sy : ∀ k, k < M → (Y k).val.length ≤ 140737488355328) (sv : ∀ k, k < K → (V k).val.length ≤ 140737488355328) :
    Calls Try.prog 7 #[.slice A N ca, .slice B M cb, .slice C K cc] w fun e w' => e = .returned (.bool true) ∧ Below w.heap.size w w' := by
  have HX := Lib.hid hx
  have HRY := Lib.hid (fun W (hW : Below w.heap.size w W) => right_any B M cb 4096 Y W (hy.below hW) (by omega))
  have HRV := Lib.hid (fun W (hW : Below w.heap.size w W) => right_any C K cc 4096 V W (hv.below hW) (by omega))
  have HSY : Hid (rightB Y M 4096 = true → Src w B M Y (nrm Y M)) := fun h => src_of4 hy sy h
  have HSV : Hid (rightB V K 4096 = true → Src w C K V (nrm V K)) := fun h => src_of4 hv sv h
  clear hx hy hv sy sv
  go_enter Try.func7, Try.ntmps7
  by_cases l1 : 200 < M
  · have l1' : (200 : Int) < (M : Int) := by omega
    go_wp2_with fail
    go_ret
    exact ⟨rfl, Below.refl _ _⟩
  have l1' : ¬ (200 : Int) < (M : Int) := by omega
  by_cases l2 : 200 < K
  · have l2' : (200 : Int) < (K : Int) := by omega
    go_wp2_with fail
    go_ret
    exact ⟨rfl, Below.refl _ _⟩
  have l2' : ¬ (200 : Int) < (K : Int) := by omega
  by_cases l3 : 200 < N
  · have l3' : (200 : Int) < (N : Int) := by omega
    go_wp2_with fail
    go_ret
    exact ⟨rfl, Below.refl _ _⟩
  have l3' : ¬ (200 : Int) < (N : Int) := by omega
  go_wp2_with fail
  refine (HRY.out w (Below.refl _ _)).mono ?_
  rintro e w1 ⟨rfl, q, hq⟩
  have HB1 : Hid (Below w.heap.size w w1) := by show Below _ _ _; rw [hq]; exact drewN_below (Below.refl _ _) q
  clear hq HRY
  by_cases r1 : rightB Y M 4096 = true
  · have HY := Lib.hid (HSY.out r1)
    rw [r1]
    clear r1 HSY
    go_wp2_with fail
    refine (HRV.out w1 HB1.out).mono ?_
    rintro e w2 ⟨rfl, q, hq⟩
    have HB2 : Hid (Below w.heap.size w w2) := by show Below _ _ _; rw [hq]; exact drewN_below HB1.out q
    clear hq HRV
    by_cases r2 : rightB V K 4096 = true
    · have HV := Lib.hid (HSV.out r2)
      rw [r2]
      clear r2 HSV HB1
      have HRM := Lib.hid (nrm_wrong HY.out.ok)
      have HRK := Lib.hid (nrm_wrong HV.out.ok)
      have HMN := Lib.hid (base_nod X N)
      have hml : (afterL [] (lst X N)).length ≤ 200 := by have := afterL_length [] X N; simp only [List.length_nil] at this; omega
      go_wp2_with fail
      refine (after_list (w := w2) (m := []) (c := 0) (d := ca) (A := none) (X := X) ⟨Nat.zero_le _, fun k hk => by simp at hk⟩ (HX.out.below HB2.out) rfl (by simp; omega)).mono ?_
      rintro e w3 ⟨A3, C3, rfl, ha3, hb3⟩
      have HA3 := Lib.hid ha3
      have HB3 := Lib.hid (HB2.out.trans (hb3.mono HB2.out.size))
      clear ha3 hb3 HB2 HX
      generalize afterL [] (lst X N) = m at *
      obtain ⟨lm, hlm⟩ : ∃ lm, lm = m.length := ⟨_, rfl⟩
      rw [← hlm] at hml
      have HLM := Lib.hid hlm
      have HLY := Lib.hid HY.out.length
      clear hlm
      go_wp2_with fail
      refine (copyChanges_any B M cb Y w3 (HY.out.at_.below HB3.out) (by omega) HY.out.len).mono ?_
      rintro e w4 ⟨v4, Ad4, Cp4, rfl, ho4, hb4⟩
      obtain ⟨A4, C4, rfl, hc4, _⟩ := ho4.form
      have HC4 := Lib.hid (copy_src HY.out hc4)
      have HB4 := Lib.hid (HB3.out.trans (hb4.mono HB3.out.size))
      have HA4 := Lib.hid (HA3.out.below hb4)
      clear ho4 hc4 hb4 HB3 HA3
      go_wp2_with fail
      refine (norm_src C4 HC4.out).mono ?_
      rintro e w5 ⟨A5, C5, Z5, rfl, hs5, hz5, hb5⟩
      have HS5 := Lib.hid hs5
      have HZ5 := Lib.hid hz5
      have HB5 := Lib.hid (HB4.out.trans (hb5.mono HB4.out.size))
      have HA5 := Lib.hid (HA4.out.below hb5)
      clear hs5 hz5 hb5 HB4 HA4 HC4
      have HNL := Lib.hid (nrm_length Y M)
      have HEQ : Hid (∀ k v, Has (afterL m (nrm Y M)) k v ↔ Has (afterL m (lst Y M)) k v) := after_norm HMN.out HRM.out
      have HL1 : Hid ((afterL m (nrm Y M)).length ≤ 400 ∧ (afterL m (lst Y M)).length ≤ 400) := by
        constructor
        · have h1 := afterL_length m (fnOf (nrm Y M)) (nrm Y M).length
          rw [lst_fnOf, HNL.out] at h1
          have := HLM.out
          omega
        · have h1 := afterL_length m Y M
          have := HLM.out
          omega
      go_wp2_with fail
      refine (after_list (c := C3) (d := C5) HA5.out HS5.out.at_ HZ5.out (by have := HLM.out; have := HNL.out; omega)).mono ?_
      rintro e w6 ⟨A6, C6, rfl, ha6, hb6⟩
      have HA6 := Lib.hid ha6
      have HB6 := Lib.hid (HB5.out.trans (hb6.mono HB5.out.size))
      have HA5' := Lib.hid (HA5.out.below hb6)
      have HS6 := Lib.hid (HS5.out.below hb6)
      clear ha6 hb6 HB5 HA5 HS5
      go_wp2_with fail
      refine (after_list (c := C3) (d := cb) HA5'.out (HY.out.at_.below HB6.out) rfl (by have := HLM.out; omega)).mono ?_
      rintro e w7 ⟨A7, C7, rfl, ha7, hb7⟩
      have HA7 := Lib.hid ha7
      have HB7 := Lib.hid (HB6.out.trans (hb7.mono HB6.out.size))
      have HA6' := Lib.hid (HA6.out.below hb7)
      have HAM := Lib.hid (HA5'.out.below hb7)
      have HS7 := Lib.hid (HS6.out.below hb7)
      clear ha7 hb7 HB6 HA5' HA6 HS6
      go_wp2_with fail
      refine (same_list (c := C6) (d := C7) HA6'.out HA7.out (by have := HL1.out.1; omega) (after_nod _ _ HMN.out) (after_nod _ _ HMN.out) HEQ.out).mono ?_
      rintro e w8 ⟨rfl, q, hq⟩
      have hb8 : Below w7.heap.size w7 w8 := by rw [hq]; exact drewN_below (Below.refl _ _) q
      have HB8 := Lib.hid (HB7.out.trans (hb8.mono HB7.out.size))
      have HAM8 := Lib.hid (HAM.out.below hb8)
      have HS8 := Lib.hid (HS7.out.below hb8)
      clear hq hb8 HB7 HAM HS7 HA6' HA7
      have HSS : Hid (SSorted (lst Z5 (nrm Y M).length)) := by show SSorted _; rw [HZ5.out]; exact HY.out.nice.ss
      go_wp2_with fail
      refine (rising_true A5 (nrm Y M).length C5 Z5 w8 HS8.out.at_ HSS.out).mono ?_
      rintro e w9 ⟨rfl, hb9⟩
      have HB9 := Lib.hid (HB8.out.trans (hb9.mono HB8.out.size))
      have HAM9 := Lib.hid (HAM8.out.below hb9)
      clear hb9 HB8 HAM8 HS8 HSS HZ5
      rw [HNL.out]
      have hMM : ((M : Int) != (M : Int)) = false := by simp
      go_wp2_with fail
      refine (copyChanges_any B M cb Y w9 (HY.out.at_.below HB9.out) (by omega) HY.out.len).mono ?_
      rintro e w10 ⟨v10, Ad10, Cp10, rfl, ho10, hb10⟩
      obtain ⟨A10, C10, rfl, hc10, _⟩ := ho10.form
      have HC10 := Lib.hid (copy_src HY.out hc10)
      have HB10 := Lib.hid (HB9.out.trans (hb10.mono HB9.out.size))
      have HAM10 := Lib.hid (HAM9.out.below hb10)
      clear ho10 hc10 hb10 HB9 HAM9
      go_wp2_with fail
      refine (copyChanges_any C K cc V w10 (HV.out.at_.below HB10.out) (by omega) HV.out.len).mono ?_
      rintro e w11 ⟨v11, Ad11, Cp11, rfl, ho11, hb11⟩
      obtain ⟨A11, C11, rfl, hc11, _⟩ := ho11.form
      have HC11 := Lib.hid (copy_src HV.out hc11)
      have HB11 := Lib.hid (HB10.out.trans (hb11.mono HB10.out.size))
      have HAM11 := Lib.hid (HAM10.out.below hb11)
      have HC10' := Lib.hid (HC10.out.below hb11)
      clear ho11 hc11 hb11 HB10 HAM10 HC10
      by_cases h64 : 64 < (foldL (nrm Y M) (nrm V K)).length
      · have HFE : Hid (foldE Y M V K = 31 ∧ foldO Y M V K = []) := by
          have h1 : foldE Y M V K = 31 := by rw [foldE_both HY.out.ok HV.out.ok, if_pos h64]
          exact ⟨h1, by unfold foldO; rw [if_neg (by rw [h1]; decide)]⟩
        go_wp2_with fail
        refine (fold_any A10 A11 M K C10 C11 Y V w11 HC10'.out.at_ HC11.out.at_ (by omega) (by omega) HY.out.len HV.out.len).mono ?_
        intro e w12 hp
        obtain ⟨A12, C12, Z12, he, _, _, _, hb12⟩ := fold_form hp
        rw [HFE.out.1, HFE.out.2] at he
        subst he
        have HB12 := Lib.hid (HB11.out.trans (hb12.mono HB11.out.size))
        clear hp hb12 HB11 HAM11
        go_wp2_with fail
        refine (keys_src cb cc (HY.out.below HB12.out) (HV.out.below HB12.out)).mono ?_
        rintro e w13 ⟨rfl, q, hq⟩
        have HB13 : Hid (Below w.heap.size w w13) := by show Below _ _ _; rw [hq]; exact drewN_below HB12.out q
        clear hq HB12
        generalize (foldL (nrm Y M) (nrm V K)).length = L at *
        have h64' : (64 : Int) < (L : Int) := by omega
        go_wp2_with fail
        go_ret
        exact ⟨rfl, HB13.out⟩
      · have HLF : Hid ((foldL (nrm Y M) (nrm V K)).length ≤ 64) := by show _ ≤ _; omega
        go_wp2_with fail
        refine (fold_src C10 C11 HC10'.out HC11.out HLF.out).mono ?_
        rintro e w12 ⟨A12, C12, Z12, rfl, hs12, hz12, hb12⟩
        have HS12 := Lib.hid hs12
        have HZ12 := Lib.hid hz12
        have HB12 := Lib.hid (HB11.out.trans (hb12.mono HB11.out.size))
        have HAM12 := Lib.hid (HAM11.out.below hb12)
        clear hs12 hz12 hb12 HB11 HAM11 HC10' HC11
        have HNF : Hid (Nice (foldL (nrm Y M) (nrm V K))) := HY.out.nice.fold HV.out.nice
        have HEQ2 : Hid (∀ k v, Has (afterL m (foldL (nrm Y M) (nrm V K))) k v ↔ Has (afterL (afterL m (lst Y M)) (lst V K)) k v) := after_fold HMN.out HY.out.nice HV.out.nice HRM.out HRK.out
        have HL2 : Hid ((afterL m (foldL (nrm Y M) (nrm V K))).length ≤ 400) := by
          have h1 := afterL_length m (fnOf (foldL (nrm Y M) (nrm V K))) (foldL (nrm Y M) (nrm V K)).length
          rw [lst_fnOf] at h1
          have h2 := HLF.out
          have h3 := HLM.out
          show _ ≤ _
          omega
        have HKS : Hid (∀ W, Below w.heap.size w W → Calls Try.prog 34 #[.slice B M cb, .slice C K cc] W fun e w' => e = .returned (.int .i64 ((foldL (nrm Y M) (nrm V K)).length : Nat)) ∧ ∃ q, w' = W.drewN q) := fun W hW => keys_src cb cc (HY.out.below hW) (HV.out.below hW)
        generalize foldL (nrm Y M) (nrm V K) = F at *
        go_wp2_with fail
        refine (HKS.out w12 HB12.out).mono ?_
        rintro e w13 ⟨rfl, q, hq⟩
        have hb13 : Below w12.heap.size w12 w13 := by rw [hq]; exact drewN_below (Below.refl _ _) q
        have HB13 := Lib.hid (HB12.out.trans (hb13.mono HB12.out.size))
        have HAM13 := Lib.hid (HAM12.out.below hb13)
        have HS13 := Lib.hid (HS12.out.below hb13)
        clear hq hb13 HB12 HAM12 HS12 h64
        have hF1 := HLF.out
        have hF2 : ¬ (64 : Int) < (F.length : Int) := by omega
        have HSS : Hid (SSorted (lst Z12 F.length)) := by show SSorted _; rw [HZ12.out]; exact HNF.out.ss
        go_wp2_with fail
        refine (rising_true A12 F.length C12 Z12 w13 HS13.out.at_ HSS.out).mono ?_
        rintro e w14 ⟨rfl, hb14⟩
        have HB14 := Lib.hid (HB13.out.trans (hb14.mono HB13.out.size))
        have HAM14 := Lib.hid (HAM13.out.below hb14)
        have HS14 := Lib.hid (HS13.out.below hb14)
        clear hb14 HB13 HAM13 HS13 HSS
        go_wp2_with fail
        refine (HKS.out w14 HB14.out).mono ?_
        rintro e w15 ⟨rfl, q, hq⟩
        have hb15 : Below w14.heap.size w14 w15 := by rw [hq]; exact drewN_below (Below.refl _ _) q
        have HB15 := Lib.hid (HB14.out.trans (hb15.mono HB14.out.size))
        have HAM15 := Lib.hid (HAM14.out.below hb15)
        have HS15 := Lib.hid (HS14.out.below hb15)
        clear hq hb15 HB14 HAM14 HS14 HKS
        have hFF : ((F.length : Int) != (F.length : Int)) = false := by simp
        go_wp2_with fail
        refine (after_list (c := C3) (d := C12) HAM15.out HS15.out.at_ HZ12.out (by have := HLM.out; omega)).mono ?_
        rintro e w16 ⟨A16, C16, rfl, ha16, hb16⟩
        have HA16 := Lib.hid ha16
        have HB16 := Lib.hid (HB15.out.trans (hb16.mono HB15.out.size))
        have HAM16 := Lib.hid (HAM15.out.below hb16)
        clear ha16 hb16 HB15 HAM15 HS15
        go_wp2_with fail
        refine (after_list (c := C3) (d := cb) HAM16.out (HY.out.at_.below HB16.out) rfl (by have := HLM.out; omega)).mono ?_
        rintro e w17 ⟨A17, C17, rfl, ha17, hb17⟩
        have HA17 := Lib.hid ha17
        have HB17 := Lib.hid (HB16.out.trans (hb17.mono HB16.out.size))
        have HA16' := Lib.hid (HA16.out.below hb17)
        clear ha17 hb17 HB16 HA16 HAM16
        go_wp2_with fail
        refine (after_list (c := C17) (d := cc) HA17.out (HV.out.at_.below HB17.out) rfl (by have := HL1.out.2; omega)).mono ?_
        rintro e w18 ⟨A18, C18, rfl, ha18, hb18⟩
        have HA18 := Lib.hid ha18
        have HB18 := Lib.hid (HB17.out.trans (hb18.mono HB17.out.size))
        have HA16'' := Lib.hid (HA16'.out.below hb18)
        clear ha18 hb18 HB17 HA17 HA16'
        go_wp2_with fail
        refine (same_list (c := C16) (d := C18) HA16''.out HA18.out (by have := HL2.out; omega) (after_nod _ _ HMN.out) (after_nod _ _ (after_nod _ _ HMN.out)) HEQ2.out).mono ?_
        rintro e w19 ⟨rfl, q, hq⟩
        have HB19 : Hid (Below w.heap.size w w19) := by show Below _ _ _; rw [hq]; exact drewN_below HB18.out q
        clear hq HB18
        go_wp2_with fail
        go_ret
        exact ⟨rfl, HB19.out⟩
    · have r2' : rightB V K 4096 = false := by simpa using r2
      rw [r2']
      clear r2 r2'
      go_wp2_with fail
      go_ret
      exact ⟨rfl, HB2.out⟩
  · have r1' : rightB Y M 4096 = false := by simpa using r1
    rw [r1']
    clear r1 r1'
    go_wp2_with fail
    go_ret
    exact ⟨rfl, HB1.out⟩
end Go.Proofs.Ytkpbeibcfaenhaa
