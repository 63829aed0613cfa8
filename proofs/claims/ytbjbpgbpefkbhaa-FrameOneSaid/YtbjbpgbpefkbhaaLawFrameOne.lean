/- ledgerlaw5.FrameOne: the walk. -/
import Derived.Test.YtbjbpgbpefkbhaaOneLaw
namespace Go.Proofs.Ytbjbpgbpefkbhaa
open Go.RowKit
set_option maxHeartbeats 4000000 in
theorem frameOne_walk (a b c d p rise which k : Int) (pat : Nat) (w : World) (hp : pat < 4294967296) :
    Calls Try.prog 11 #[.agg #[.int .i64 a, .int .i64 b, .int .i64 c, .int .i64 d, .int .i64 p], .int .i64 rise, .int .i64 which, .int .i64 k, .int .u32 pat] w fun e w' => e = .returned (.bool true) ∧ Below w.heap.size w w' := by
  have HC : Hid (∀ w, Calls Try.prog 13 #[.agg #[.int .i64 a, .int .i64 b, .int .i64 c, .int .i64 d, .int .i64 p]] w fun e w' => PackedS w.heap.size ⟨a, b, c, d, p⟩ e w' ∧ Below w.heap.size w w') := packSuper_any ⟨a, b, c, d, p⟩
  have HSA0 : Hid (BlkIs (w.alloc (.cells #[.int .i64 a, .int .i64 b, .int .i64 c, .int .i64 d, .int .i64 p] 24)) w.heap.size 24 (supA a b c d p)) := BlkIs.new w _ _
  go_enter Try.func11, Try.ntmps11
  go_wp2_with fail
  refine (knownSup_any _).mono ?_
  rintro e w1 ⟨rfl, hb1⟩
  have HB1 := Lib.hid (((Below.refl w.heap.size w).alloc (Nat.le_refl _) _).trans (hb1.mono (by simp)))
  have HSA1 := Lib.hid (BlkIs.below HSA0.out hb1)
  have hs1 := sup_at HSA1.out
  clear hb1 HSA0
  go_wp2_with fail
  refine (HC.out _).mono ?_
  rintro e w2 ⟨⟨v2, rfl, hown2⟩, hb2⟩
  have HB2 := Lib.hid (HB1.out.trans (hb2.mono HB1.out.size))
  have HSA2 := Lib.hid (BlkIs.below HSA1.out hb2)
  have hs2 := sup_at HSA2.out
  have HGW : Hid (w.heap.size < w2.heap.size) := BlkIs.lt HSA2.out
  clear hb2 HB1 HC hs1 HSA1
  by_cases hok : Sup.Ok ⟨a, b, c, d, p⟩
  · rw [packSN_ok hok] at hown2 ⊢
    have HOK := Lib.hid hok
    obtain ⟨A2, c2, rfl, _⟩ := hown2.form
    have HO2 := Lib.hid hown2
    rw [superN_length] at HO2 ⊢
    have hbb : 0 ≤ b ∧ b ≤ 1099511627776 := hok.2.1
    have hcp : 2 ≤ c ∧ c ≤ p := hok.2.2.2.1
    have hpp : 3 ≤ p ∧ p ≤ 4096 := hok.2.2.1
    clear hown2 hok
    by_cases hg : b < 1099511627776
    · have hs3 := sup_at (BlkIs.alloc HSA2.out (.cells #[.int .i64 a, .int .i64 (b + 1), .int .i64 c, .int .i64 d, .int .i64 p] 24))
      go_wp2_with fail
      refine (whole_range rise c p _ (by omega) (by omega) (by omega)).mono ?_
      rintro e w3 ⟨⟨r, rfl, hr1, hr2⟩, hw3⟩
      rw [hw3]
      clear hw3 hs3
      have HNX := Lib.hid (next_ok (s := ⟨a, b, c, d, p⟩) (r := r) HOK.out hg hr1 hr2)
      have HNE : Hid (Sup.next ⟨a, b, c, d, p⟩ r = ⟨a, b + 1, r, d, p⟩) := rfl
      have HEV := Lib.hid (choose_even (s := ⟨a, b, c, d, p⟩) (r := r) HOK.out HNX.out hr1)
      have HOD := Lib.hid (choose_odd (s := ⟨a, b, c, d, p⟩) (r := r) HOK.out HNX.out hr1)
      rw [HNE.out] at HNX HEV HOD
      have HC2 : Hid (∀ w, Calls Try.prog 13 #[.agg #[.int .i64 a, .int .i64 (b + 1), .int .i64 r, .int .i64 d, .int .i64 p]] w fun e w' => PackedS w.heap.size ⟨a, b + 1, r, d, p⟩ e w' ∧ Below w.heap.size w w') := packSuper_any ⟨a, b + 1, r, d, p⟩
      have HW3 := Lib.hid (HB2.out.alloc HB2.out.size (.cells #[.int .i64 a, .int .i64 (b + 1), .int .i64 r, .int .i64 d, .int .i64 p] 24))
      have HSA3 := Lib.hid (BlkIs.alloc HSA2.out (.cells #[.int .i64 a, .int .i64 (b + 1), .int .i64 r, .int .i64 d, .int .i64 p] 24))
      have HSU3 : Hid (BlkIs (w2.alloc (.cells #[.int .i64 a, .int .i64 (b + 1), .int .i64 r, .int .i64 d, .int .i64 p] 24)) w2.heap.size 24 (supA a (b + 1) r d p)) := BlkIs.new w2 _ _
      have HR3 := Lib.hid (HO2.out.reads.alloc (.cells #[.int .i64 a, .int .i64 (b + 1), .int .i64 r, .int .i64 d, .int .i64 p] 24))
      go_wp2_with fail
      refine (HC2.out _).mono ?_
      rintro e w4 ⟨⟨v4, rfl, hown4⟩, hb4⟩
      have HB4 := Lib.hid (HW3.out.trans (hb4.mono HW3.out.size))
      have HSA4 := Lib.hid (BlkIs.below HSA3.out hb4)
      have HSU4 := Lib.hid (BlkIs.below HSU3.out hb4)
      have HR4 := Lib.hid (HR3.out.below hb4)
      rw [packSN_ok HNX.out] at hown4 ⊢
      obtain ⟨A4, c4, rfl, hr4, _, _, hc4⟩ := hown4.form
      rw [superN_length] at hr4 hc4 ⊢
      have HT4 := Lib.hid hr4
      have hc2 : 256 ≤ c2 := by
        have h := HO2.out.room
        rwa [superN_length] at h
      have hs4 := sup_at HSA4.out
      generalize w2.heap.size = gu at *
      clear hb4 hown4 hr4 HC2 HW3 HSA3 HSU3 HR3 hs2 HO2 HSA2 HB2
      rw [superN_length] at HR4
      by_cases hpar : b % 2 = 1
      · have tp : (b % 2 == 1) = true := by rw [hpar]; rfl
        have HHA := Lib.hid (fun k hk => choose_hurt_a (a := ⟨a, b + 1, r, d, p⟩) (b := ⟨a, b, c, d, p⟩) HNX.out k hk pat)
        have HHB := Lib.hid (fun k hk => choose_hurt_b (a := ⟨a, b + 1, r, d, p⟩) (b := ⟨a, b, c, d, p⟩) HOK.out k hk pat)
        have HLP : Hid ((superN ⟨a, b + 1, r, d, p⟩).length = 256) := superN_length _
        have HLQ : Hid ((superN ⟨a, b, c, d, p⟩).length = 256) := superN_length _
        have HCH := Lib.hid (HOD.out hpar)
        have HPP := HT4
        have HQQ := HR4
        clear HT4 HR4 HEV HOD
        generalize superN ⟨a, b + 1, r, d, p⟩ = P at *
        generalize superN ⟨a, b, c, d, p⟩ = Q at *
        go_wp2_with fail
        refine (choose_any A4 A2 256 c4 256 c2 P Q w4 HPP.out HQQ.out hc4 hc2).mono ?_
        rintro e w5 ⟨he5, hb5⟩
        unfold Chosen at he5
        rw [HCH.out] at he5
        subst he5
        have HB5a := Lib.hid (HB4.out.trans (hb5.mono HB4.out.size))
        have HB5 := Lib.hid (HB5a.out.alloc HB5a.out.size (.cells #[.int .i64 a, .int .i64 (b + 1), .int .i64 r, .int .i64 d, .int .i64 p] 24))
        have HSU5a := Lib.hid (BlkIs.below HSU4.out hb5)
        have HSU5 := Lib.hid (BlkIs.alloc HSU5a.out (.cells #[.int .i64 a, .int .i64 (b + 1), .int .i64 r, .int .i64 d, .int .i64 p] 24))
        have HST5 : Hid (BlkIs (w5.alloc (.cells #[.int .i64 a, .int .i64 (b + 1), .int .i64 r, .int .i64 d, .int .i64 p] 24)) w5.heap.size 24 (supA a (b + 1) r d p)) := BlkIs.new w5 _ _
        have HP5 := Lib.hid ((HPP.out.below hb5).alloc (.cells #[.int .i64 a, .int .i64 (b + 1), .int .i64 r, .int .i64 d, .int .i64 p] 24))
        have HQ5 := Lib.hid ((HQQ.out.below hb5).alloc (.cells #[.int .i64 a, .int .i64 (b + 1), .int .i64 r, .int .i64 d, .int .i64 p] 24))
        have hu5 := sup_at HSU5.out
        have hgt : gu < w5.heap.size := BlkIs.lt HSU5a.out
        have hgw : w.heap.size ≤ w5.heap.size := HB5a.out.size
        clear hb5 HPP HQQ HB5a HSU5a hs4 HSA4 HSU4 HB4
        unfold supV
        dsimp only
        obtain ⟨k', HK1, HK2, HK3⟩ : ∃ k' : Int, Hid (k' = if k < -31 ∨ 512 ≤ k then 470 else k) ∧ -31 ≤ k' ∧ k' < 512 := ⟨_, rfl, by split <;> omega, by split <;> omega⟩
        have HTP := Lib.hid (turned_any A4 256 c4 k' pat 512 P _ HP5.out (by omega) (by omega) (by omega) hp)
        have HTQ := Lib.hid (turned_any A2 256 c2 k' pat 512 Q _ HQ5.out (by omega) (by omega) (by omega) hp)
        have HVA := Lib.hid (HHA.out k' HK3)
        have HVB := Lib.hid (HHB.out k' HK3)
        clear HHA HHB
        by_cases hwh : which.tmod 2 = 0
        · have tw : (which.tmod 2 == 0) = true := by rw [hwh]; rfl
          by_cases hk : k < -31 ∨ 512 ≤ k
          · rw [show k' = 470 by rw [HK1.out, if_pos hk]] at HTP HVA
            clear HK1 HTQ HVB
            go_wp2_with fail
            all_goals
              refine HTP.out.mono ?_
              rintro e w6 ⟨⟨v6, rfl, hown6⟩, hb6⟩
              have HB6 := Lib.hid (HB5.out.trans (hb6.mono HB5.out.size))
              have HSU6 := Lib.hid (BlkIs.below HSU5.out hb6)
              have HST6 := Lib.hid (BlkIs.below HST5.out hb6)
              have HY6 := Lib.hid (HQ5.out.below hb6)
              have hl6 := turnL_length P 470 pat 512 32
              rw [HLP.out] at hl6
              have HN6 := Lib.hid (turnL_none (xs := P) (k := 470) (pat := pat) (lim := 512) 32)
              generalize (turnL P 470 pat 512 32).1 = u at *
              generalize (turnL P 470 pat 512 32).2 = n at *
              obtain ⟨A6, c6, rfl, hr6, _, _, hc6⟩ := hown6.form
              rw [hl6] at hr6 hc6 ⊢
              have HU6 := Lib.hid hr6
              generalize w5.heap.size = gt at *
              clear hb6 hown6 hr6 hl6 HTP HB5 HSU5 HST5 HP5 HQ5 hu5
              by_cases h0 : n = 0
              · have HE6 := Lib.hid (HN6.out h0)
                rw [HE6.out] at HU6
                subst h0
                clear HN6 HE6 HVA
                go_wp2_with fail
                refine (choose_any A6 A2 256 c6 256 c2 P Q w6 HU6.out HY6.out hc6 hc2).mono ?_
                rintro e w7 ⟨he7, hb7⟩
                unfold Chosen at he7
                rw [HCH.out] at he7
                subst he7
                have HB7 := Lib.hid (HB6.out.trans (hb7.mono HB6.out.size))
                have HSU7 := Lib.hid (BlkIs.below HSU6.out hb7)
                have HST7 := Lib.hid (BlkIs.below HST6.out hb7)
                have hu7 := sup_at HSU7.out
                have ht7 := sup_at HST7.out
                have hf7 := sup_froz HST7.out
                have hne : ¬ gt = gu := by omega
                have hne2 : ¬ gu = gt := by omega
                clear hb7 HSU6 HST6
                unfold supV
                dsimp only
                go_wp2_with fail
                go_ret
                exact ⟨rfl, sup5_below (g := gt) HB7.out hgw⟩
              · have HV7 := Lib.hid (HVA.out.resolve_left h0)
                have ht : ((n : Int) == 0) = false := by rw [beq_eq_false_iff_ne]; omega
                clear h0 HVA HN6
                go_wp2_with fail
                refine (choose_any A6 A2 256 c6 256 c2 u Q w6 HU6.out HY6.out hc6 hc2).mono ?_
                rintro e w7 ⟨he7, hb7⟩
                unfold Chosen at he7
                rw [HV7.out] at he7
                subst he7
                have HB7 := Lib.hid (HB6.out.trans (hb7.mono HB6.out.size))
                have HST7 := Lib.hid (BlkIs.below HST6.out hb7)
                have ht7 := sup_at HST7.out
                have hf7 := sup_froz HST7.out
                clear hb7 HSU6 HST6
                unfold supV Sup.zero
                dsimp only
                go_wp2_with fail
                go_ret
                exact ⟨rfl, sup5_below (g := gt) HB7.out hgw⟩
          · obtain rfl : k = k' := by rw [HK1.out, if_neg hk]
            clear HK1 HTQ HVB
            go_wp2_with fail
            all_goals
              refine HTP.out.mono ?_
              rintro e w6 ⟨⟨v6, rfl, hown6⟩, hb6⟩
              have HB6 := Lib.hid (HB5.out.trans (hb6.mono HB5.out.size))
              have HSU6 := Lib.hid (BlkIs.below HSU5.out hb6)
              have HST6 := Lib.hid (BlkIs.below HST5.out hb6)
              have HY6 := Lib.hid (HQ5.out.below hb6)
              have hl6 := turnL_length P k pat 512 32
              rw [HLP.out] at hl6
              have HN6 := Lib.hid (turnL_none (xs := P) (k := k) (pat := pat) (lim := 512) 32)
              generalize (turnL P k pat 512 32).1 = u at *
              generalize (turnL P k pat 512 32).2 = n at *
              obtain ⟨A6, c6, rfl, hr6, _, _, hc6⟩ := hown6.form
              rw [hl6] at hr6 hc6 ⊢
              have HU6 := Lib.hid hr6
              generalize w5.heap.size = gt at *
              clear hb6 hown6 hr6 hl6 HTP HB5 HSU5 HST5 HP5 HQ5 hu5
              by_cases h0 : n = 0
              · have HE6 := Lib.hid (HN6.out h0)
                rw [HE6.out] at HU6
                subst h0
                clear HN6 HE6 HVA
                go_wp2_with fail
                refine (choose_any A6 A2 256 c6 256 c2 P Q w6 HU6.out HY6.out hc6 hc2).mono ?_
                rintro e w7 ⟨he7, hb7⟩
                unfold Chosen at he7
                rw [HCH.out] at he7
                subst he7
                have HB7 := Lib.hid (HB6.out.trans (hb7.mono HB6.out.size))
                have HSU7 := Lib.hid (BlkIs.below HSU6.out hb7)
                have HST7 := Lib.hid (BlkIs.below HST6.out hb7)
                have hu7 := sup_at HSU7.out
                have ht7 := sup_at HST7.out
                have hf7 := sup_froz HST7.out
                have hne : ¬ gt = gu := by omega
                have hne2 : ¬ gu = gt := by omega
                clear hb7 HSU6 HST6
                unfold supV
                dsimp only
                go_wp2_with fail
                go_ret
                exact ⟨rfl, sup5_below (g := gt) HB7.out hgw⟩
              · have HV7 := Lib.hid (HVA.out.resolve_left h0)
                have ht : ((n : Int) == 0) = false := by rw [beq_eq_false_iff_ne]; omega
                clear h0 HVA HN6
                go_wp2_with fail
                refine (choose_any A6 A2 256 c6 256 c2 u Q w6 HU6.out HY6.out hc6 hc2).mono ?_
                rintro e w7 ⟨he7, hb7⟩
                unfold Chosen at he7
                rw [HV7.out] at he7
                subst he7
                have HB7 := Lib.hid (HB6.out.trans (hb7.mono HB6.out.size))
                have HST7 := Lib.hid (BlkIs.below HST6.out hb7)
                have ht7 := sup_at HST7.out
                have hf7 := sup_froz HST7.out
                clear hb7 HSU6 HST6
                unfold supV Sup.zero
                dsimp only
                go_wp2_with fail
                go_ret
                exact ⟨rfl, sup5_below (g := gt) HB7.out hgw⟩
        · have tw : (which.tmod 2 == 0) = false := by rw [beq_eq_false_iff_ne]; exact hwh
          by_cases hk : k < -31 ∨ 512 ≤ k
          · rw [show k' = 470 by rw [HK1.out, if_pos hk]] at HTQ HVB
            clear HK1 HTP HVA
            go_wp2_with fail
            all_goals
              refine HTQ.out.mono ?_
              rintro e w6 ⟨⟨v6, rfl, hown6⟩, hb6⟩
              have HB6 := Lib.hid (HB5.out.trans (hb6.mono HB5.out.size))
              have HSU6 := Lib.hid (BlkIs.below HSU5.out hb6)
              have HST6 := Lib.hid (BlkIs.below HST5.out hb6)
              have HY6 := Lib.hid (HP5.out.below hb6)
              have hl6 := turnL_length Q 470 pat 512 32
              rw [HLQ.out] at hl6
              have HN6 := Lib.hid (turnL_none (xs := Q) (k := 470) (pat := pat) (lim := 512) 32)
              generalize (turnL Q 470 pat 512 32).1 = u at *
              generalize (turnL Q 470 pat 512 32).2 = n at *
              obtain ⟨A6, c6, rfl, hr6, _, _, hc6⟩ := hown6.form
              rw [hl6] at hr6 hc6 ⊢
              have HU6 := Lib.hid hr6
              generalize w5.heap.size = gt at *
              clear hb6 hown6 hr6 hl6 HTQ HB5 HSU5 HST5 HP5 HQ5 hu5
              by_cases h0 : n = 0
              · have HE6 := Lib.hid (HN6.out h0)
                rw [HE6.out] at HU6
                subst h0
                clear HN6 HE6 HVB
                go_wp2_with fail
                refine (choose_any A4 A6 256 c4 256 c6 P Q w6 HY6.out HU6.out hc4 hc6).mono ?_
                rintro e w7 ⟨he7, hb7⟩
                unfold Chosen at he7
                rw [HCH.out] at he7
                subst he7
                have HB7 := Lib.hid (HB6.out.trans (hb7.mono HB6.out.size))
                have HSU7 := Lib.hid (BlkIs.below HSU6.out hb7)
                have HST7 := Lib.hid (BlkIs.below HST6.out hb7)
                have hu7 := sup_at HSU7.out
                have ht7 := sup_at HST7.out
                have hf7 := sup_froz HST7.out
                have hne : ¬ gt = gu := by omega
                have hne2 : ¬ gu = gt := by omega
                clear hb7 HSU6 HST6
                unfold supV
                dsimp only
                go_wp2_with fail
                go_ret
                exact ⟨rfl, sup5_below (g := gt) HB7.out hgw⟩
              · have HV7 := Lib.hid (HVB.out.resolve_left h0)
                have ht : ((n : Int) == 0) = false := by rw [beq_eq_false_iff_ne]; omega
                clear h0 HVB HN6
                go_wp2_with fail
                refine (choose_any A4 A6 256 c4 256 c6 P u w6 HY6.out HU6.out hc4 hc6).mono ?_
                rintro e w7 ⟨he7, hb7⟩
                unfold Chosen at he7
                rw [HV7.out] at he7
                subst he7
                have HB7 := Lib.hid (HB6.out.trans (hb7.mono HB6.out.size))
                have HST7 := Lib.hid (BlkIs.below HST6.out hb7)
                have ht7 := sup_at HST7.out
                have hf7 := sup_froz HST7.out
                clear hb7 HSU6 HST6
                unfold supV Sup.zero
                dsimp only
                go_wp2_with fail
                go_ret
                exact ⟨rfl, sup5_below (g := gt) HB7.out hgw⟩
          · obtain rfl : k = k' := by rw [HK1.out, if_neg hk]
            clear HK1 HTP HVA
            go_wp2_with fail
            all_goals
              refine HTQ.out.mono ?_
              rintro e w6 ⟨⟨v6, rfl, hown6⟩, hb6⟩
              have HB6 := Lib.hid (HB5.out.trans (hb6.mono HB5.out.size))
              have HSU6 := Lib.hid (BlkIs.below HSU5.out hb6)
              have HST6 := Lib.hid (BlkIs.below HST5.out hb6)
              have HY6 := Lib.hid (HP5.out.below hb6)
              have hl6 := turnL_length Q k pat 512 32
              rw [HLQ.out] at hl6
              have HN6 := Lib.hid (turnL_none (xs := Q) (k := k) (pat := pat) (lim := 512) 32)
              generalize (turnL Q k pat 512 32).1 = u at *
              generalize (turnL Q k pat 512 32).2 = n at *
              obtain ⟨A6, c6, rfl, hr6, _, _, hc6⟩ := hown6.form
              rw [hl6] at hr6 hc6 ⊢
              have HU6 := Lib.hid hr6
              generalize w5.heap.size = gt at *
              clear hb6 hown6 hr6 hl6 HTQ HB5 HSU5 HST5 HP5 HQ5 hu5
              by_cases h0 : n = 0
              · have HE6 := Lib.hid (HN6.out h0)
                rw [HE6.out] at HU6
                subst h0
                clear HN6 HE6 HVB
                go_wp2_with fail
                refine (choose_any A4 A6 256 c4 256 c6 P Q w6 HY6.out HU6.out hc4 hc6).mono ?_
                rintro e w7 ⟨he7, hb7⟩
                unfold Chosen at he7
                rw [HCH.out] at he7
                subst he7
                have HB7 := Lib.hid (HB6.out.trans (hb7.mono HB6.out.size))
                have HSU7 := Lib.hid (BlkIs.below HSU6.out hb7)
                have HST7 := Lib.hid (BlkIs.below HST6.out hb7)
                have hu7 := sup_at HSU7.out
                have ht7 := sup_at HST7.out
                have hf7 := sup_froz HST7.out
                have hne : ¬ gt = gu := by omega
                have hne2 : ¬ gu = gt := by omega
                clear hb7 HSU6 HST6
                unfold supV
                dsimp only
                go_wp2_with fail
                go_ret
                exact ⟨rfl, sup5_below (g := gt) HB7.out hgw⟩
              · have HV7 := Lib.hid (HVB.out.resolve_left h0)
                have ht : ((n : Int) == 0) = false := by rw [beq_eq_false_iff_ne]; omega
                clear h0 HVB HN6
                go_wp2_with fail
                refine (choose_any A4 A6 256 c4 256 c6 P u w6 HY6.out HU6.out hc4 hc6).mono ?_
                rintro e w7 ⟨he7, hb7⟩
                unfold Chosen at he7
                rw [HV7.out] at he7
                subst he7
                have HB7 := Lib.hid (HB6.out.trans (hb7.mono HB6.out.size))
                have HST7 := Lib.hid (BlkIs.below HST6.out hb7)
                have ht7 := sup_at HST7.out
                have hf7 := sup_froz HST7.out
                clear hb7 HSU6 HST6
                unfold supV Sup.zero
                dsimp only
                go_wp2_with fail
                go_ret
                exact ⟨rfl, sup5_below (g := gt) HB7.out hgw⟩
      · have tp : (b % 2 == 1) = false := by rw [beq_eq_false_iff_ne]; exact hpar
        have HHA := Lib.hid (fun k hk => choose_hurt_a (a := ⟨a, b, c, d, p⟩) (b := ⟨a, b + 1, r, d, p⟩) HOK.out k hk pat)
        have HHB := Lib.hid (fun k hk => choose_hurt_b (a := ⟨a, b, c, d, p⟩) (b := ⟨a, b + 1, r, d, p⟩) HNX.out k hk pat)
        have HLP : Hid ((superN ⟨a, b, c, d, p⟩).length = 256) := superN_length _
        have HLQ : Hid ((superN ⟨a, b + 1, r, d, p⟩).length = 256) := superN_length _
        have HCH := Lib.hid (HEV.out (by omega))
        have HPP := HR4
        have HQQ := HT4
        clear HR4 HT4 HEV HOD
        generalize superN ⟨a, b, c, d, p⟩ = P at *
        generalize superN ⟨a, b + 1, r, d, p⟩ = Q at *
        go_wp2_with fail
        refine (choose_any A2 A4 256 c2 256 c4 P Q w4 HPP.out HQQ.out hc2 hc4).mono ?_
        rintro e w5 ⟨he5, hb5⟩
        unfold Chosen at he5
        rw [HCH.out] at he5
        subst he5
        have HB5a := Lib.hid (HB4.out.trans (hb5.mono HB4.out.size))
        have HB5 := Lib.hid (HB5a.out.alloc HB5a.out.size (.cells #[.int .i64 a, .int .i64 (b + 1), .int .i64 r, .int .i64 d, .int .i64 p] 24))
        have HSU5a := Lib.hid (BlkIs.below HSU4.out hb5)
        have HSU5 := Lib.hid (BlkIs.alloc HSU5a.out (.cells #[.int .i64 a, .int .i64 (b + 1), .int .i64 r, .int .i64 d, .int .i64 p] 24))
        have HST5 : Hid (BlkIs (w5.alloc (.cells #[.int .i64 a, .int .i64 (b + 1), .int .i64 r, .int .i64 d, .int .i64 p] 24)) w5.heap.size 24 (supA a (b + 1) r d p)) := BlkIs.new w5 _ _
        have HP5 := Lib.hid ((HPP.out.below hb5).alloc (.cells #[.int .i64 a, .int .i64 (b + 1), .int .i64 r, .int .i64 d, .int .i64 p] 24))
        have HQ5 := Lib.hid ((HQQ.out.below hb5).alloc (.cells #[.int .i64 a, .int .i64 (b + 1), .int .i64 r, .int .i64 d, .int .i64 p] 24))
        have hu5 := sup_at HSU5.out
        have hgt : gu < w5.heap.size := BlkIs.lt HSU5a.out
        have hgw : w.heap.size ≤ w5.heap.size := HB5a.out.size
        clear hb5 HPP HQQ HB5a HSU5a hs4 HSA4 HSU4 HB4
        unfold supV
        dsimp only
        obtain ⟨k', HK1, HK2, HK3⟩ : ∃ k' : Int, Hid (k' = if k < -31 ∨ 512 ≤ k then 470 else k) ∧ -31 ≤ k' ∧ k' < 512 := ⟨_, rfl, by split <;> omega, by split <;> omega⟩
        have HTP := Lib.hid (turned_any A2 256 c2 k' pat 512 P _ HP5.out (by omega) (by omega) (by omega) hp)
        have HTQ := Lib.hid (turned_any A4 256 c4 k' pat 512 Q _ HQ5.out (by omega) (by omega) (by omega) hp)
        have HVA := Lib.hid (HHA.out k' HK3)
        have HVB := Lib.hid (HHB.out k' HK3)
        clear HHA HHB
        by_cases hwh : which.tmod 2 = 0
        · have tw : (which.tmod 2 == 0) = true := by rw [hwh]; rfl
          by_cases hk : k < -31 ∨ 512 ≤ k
          · rw [show k' = 470 by rw [HK1.out, if_pos hk]] at HTP HVA
            clear HK1 HTQ HVB
            go_wp2_with fail
            all_goals
              refine HTP.out.mono ?_
              rintro e w6 ⟨⟨v6, rfl, hown6⟩, hb6⟩
              have HB6 := Lib.hid (HB5.out.trans (hb6.mono HB5.out.size))
              have HSU6 := Lib.hid (BlkIs.below HSU5.out hb6)
              have HST6 := Lib.hid (BlkIs.below HST5.out hb6)
              have HY6 := Lib.hid (HQ5.out.below hb6)
              have hl6 := turnL_length P 470 pat 512 32
              rw [HLP.out] at hl6
              have HN6 := Lib.hid (turnL_none (xs := P) (k := 470) (pat := pat) (lim := 512) 32)
              generalize (turnL P 470 pat 512 32).1 = u at *
              generalize (turnL P 470 pat 512 32).2 = n at *
              obtain ⟨A6, c6, rfl, hr6, _, _, hc6⟩ := hown6.form
              rw [hl6] at hr6 hc6 ⊢
              have HU6 := Lib.hid hr6
              generalize w5.heap.size = gt at *
              clear hb6 hown6 hr6 hl6 HTP HB5 HSU5 HST5 HP5 HQ5 hu5
              by_cases h0 : n = 0
              · have HE6 := Lib.hid (HN6.out h0)
                rw [HE6.out] at HU6
                subst h0
                clear HN6 HE6 HVA
                go_wp2_with fail
                refine (choose_any A6 A4 256 c6 256 c4 P Q w6 HU6.out HY6.out hc6 hc4).mono ?_
                rintro e w7 ⟨he7, hb7⟩
                unfold Chosen at he7
                rw [HCH.out] at he7
                subst he7
                have HB7 := Lib.hid (HB6.out.trans (hb7.mono HB6.out.size))
                have HSU7 := Lib.hid (BlkIs.below HSU6.out hb7)
                have HST7 := Lib.hid (BlkIs.below HST6.out hb7)
                have hu7 := sup_at HSU7.out
                have ht7 := sup_at HST7.out
                have hf7 := sup_froz HST7.out
                have hne : ¬ gt = gu := by omega
                have hne2 : ¬ gu = gt := by omega
                clear hb7 HSU6 HST6
                unfold supV
                dsimp only
                go_wp2_with fail
                go_ret
                exact ⟨rfl, sup5_below (g := gt) HB7.out hgw⟩
              · have HV7 := Lib.hid (HVA.out.resolve_left h0)
                have ht : ((n : Int) == 0) = false := by rw [beq_eq_false_iff_ne]; omega
                clear h0 HVA HN6
                go_wp2_with fail
                refine (choose_any A6 A4 256 c6 256 c4 u Q w6 HU6.out HY6.out hc6 hc4).mono ?_
                rintro e w7 ⟨he7, hb7⟩
                unfold Chosen at he7
                rw [HV7.out] at he7
                subst he7
                have HB7 := Lib.hid (HB6.out.trans (hb7.mono HB6.out.size))
                have HST7 := Lib.hid (BlkIs.below HST6.out hb7)
                have ht7 := sup_at HST7.out
                have hf7 := sup_froz HST7.out
                clear hb7 HSU6 HST6
                unfold supV Sup.zero
                dsimp only
                go_wp2_with fail
                go_ret
                exact ⟨rfl, sup5_below (g := gt) HB7.out hgw⟩
          · obtain rfl : k = k' := by rw [HK1.out, if_neg hk]
            clear HK1 HTQ HVB
            go_wp2_with fail
            all_goals
              refine HTP.out.mono ?_
              rintro e w6 ⟨⟨v6, rfl, hown6⟩, hb6⟩
              have HB6 := Lib.hid (HB5.out.trans (hb6.mono HB5.out.size))
              have HSU6 := Lib.hid (BlkIs.below HSU5.out hb6)
              have HST6 := Lib.hid (BlkIs.below HST5.out hb6)
              have HY6 := Lib.hid (HQ5.out.below hb6)
              have hl6 := turnL_length P k pat 512 32
              rw [HLP.out] at hl6
              have HN6 := Lib.hid (turnL_none (xs := P) (k := k) (pat := pat) (lim := 512) 32)
              generalize (turnL P k pat 512 32).1 = u at *
              generalize (turnL P k pat 512 32).2 = n at *
              obtain ⟨A6, c6, rfl, hr6, _, _, hc6⟩ := hown6.form
              rw [hl6] at hr6 hc6 ⊢
              have HU6 := Lib.hid hr6
              generalize w5.heap.size = gt at *
              clear hb6 hown6 hr6 hl6 HTP HB5 HSU5 HST5 HP5 HQ5 hu5
              by_cases h0 : n = 0
              · have HE6 := Lib.hid (HN6.out h0)
                rw [HE6.out] at HU6
                subst h0
                clear HN6 HE6 HVA
                go_wp2_with fail
                refine (choose_any A6 A4 256 c6 256 c4 P Q w6 HU6.out HY6.out hc6 hc4).mono ?_
                rintro e w7 ⟨he7, hb7⟩
                unfold Chosen at he7
                rw [HCH.out] at he7
                subst he7
                have HB7 := Lib.hid (HB6.out.trans (hb7.mono HB6.out.size))
                have HSU7 := Lib.hid (BlkIs.below HSU6.out hb7)
                have HST7 := Lib.hid (BlkIs.below HST6.out hb7)
                have hu7 := sup_at HSU7.out
                have ht7 := sup_at HST7.out
                have hf7 := sup_froz HST7.out
                have hne : ¬ gt = gu := by omega
                have hne2 : ¬ gu = gt := by omega
                clear hb7 HSU6 HST6
                unfold supV
                dsimp only
                go_wp2_with fail
                go_ret
                exact ⟨rfl, sup5_below (g := gt) HB7.out hgw⟩
              · have HV7 := Lib.hid (HVA.out.resolve_left h0)
                have ht : ((n : Int) == 0) = false := by rw [beq_eq_false_iff_ne]; omega
                clear h0 HVA HN6
                go_wp2_with fail
                refine (choose_any A6 A4 256 c6 256 c4 u Q w6 HU6.out HY6.out hc6 hc4).mono ?_
                rintro e w7 ⟨he7, hb7⟩
                unfold Chosen at he7
                rw [HV7.out] at he7
                subst he7
                have HB7 := Lib.hid (HB6.out.trans (hb7.mono HB6.out.size))
                have HST7 := Lib.hid (BlkIs.below HST6.out hb7)
                have ht7 := sup_at HST7.out
                have hf7 := sup_froz HST7.out
                clear hb7 HSU6 HST6
                unfold supV Sup.zero
                dsimp only
                go_wp2_with fail
                go_ret
                exact ⟨rfl, sup5_below (g := gt) HB7.out hgw⟩
        · have tw : (which.tmod 2 == 0) = false := by rw [beq_eq_false_iff_ne]; exact hwh
          by_cases hk : k < -31 ∨ 512 ≤ k
          · rw [show k' = 470 by rw [HK1.out, if_pos hk]] at HTQ HVB
            clear HK1 HTP HVA
            go_wp2_with fail
            all_goals
              refine HTQ.out.mono ?_
              rintro e w6 ⟨⟨v6, rfl, hown6⟩, hb6⟩
              have HB6 := Lib.hid (HB5.out.trans (hb6.mono HB5.out.size))
              have HSU6 := Lib.hid (BlkIs.below HSU5.out hb6)
              have HST6 := Lib.hid (BlkIs.below HST5.out hb6)
              have HY6 := Lib.hid (HP5.out.below hb6)
              have hl6 := turnL_length Q 470 pat 512 32
              rw [HLQ.out] at hl6
              have HN6 := Lib.hid (turnL_none (xs := Q) (k := 470) (pat := pat) (lim := 512) 32)
              generalize (turnL Q 470 pat 512 32).1 = u at *
              generalize (turnL Q 470 pat 512 32).2 = n at *
              obtain ⟨A6, c6, rfl, hr6, _, _, hc6⟩ := hown6.form
              rw [hl6] at hr6 hc6 ⊢
              have HU6 := Lib.hid hr6
              generalize w5.heap.size = gt at *
              clear hb6 hown6 hr6 hl6 HTQ HB5 HSU5 HST5 HP5 HQ5 hu5
              by_cases h0 : n = 0
              · have HE6 := Lib.hid (HN6.out h0)
                rw [HE6.out] at HU6
                subst h0
                clear HN6 HE6 HVB
                go_wp2_with fail
                refine (choose_any A2 A6 256 c2 256 c6 P Q w6 HY6.out HU6.out hc2 hc6).mono ?_
                rintro e w7 ⟨he7, hb7⟩
                unfold Chosen at he7
                rw [HCH.out] at he7
                subst he7
                have HB7 := Lib.hid (HB6.out.trans (hb7.mono HB6.out.size))
                have HSU7 := Lib.hid (BlkIs.below HSU6.out hb7)
                have HST7 := Lib.hid (BlkIs.below HST6.out hb7)
                have hu7 := sup_at HSU7.out
                have ht7 := sup_at HST7.out
                have hf7 := sup_froz HST7.out
                have hne : ¬ gt = gu := by omega
                have hne2 : ¬ gu = gt := by omega
                clear hb7 HSU6 HST6
                unfold supV
                dsimp only
                go_wp2_with fail
                go_ret
                exact ⟨rfl, sup5_below (g := gt) HB7.out hgw⟩
              · have HV7 := Lib.hid (HVB.out.resolve_left h0)
                have ht : ((n : Int) == 0) = false := by rw [beq_eq_false_iff_ne]; omega
                clear h0 HVB HN6
                go_wp2_with fail
                refine (choose_any A2 A6 256 c2 256 c6 P u w6 HY6.out HU6.out hc2 hc6).mono ?_
                rintro e w7 ⟨he7, hb7⟩
                unfold Chosen at he7
                rw [HV7.out] at he7
                subst he7
                have HB7 := Lib.hid (HB6.out.trans (hb7.mono HB6.out.size))
                have HST7 := Lib.hid (BlkIs.below HST6.out hb7)
                have ht7 := sup_at HST7.out
                have hf7 := sup_froz HST7.out
                clear hb7 HSU6 HST6
                unfold supV Sup.zero
                dsimp only
                go_wp2_with fail
                go_ret
                exact ⟨rfl, sup5_below (g := gt) HB7.out hgw⟩
          · obtain rfl : k = k' := by rw [HK1.out, if_neg hk]
            clear HK1 HTP HVA
            go_wp2_with fail
            all_goals
              refine HTQ.out.mono ?_
              rintro e w6 ⟨⟨v6, rfl, hown6⟩, hb6⟩
              have HB6 := Lib.hid (HB5.out.trans (hb6.mono HB5.out.size))
              have HSU6 := Lib.hid (BlkIs.below HSU5.out hb6)
              have HST6 := Lib.hid (BlkIs.below HST5.out hb6)
              have HY6 := Lib.hid (HP5.out.below hb6)
              have hl6 := turnL_length Q k pat 512 32
              rw [HLQ.out] at hl6
              have HN6 := Lib.hid (turnL_none (xs := Q) (k := k) (pat := pat) (lim := 512) 32)
              generalize (turnL Q k pat 512 32).1 = u at *
              generalize (turnL Q k pat 512 32).2 = n at *
              obtain ⟨A6, c6, rfl, hr6, _, _, hc6⟩ := hown6.form
              rw [hl6] at hr6 hc6 ⊢
              have HU6 := Lib.hid hr6
              generalize w5.heap.size = gt at *
              clear hb6 hown6 hr6 hl6 HTQ HB5 HSU5 HST5 HP5 HQ5 hu5
              by_cases h0 : n = 0
              · have HE6 := Lib.hid (HN6.out h0)
                rw [HE6.out] at HU6
                subst h0
                clear HN6 HE6 HVB
                go_wp2_with fail
                refine (choose_any A2 A6 256 c2 256 c6 P Q w6 HY6.out HU6.out hc2 hc6).mono ?_
                rintro e w7 ⟨he7, hb7⟩
                unfold Chosen at he7
                rw [HCH.out] at he7
                subst he7
                have HB7 := Lib.hid (HB6.out.trans (hb7.mono HB6.out.size))
                have HSU7 := Lib.hid (BlkIs.below HSU6.out hb7)
                have HST7 := Lib.hid (BlkIs.below HST6.out hb7)
                have hu7 := sup_at HSU7.out
                have ht7 := sup_at HST7.out
                have hf7 := sup_froz HST7.out
                have hne : ¬ gt = gu := by omega
                have hne2 : ¬ gu = gt := by omega
                clear hb7 HSU6 HST6
                unfold supV
                dsimp only
                go_wp2_with fail
                go_ret
                exact ⟨rfl, sup5_below (g := gt) HB7.out hgw⟩
              · have HV7 := Lib.hid (HVB.out.resolve_left h0)
                have ht : ((n : Int) == 0) = false := by rw [beq_eq_false_iff_ne]; omega
                clear h0 HVB HN6
                go_wp2_with fail
                refine (choose_any A2 A6 256 c2 256 c6 P u w6 HY6.out HU6.out hc2 hc6).mono ?_
                rintro e w7 ⟨he7, hb7⟩
                unfold Chosen at he7
                rw [HV7.out] at he7
                subst he7
                have HB7 := Lib.hid (HB6.out.trans (hb7.mono HB6.out.size))
                have HST7 := Lib.hid (BlkIs.below HST6.out hb7)
                have ht7 := sup_at HST7.out
                have hf7 := sup_froz HST7.out
                clear hb7 HSU6 HST6
                unfold supV Sup.zero
                dsimp only
                go_wp2_with fail
                go_ret
                exact ⟨rfl, sup5_below (g := gt) HB7.out hgw⟩
    · go_wp2_with fail
      go_ret
      exact ⟨rfl, HB2.out⟩
  · rw [packSN_bad hok] at hown2 ⊢
    obtain ⟨A', c', rfl, _⟩ := hown2.form
    clear hown2 hok
    go_wp2_with fail
    go_ret
    exact ⟨rfl, HB2.out⟩
end Go.Proofs.Ytbjbpgbpefkbhaa
