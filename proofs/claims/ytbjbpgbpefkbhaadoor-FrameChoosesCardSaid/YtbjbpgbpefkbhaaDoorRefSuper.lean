/- ledgerref5.Valid, Super, PackSuper. -/
import Derived.Test.YtbjbpgbpefkbhaaDoorRefPack
import Derived.Test.YtbjbpgbpefkbhaaDoorPackSuper
namespace Go.Proofs.YtbjbpgbpefkbhaaDoor
open Go.RowKit
set_option maxHeartbeats 400000 in
theorem refValid_any (s : Sup) (w : World) : Calls Tryd.prog 29 #[supV s] w fun e w' => e = .returned (.bool (decide s.Ok)) ∧ Below w.heap.size w w' := by
  obtain ⟨a, b, c, d, p⟩ := s
  have HD : Hid ((decide (Sup.Ok ⟨a, b, c, d, p⟩)) = decide ((1 ≤ a ∧ a ≤ 32) ∧ (0 ≤ b ∧ b ≤ 1099511627776) ∧ (3 ≤ p ∧ p ≤ 4096) ∧ (2 ≤ c ∧ c ≤ p) ∧ (d = 0 ∨ 2 ≤ d ∧ d < c))) := rfl
  unfold supV
  dsimp only
  generalize decide (Sup.Ok ⟨a, b, c, d, p⟩) = ok at *
  go_enter Tryd.func29, Tryd.ntmps29
  go_wp2
  all_goals
    go_ret
    refine ⟨ret_bool ?_, (Below.refl _ _).alloc (Nat.le_refl _) _⟩
    rw [HD.out, Bool.eq_iff_iff]
    simp
    omega
def headN (an : Nat) : List Nat := [76, 68, 71, 49, an, 0, 0, 0]
theorem fil_super {a b c d p : Nat} : filN ((((headN a ++ leN b 8) ++ leN c 4) ++ leN d 4) ++ leN p 4) 60 = sbodyN ⟨a, b, c, d, p⟩ := by
  unfold filN
  have hl : ((((headN a ++ leN b 8) ++ leN c 4) ++ leN d 4) ++ leN p 4).length = 28 := by simp [leN_length, headN]
  rw [hl, List.take_of_length_le (by omega)]
  simp only [List.append_assoc]
  rfl
theorem fil_sect (s : Sup) : filN (sectN s) 256 = superN s := by
  unfold filN
  rw [sectN_length, List.take_of_length_le (by rw [sectN_length]; omega)]
  rfl
set_option maxHeartbeats 2000000 in
theorem refSuper_any (an bn cn dn pn : Nat) (w : World) (hok : Sup.Ok ⟨an, bn, cn, dn, pn⟩) (hd : DivT w) :
    Calls Tryd.prog 30 #[.agg #[.int .i64 an, .int .i64 bn, .int .i64 cn, .int .i64 dn, .int .i64 pn]] w fun e w' => ∃ v, e = .returned v ∧ OwnU w' w.heap.size v (superN ⟨an, bn, cn, dn, pn⟩) ∧ Below w.heap.size w w' := by
  have HD := Lib.hid hd
  have HOK := Lib.hid hok
  have ho := hok
  unfold Sup.Ok at ho
  dsimp only at ho
  have HSA0 : Hid (BlkIs (w.alloc (.cells #[.int .i64 an, .int .i64 bn, .int .i64 cn, .int .i64 dn, .int .i64 pn] 23)) w.heap.size 23 (supA an bn cn dn pn)) := BlkIs.new w _ _
  have HB0 := Lib.hid ((Below.refl w.heap.size w).alloc (Nat.le_refl _) (.cells #[.int .i64 an, .int .i64 bn, .int .i64 cn, .int .i64 dn, .int .i64 pn] 23))
  clear hd hok
  go_enter Tryd.func30, Tryd.ntmps30
  go_wp2_with fail
  obtain ⟨w1, HW1⟩ : ∃ w1, Hid (w1 = (w.alloc (.cells #[.int .i64 an, .int .i64 bn, .int .i64 cn, .int .i64 dn, .int .i64 pn] 23)).alloc (.cells #[.int .u8 76, .int .u8 68, .int .u8 71, .int .u8 49, .int .u8 (an : Int), .int .u8 0, .int .u8 0, .int .u8 0] 5)) := ⟨_, rfl⟩
  rw [← HW1.out]
  have HB1 : Hid (Below w.heap.size w w1) := by rw [HW1.out]; exact HB0.out.alloc HB0.out.size _
  have HSA1 : Hid (BlkIs w1 w.heap.size 23 (supA an bn cn dn pn)) := by rw [HW1.out]; exact BlkIs.alloc HSA0.out _
  have HR1 : Hid (RB w1 (some ⟨w.heap.size + 1, 0, none⟩) 8 (headN an)) := by
    have h := RB_new (w.alloc (.cells #[.int .i64 an, .int .i64 bn, .int .i64 cn, .int .i64 dn, .int .i64 pn] 23)) 5 #[.int .u8 76, .int .u8 68, .int .u8 71, .int .u8 49, .int .u8 (an : Int), .int .u8 0, .int .u8 0, .int .u8 0] (0, 0) (headN an) (fun x hx => by simp [headN] at hx; omega) rfl
    rw [HW1.out, show w.heap.size + 1 = (w.alloc (.cells #[.int .i64 an, .int .i64 bn, .int .i64 cn, .int .i64 dn, .int .i64 pn] 23)).heap.size by simp]
    exact h
  clear HSA0 HB0 HW1
  refine (laid_any bn 8 w1 (by omega) (by omega)).mono ?_
  rintro e w2 ⟨v2, rfl, hown, hb⟩
  have HB2 := Lib.hid (HB1.out.trans (hb.mono HB1.out.size))
  have HSA2 := Lib.hid (BlkIs.below HSA1.out hb)
  have HR2 := Lib.hid (HR1.out.below hb)
  obtain ⟨A2, c2, rfl, hr, _, _, _⟩ := hown.form
  rw [leN_length] at hr ⊢
  have HT2 := Lib.hid hr
  clear hown hb hr HB1 HSA1 HR1
  go_wp2_with fail
  refine (joined_any (some ⟨w.heap.size + 1, 0, none⟩) A2 8 8 8 c2 (headN an) (leN bn 8) w2 HR2.out HT2.out (by omega)).mono ?_
  rintro e w3 ⟨v3, rfl, hown, hb⟩
  have HB3 := Lib.hid (HB2.out.trans (hb.mono HB2.out.size))
  have HSA3 := Lib.hid (BlkIs.below HSA2.out hb)
  obtain ⟨A3, c3, rfl, hr, _, _, _⟩ := hown.form
  rw [show ((headN an) ++ leN bn 8).length = 16 by simp [leN_length, headN]] at hr ⊢
  have HR3 := Lib.hid hr
  clear hown hb hr HB2 HSA2 HR2 HT2
  have hf1 := (sup_at HSA3.out).2.2.1
  go_wp2_with fail
  clear hf1
  refine (laid_any cn 4 w3 (by omega) (by omega)).mono ?_
  rintro e w4 ⟨v4, rfl, hown, hb⟩
  have HB4 := Lib.hid (HB3.out.trans (hb.mono HB3.out.size))
  have HSA4 := Lib.hid (BlkIs.below HSA3.out hb)
  have HR4 := Lib.hid (HR3.out.below hb)
  obtain ⟨A4, c4, rfl, hr, _, _, _⟩ := hown.form
  rw [leN_length] at hr ⊢
  have HT4 := Lib.hid hr
  clear hown hb hr HB3 HSA3 HR3
  go_wp2_with fail
  refine (joined_any A3 A4 16 c3 4 c4 ((headN an) ++ leN bn 8) (leN cn 4) w4 HR4.out HT4.out (by omega)).mono ?_
  rintro e w5 ⟨v5, rfl, hown, hb⟩
  have HB5 := Lib.hid (HB4.out.trans (hb.mono HB4.out.size))
  have HSA5 := Lib.hid (BlkIs.below HSA4.out hb)
  obtain ⟨A5, c5, rfl, hr, _, _, _⟩ := hown.form
  rw [show (((headN an) ++ leN bn 8) ++ leN cn 4).length = 20 by simp [leN_length, headN]] at hr ⊢
  have HR5 := Lib.hid hr
  clear hown hb hr HB4 HSA4 HR4 HT4
  have hf2 := (sup_at HSA5.out).2.2.2.1
  go_wp2_with fail
  clear hf2
  refine (laid_any dn 4 w5 (by omega) (by omega)).mono ?_
  rintro e w6 ⟨v6, rfl, hown, hb⟩
  have HB6 := Lib.hid (HB5.out.trans (hb.mono HB5.out.size))
  have HSA6 := Lib.hid (BlkIs.below HSA5.out hb)
  have HR6 := Lib.hid (HR5.out.below hb)
  obtain ⟨A6, c6, rfl, hr, _, _, _⟩ := hown.form
  rw [leN_length] at hr ⊢
  have HT6 := Lib.hid hr
  clear hown hb hr HB5 HSA5 HR5
  go_wp2_with fail
  refine (joined_any A5 A6 20 c5 4 c6 (((headN an) ++ leN bn 8) ++ leN cn 4) (leN dn 4) w6 HR6.out HT6.out (by omega)).mono ?_
  rintro e w7 ⟨v7, rfl, hown, hb⟩
  have HB7 := Lib.hid (HB6.out.trans (hb.mono HB6.out.size))
  have HSA7 := Lib.hid (BlkIs.below HSA6.out hb)
  obtain ⟨A7, c7, rfl, hr, _, _, _⟩ := hown.form
  rw [show ((((headN an) ++ leN bn 8) ++ leN cn 4) ++ leN dn 4).length = 24 by simp [leN_length, headN]] at hr ⊢
  have HR7 := Lib.hid hr
  clear hown hb hr HB6 HSA6 HR6 HT6
  have hf3 := (sup_at HSA7.out).2.2.2.2
  go_wp2_with fail
  clear hf3
  refine (laid_any pn 4 w7 (by omega) (by omega)).mono ?_
  rintro e w8 ⟨v8, rfl, hown, hb⟩
  have HB8 := Lib.hid (HB7.out.trans (hb.mono HB7.out.size))
  have HSA8 := Lib.hid (BlkIs.below HSA7.out hb)
  have HR8 := Lib.hid (HR7.out.below hb)
  obtain ⟨A8, c8, rfl, hr, _, _, _⟩ := hown.form
  rw [leN_length] at hr ⊢
  have HT8 := Lib.hid hr
  clear hown hb hr HB7 HSA7 HR7
  go_wp2_with fail
  refine (joined_any A7 A8 24 c7 4 c8 ((((headN an) ++ leN bn 8) ++ leN cn 4) ++ leN dn 4) (leN pn 4) w8 HR8.out HT8.out (by omega)).mono ?_
  rintro e w9 ⟨v9, rfl, hown, hb⟩
  have HB9 := Lib.hid (HB8.out.trans (hb.mono HB8.out.size))
  have HSA9 := Lib.hid (BlkIs.below HSA8.out hb)
  obtain ⟨A9, c9, rfl, hr, _, _, _⟩ := hown.form
  rw [show (((((headN an) ++ leN bn 8) ++ leN cn 4) ++ leN dn 4) ++ leN pn 4).length = 28 by simp [leN_length, headN]] at hr ⊢
  have HR9 := Lib.hid hr
  clear hown hb hr HB8 HSA8 HR8 HT8
  go_wp2_with fail
  refine (filled_any A9 28 c9 60 (((((headN an) ++ leN bn 8) ++ leN cn 4) ++ leN dn 4) ++ leN pn 4) w9 HR9.out (by omega)).mono ?_
  rintro e u1 ⟨v11, rfl, hown, hb⟩
  have HD1 := Lib.hid (HB9.out.trans (hb.mono HB9.out.size))
  rw [fil_super] at hown
  obtain ⟨B1, d1, rfl, hr, _, _, _⟩ := hown.form
  rw [sbodyN_length] at hr ⊢
  have HT1 := Lib.hid hr
  clear hown hb hr HB9 HSA9 HR9
  go_wp2_with fail
  refine (refseal_any B1 60 d1 (sbodyN ⟨an, bn, cn, dn, pn⟩) u1 HT1.out (by omega) (HD.out.below HD1.out)).mono ?_
  rintro e u2 ⟨v12, rfl, hown, hb⟩
  have HD2 := Lib.hid (HD1.out.trans (hb.mono HD1.out.size))
  rw [show sealN (sbodyN ⟨an, bn, cn, dn, pn⟩) = sectN ⟨an, bn, cn, dn, pn⟩ from rfl] at hown
  obtain ⟨B2, d2, rfl, hr, _, _, _⟩ := hown.form
  rw [sectN_length] at hr
  have hsl : (sealN (sbodyN ⟨an, bn, cn, dn, pn⟩)).length = 64 := sectN_length _
  first | rw [hsl] | rw [sectN_length]
  have HT2 := Lib.hid hr
  clear hown hb hr HD1 HT1 hsl
  go_wp2_with fail
  refine (filled_any B2 64 d2 256 (sectN ⟨an, bn, cn, dn, pn⟩) u2 HT2.out (by omega)).mono ?_
  rintro e u3 ⟨v13, rfl, hown, hb⟩
  rw [fil_sect] at hown
  have HD3 := Lib.hid (HD2.out.trans (hb.mono HD2.out.size))
  have HO3 := Lib.hid (hown.mono HD2.out.size)
  clear hown hb
  go_wp2_with fail
  go_ret
  exact ⟨_, rfl, HO3.out, HD3.out⟩
set_option maxHeartbeats 400000 in
theorem refPackSuper_any (s : Sup) (w : World) (hd : DivT w) :
    Calls Tryd.prog 10 #[supV s] w fun e w' => PackedS w.heap.size s e w' ∧ Below w.heap.size w w' := by
  obtain ⟨a, b, c, d, p⟩ := s
  have HD := Lib.hid hd
  have HV : Hid (∀ w, Calls Tryd.prog 29 #[.agg #[.int .i64 a, .int .i64 b, .int .i64 c, .int .i64 d, .int .i64 p]] w fun e w' => e = .returned (.bool (decide (Sup.Ok ⟨a, b, c, d, p⟩))) ∧ Below w.heap.size w w') := refValid_any ⟨a, b, c, d, p⟩
  show Calls Tryd.prog 10 #[.agg #[.int .i64 a, .int .i64 b, .int .i64 c, .int .i64 d, .int .i64 p]] w fun e w' => PackedS w.heap.size ⟨a, b, c, d, p⟩ e w' ∧ Below w.heap.size w w'
  have HSB0 : Hid (BlkIs (w.alloc (.cells #[.int .i64 a, .int .i64 b, .int .i64 c, .int .i64 d, .int .i64 p] 23)) w.heap.size 23 (supA a b c d p)) := BlkIs.new w _ _
  clear hd
  by_cases hok : Sup.Ok ⟨a, b, c, d, p⟩
  · rw [decide_eq_true hok] at HV
    have HR := Lib.hid (packSN_ok hok)
    have HOK := Lib.hid hok
    have ho := hok
    unfold Sup.Ok at ho
    dsimp only at ho
    obtain ⟨an, rfl⟩ := Int.eq_ofNat_of_zero_le (show 0 ≤ a by omega)
    obtain ⟨bn, rfl⟩ := Int.eq_ofNat_of_zero_le (show 0 ≤ b by omega)
    obtain ⟨cn, rfl⟩ := Int.eq_ofNat_of_zero_le (show 0 ≤ c by omega)
    obtain ⟨dn, rfl⟩ := Int.eq_ofNat_of_zero_le (show 0 ≤ d by omega)
    obtain ⟨pn, rfl⟩ := Int.eq_ofNat_of_zero_le (show 0 ≤ p by omega)
    clear hok
    go_enter Tryd.func10, Tryd.ntmps10
    go_wp2_with fail
    refine (HV.out _).mono ?_
    rintro e w1 ⟨rfl, hb1⟩
    have HB1 := Lib.hid (((Below.refl w.heap.size w).alloc (Nat.le_refl _) _).trans (hb1.mono (by simp)))
    have hs1 := sup_at (BlkIs.below HSB0.out hb1)
    clear hb1 HSB0 HV
    go_wp2_with fail
    refine (refSuper_any an bn cn dn pn w1 HOK.out (HD.out.below HB1.out)).mono ?_
    rintro e w2 ⟨v2, rfl, hown2, hb2⟩
    have HB2 := Lib.hid (HB1.out.trans (hb2.mono HB1.out.size))
    have HO2 := Lib.hid (hown2.mono HB1.out.size)
    clear hown2 hb2
    go_wp2_with fail
    go_ret2
    exact ⟨⟨_, by rw [HR.out]; rfl, by rw [HR.out]; exact HO2.out⟩, HB2.out⟩
  · rw [decide_eq_false hok] at HV
    have HR := Lib.hid (packSN_bad hok)
    clear hok
    go_enter Tryd.func10, Tryd.ntmps10
    go_wp2_with fail
    refine (HV.out _).mono ?_
    rintro e w1 ⟨rfl, hb1⟩
    have HB1 := Lib.hid (((Below.refl w.heap.size w).alloc (Nat.le_refl _) _).trans (hb1.mono (by simp)))
    clear hb1
    go_wp2_with fail
    go_ret2
    exact ⟨⟨_, by rw [HR.out]; rfl, by rw [HR.out]; exact Own.nil _ _ _⟩, HB1.out⟩
end Go.Proofs.YtbjbpgbpefkbhaaDoor
