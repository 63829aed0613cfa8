/- ledgerlaw5.FrameSuperBursts: the walk. -/
import Derived.Test.YtbjbpgbpefkbhaaKnownSup
import Derived.Test.YtbjbpgbpefkbhaaUnpackSuper
import Derived.Test.YtbjbpgbpefkbhaaTurned
import Derived.Test.YtbjbpgbpefkbhaaSame
import Derived.Test.YtbjbpgbpefkbhaaFew
import Derived.BigQuiet
namespace Go.Proofs.Ytbjbpgbpefkbhaa
open Go.RowKit
theorem burst_sect {s : Sup} (h : s.Ok) (k : Int) (hk : k < 512) (pat : Nat) :
    (turnL (superN s) k pat 512 32).2 = 0 ∨ unsupN (turnL (superN s) k pat 512 32).1 = (Sup.zero, 52) := by
  have e : turnL (superN s) k pat 512 32 = ((turnedTo (sectN s) k pat 32).1 ++ zs 192, (turnedTo (sectN s) k pat 32).2) := by
    have := turnL_front (sectN s) (zs 192) k pat 32
    rwa [sectN_length] at this
  rw [e]
  rcases bursts_law (xs := sectN s) (sealB (sbodyN_isB h)) (by rw [sectN_length]; omega) (sealN_whole' _) k (by rw [sectN_length]; exact hk) pat with h1 | h1
  · exact .inl h1
  · refine .inr (us_sum ?_ ?_)
    · rw [List.length_append, turnedTo_length, sectN_length, zs_length]
    · rw [List.take_left' (by rw [turnedTo_length, sectN_length])]
      exact h1
theorem turn_sect {T : List Nat} {k : Int} (hT : T.length = 64) : (turnL (T ++ zs 192) k 1 512 32).1 = flipN T k ++ zs 192 := by
  have e := turnL_front T (zs 192) k 1 32
  rw [hT] at e
  rw [e, turned_one T k 31]
theorem few_sect {s : Sup} (h : s.Ok) (a b c d : Int) : superN s = flipN (flipN (flipN (flipN (sectN s) a) b) c) d ++ zs 192 ∨ unsupN (flipN (flipN (flipN (flipN (sectN s) a) b) c) d ++ zs 192) = (Sup.zero, 52) := by
  have hl : (flipN (flipN (flipN (flipN (sectN s) a) b) c) d).length = 64 := by simp only [flipN_length, sectN_length]
  rcases few_law (xs := sectN s) (sealB (sbodyN_isB h)) (by rw [sectN_length]; omega) (by rw [sectN_length]; omega) (sealN_whole' _) a b c d with h1 | h1
  · exact .inl (by rw [← h1]; rfl)
  · refine .inr (us_sum ?_ ?_)
    · rw [List.length_append, hl, zs_length]
    · rw [List.take_left' hl]
      exact h1
/-- One bit of the first sector turned, in new memory. -/
theorem turned_sec (A : Option Addr) (c : Nat) (k : Int) (T : List Nat) (w : World) (hT : T.length = 64) (hx : RB w A 256 (T ++ zs 192)) (hk0 : -9223372036854775808 ≤ k) (hk1 : k ≤ 9223372036854775807) :
    Calls Try.prog 17 #[.slice A 256 c, .int .i64 k, .int .u32 1, .int .i64 512] w fun e w' => (∃ A' c' m, e = .returned (.tuple #[.slice A' 256 c', .int .i64 m]) ∧ RB w' A' 256 (flipN T k ++ zs 192) ∧ 256 ≤ c') ∧ Below w.heap.size w w' := by
  refine (turned_all A 256 c k 1 512 _ w hx (by omega) hk0 hk1 (by omega) (by omega)).mono ?_
  rintro e w' ⟨⟨v, rfl, hown⟩, hb⟩
  rw [turn_sect hT] at hown
  obtain ⟨A', c', rfl, hr, _, _, hc⟩ := hown.form
  have hl : (flipN T k ++ zs 192).length = 256 := by rw [List.length_append, flipN_length, hT, zs_length]
  rw [hl] at hr hc ⊢
  exact ⟨⟨A', c', _, rfl, hr, hc⟩, hb⟩
set_option maxHeartbeats 2000000 in
theorem frameSuperBursts_walk (a b c d p : Int) (k : Int) (pat : Nat) (i j m l : Int) (w : World) (hp : pat < 4294967296)
    (hi0 : -9223372036854775808 ≤ i) (hi1 : i ≤ 9223372036854775807) (hj0 : -9223372036854775808 ≤ j) (hj1 : j ≤ 9223372036854775807) (hm0 : -9223372036854775808 ≤ m) (hm1 : m ≤ 9223372036854775807) (hl0 : -9223372036854775808 ≤ l) (hl1 : l ≤ 9223372036854775807) :
    Calls Try.prog 5 #[.agg #[.int .i64 a, .int .i64 b, .int .i64 c, .int .i64 d, .int .i64 p], .int .i64 k, .int .u32 pat, .int .i64 i, .int .i64 j, .int .i64 m, .int .i64 l] w fun e w' => e = .returned (.bool true) ∧ Below w.heap.size w w' := by
  have HC : Hid (∀ w, Calls Try.prog 13 #[.agg #[.int .i64 a, .int .i64 b, .int .i64 c, .int .i64 d, .int .i64 p]] w fun e w' => PackedS w.heap.size ⟨a, b, c, d, p⟩ e w' ∧ Below w.heap.size w w') := packSuper_any ⟨a, b, c, d, p⟩
  have HSA0 : Hid (BlkIs (w.alloc (.cells #[.int .i64 a, .int .i64 b, .int .i64 c, .int .i64 d, .int .i64 p] 24)) w.heap.size 24 (supA a b c d p)) := BlkIs.new w _ _
  go_enter Try.func5, Try.ntmps5
  go_wp2_with fail
  refine (knownSup_any _).mono ?_
  rintro e w1 ⟨rfl, hb1⟩
  have HB1 := Lib.hid (((Below.refl w.heap.size w).alloc (Nat.le_refl _) _).trans (hb1.mono (by simp)))
  have hs1 := sup_at (BlkIs.below HSA0.out hb1)
  clear hb1 HSA0
  go_wp2_with fail
  refine (HC.out _).mono ?_
  rintro e w2 ⟨⟨v2, rfl, hown2⟩, hb2⟩
  have HB2 := Lib.hid (HB1.out.trans (hb2.mono HB1.out.size))
  clear hb2 HB1 HC hs1
  by_cases hok : Sup.Ok ⟨a, b, c, d, p⟩
  · rw [packSN_ok hok] at hown2 ⊢
    have HBU := Lib.hid (fun k hk => burst_sect hok k hk pat)
    have HFE := Lib.hid (few_sect hok i j m l)
    have HTL := Lib.hid (sectN_length ⟨a, b, c, d, p⟩)
    have HTE : Hid (superN ⟨a, b, c, d, p⟩ = sectN ⟨a, b, c, d, p⟩ ++ zs 192) := rfl
    obtain ⟨A2, c2, rfl, hr2, _, _, hc2⟩ := hown2.form
    rw [superN_length] at hr2 hc2 ⊢
    have HPL : Hid ((superN ⟨a, b, c, d, p⟩).length = 256) := superN_length _
    have HR2 := Lib.hid hr2
    clear hown2 hr2 hok
    generalize superN ⟨a, b, c, d, p⟩ = pg at *
    generalize sectN ⟨a, b, c, d, p⟩ = T at *
    obtain ⟨k', HK1, HK2, HK3⟩ : ∃ k' : Int, Hid (k' = if k < -31 ∨ 512 ≤ k then 470 else k) ∧ -31 ≤ k' ∧ k' < 512 := ⟨_, rfl, by split <;> omega, by split <;> omega⟩
    have HT := Lib.hid (turned_any A2 256 c2 k' pat 512 pg w2 HR2.out (by omega) (by omega) (by omega) hp)
    have HQ := Lib.hid (HBU.out k' HK3)
    clear HBU
    by_cases hk : k < -31 ∨ 512 ≤ k
    · rw [show k' = 470 by rw [HK1.out, if_pos hk]] at HT HQ
      clear HK1
      go_wp2_with fail
      all_goals
        refine HT.out.mono ?_
        rintro e w3 ⟨⟨v3, rfl, hown3⟩, hb3⟩
        have HB3 := Lib.hid (HB2.out.trans (hb3.mono HB2.out.size))
        have HPG3 := Lib.hid (HR2.out.below hb3)
        have hl3 := turnL_length pg 470 pat 512 32
        rw [HPL.out] at hl3
        generalize (turnL pg 470 pat 512 32).1 = u at *
        generalize (turnL pg 470 pat 512 32).2 = n at *
        obtain ⟨AU, cU, rfl, hr3, _, _, hc3⟩ := hown3.form
        rw [hl3] at hr3 hc3 ⊢
        have HRU := Lib.hid hr3
        clear hb3 hown3 hr3 hl3 HB2 HT HR2
        by_cases h0 : n = 0
        · subst h0
          have HBx := HB3
          have HPx := HPG3
          clear HB3 HPG3 HQ HRU
          go_wp2_with fail
          refine (turned_sec A2 c2 i T _ HTL.out (by rw [← HTE.out]; exact HPx.out) hi0 hi1).mono ?_
          rintro e y3 ⟨⟨A3, c3, m3, rfl, hr3, hc3⟩, hy3⟩
          have HD3 := Lib.hid (HBx.out.trans (hy3.mono HBx.out.size))
          have HP3 := Lib.hid (HPx.out.below hy3)
          have HR3 := Lib.hid hr3
          clear hy3 hr3 HBx HPx
          go_wp2_with fail
          refine (turned_sec A3 c3 j _ _ (by rw [flipN_length, HTL.out]) HR3.out hj0 hj1).mono ?_
          rintro e y4 ⟨⟨A4, c4, m4, rfl, hr4, hc4⟩, hy4⟩
          have HD4 := Lib.hid (HD3.out.trans (hy4.mono HD3.out.size))
          have HP4 := Lib.hid (HP3.out.below hy4)
          have HR4 := Lib.hid hr4
          clear hy4 hr4 HD3 HR3 HP3
          go_wp2_with fail
          refine (turned_sec A4 c4 m _ _ (by rw [flipN_length, flipN_length, HTL.out]) HR4.out hm0 hm1).mono ?_
          rintro e y5 ⟨⟨A5, c5, m5, rfl, hr5, hc5⟩, hy5⟩
          have HD5 := Lib.hid (HD4.out.trans (hy5.mono HD4.out.size))
          have HP5 := Lib.hid (HP4.out.below hy5)
          have HR5 := Lib.hid hr5
          clear hy5 hr5 HD4 HR4 HP4
          go_wp2_with fail
          refine (turned_sec A5 c5 l _ _ (by rw [flipN_length, flipN_length, flipN_length, HTL.out]) HR5.out hl0 hl1).mono ?_
          rintro e y6 ⟨⟨A6, c6, m6, rfl, hr6, hc6⟩, hy6⟩
          have HD6 := Lib.hid (HD5.out.trans (hy6.mono HD5.out.size))
          have HP6 := Lib.hid (HP5.out.below hy6)
          have HR6 := Lib.hid hr6
          clear hy6 hr6 HD5 HR5 HP5
          generalize flipN (flipN (flipN (flipN T i) j) m) l ++ zs 192 = fl at *
          go_wp2_with fail
          refine (same_any A2 A6 256 c2 256 c6 pg fl _ HP6.out HR6.out (by omega)).mono ?_
          rintro e y7 ⟨rfl, q, hw7⟩
          have HD7 : Hid (Below w.heap.size w y7) := by rw [hw7]; exact drewN_below HD6.out q
          have HR7 : Hid (RB y7 A6 256 fl) := by rw [hw7]; exact HR6.out.below (drewN_below (Below.refl _ _) q)
          clear hw7 HD6 HR6 HP6
          by_cases hs : pg = fl
          · rw [sameB_eq hs]
            clear hs HFE
            go_wp2_with fail
            go_ret
            exact ⟨rfl, HD7.out⟩
          · rw [sameB_ne hs]
            have HU := Lib.hid (HFE.out.resolve_left hs)
            clear hs HFE
            go_wp2_with fail
            refine (unpackSuper_any A6 256 c6 fl y7 HR7.out hc6).mono ?_
            rintro e y8 ⟨he8, hy8⟩
            unfold UnpackedS at he8
            rw [HU.out] at he8
            subst he8
            have HD8 := Lib.hid (HD7.out.trans (hy8.mono HD7.out.size))
            clear hy8 HD7 HU
            unfold supV Sup.zero
            dsimp only
            go_wp2_with fail
            go_ret
            first | exact ⟨rfl, HD8.out⟩ | exact ⟨rfl, HD8.out.alloc HD8.out.size _⟩
        · have HU := Lib.hid (HQ.out.resolve_left h0)
          have hpos : 0 < n := by omega
          clear h0 HQ
          go_wp2_with fail
          refine (unpackSuper_any AU 256 cU u w3 HRU.out hc3).mono ?_
          rintro e w4 ⟨he4, hb4⟩
          unfold UnpackedS at he4
          rw [HU.out] at he4
          subst he4
          have HBx := Lib.hid ((HB3.out.trans (hb4.mono HB3.out.size)).alloc (HB3.out.trans (hb4.mono HB3.out.size)).size (.cells #[.int .i64 0, .int .i64 0, .int .i64 0, .int .i64 0, .int .i64 0] 24))
          have HPx := Lib.hid ((HPG3.out.below hb4).alloc (.cells #[.int .i64 0, .int .i64 0, .int .i64 0, .int .i64 0, .int .i64 0] 24))
          clear hb4 HB3 HPG3 HU HRU
          unfold supV Sup.zero
          dsimp only
          go_wp2_with fail
          refine (turned_sec A2 c2 i T _ HTL.out (by rw [← HTE.out]; exact HPx.out) hi0 hi1).mono ?_
          rintro e y3 ⟨⟨A3, c3, m3, rfl, hr3, hc3⟩, hy3⟩
          have HD3 := Lib.hid (HBx.out.trans (hy3.mono HBx.out.size))
          have HP3 := Lib.hid (HPx.out.below hy3)
          have HR3 := Lib.hid hr3
          clear hy3 hr3 HBx HPx
          go_wp2_with fail
          refine (turned_sec A3 c3 j _ _ (by rw [flipN_length, HTL.out]) HR3.out hj0 hj1).mono ?_
          rintro e y4 ⟨⟨A4, c4, m4, rfl, hr4, hc4⟩, hy4⟩
          have HD4 := Lib.hid (HD3.out.trans (hy4.mono HD3.out.size))
          have HP4 := Lib.hid (HP3.out.below hy4)
          have HR4 := Lib.hid hr4
          clear hy4 hr4 HD3 HR3 HP3
          go_wp2_with fail
          refine (turned_sec A4 c4 m _ _ (by rw [flipN_length, flipN_length, HTL.out]) HR4.out hm0 hm1).mono ?_
          rintro e y5 ⟨⟨A5, c5, m5, rfl, hr5, hc5⟩, hy5⟩
          have HD5 := Lib.hid (HD4.out.trans (hy5.mono HD4.out.size))
          have HP5 := Lib.hid (HP4.out.below hy5)
          have HR5 := Lib.hid hr5
          clear hy5 hr5 HD4 HR4 HP4
          go_wp2_with fail
          refine (turned_sec A5 c5 l _ _ (by rw [flipN_length, flipN_length, flipN_length, HTL.out]) HR5.out hl0 hl1).mono ?_
          rintro e y6 ⟨⟨A6, c6, m6, rfl, hr6, hc6⟩, hy6⟩
          have HD6 := Lib.hid (HD5.out.trans (hy6.mono HD5.out.size))
          have HP6 := Lib.hid (HP5.out.below hy6)
          have HR6 := Lib.hid hr6
          clear hy6 hr6 HD5 HR5 HP5
          generalize flipN (flipN (flipN (flipN T i) j) m) l ++ zs 192 = fl at *
          go_wp2_with fail
          refine (same_any A2 A6 256 c2 256 c6 pg fl _ HP6.out HR6.out (by omega)).mono ?_
          rintro e y7 ⟨rfl, q, hw7⟩
          have HD7 : Hid (Below w.heap.size w y7) := by rw [hw7]; exact drewN_below HD6.out q
          have HR7 : Hid (RB y7 A6 256 fl) := by rw [hw7]; exact HR6.out.below (drewN_below (Below.refl _ _) q)
          clear hw7 HD6 HR6 HP6
          by_cases hs : pg = fl
          · rw [sameB_eq hs]
            clear hs HFE
            go_wp2_with fail
            go_ret
            exact ⟨rfl, HD7.out⟩
          · rw [sameB_ne hs]
            have HU := Lib.hid (HFE.out.resolve_left hs)
            clear hs HFE
            go_wp2_with fail
            refine (unpackSuper_any A6 256 c6 fl y7 HR7.out hc6).mono ?_
            rintro e y8 ⟨he8, hy8⟩
            unfold UnpackedS at he8
            rw [HU.out] at he8
            subst he8
            have HD8 := Lib.hid (HD7.out.trans (hy8.mono HD7.out.size))
            clear hy8 HD7 HU
            unfold supV Sup.zero
            dsimp only
            go_wp2_with fail
            go_ret
            first | exact ⟨rfl, HD8.out⟩ | exact ⟨rfl, HD8.out.alloc HD8.out.size _⟩
    · obtain rfl : k = k' := by rw [HK1.out, if_neg hk]
      clear HK1
      go_wp2_with fail
      all_goals
        refine HT.out.mono ?_
        rintro e w3 ⟨⟨v3, rfl, hown3⟩, hb3⟩
        have HB3 := Lib.hid (HB2.out.trans (hb3.mono HB2.out.size))
        have HPG3 := Lib.hid (HR2.out.below hb3)
        have hl3 := turnL_length pg k pat 512 32
        rw [HPL.out] at hl3
        generalize (turnL pg k pat 512 32).1 = u at *
        generalize (turnL pg k pat 512 32).2 = n at *
        obtain ⟨AU, cU, rfl, hr3, _, _, hc3⟩ := hown3.form
        rw [hl3] at hr3 hc3 ⊢
        have HRU := Lib.hid hr3
        clear hb3 hown3 hr3 hl3 HB2 HT HR2
        by_cases h0 : n = 0
        · subst h0
          have HBx := HB3
          have HPx := HPG3
          clear HB3 HPG3 HQ HRU
          go_wp2_with fail
          refine (turned_sec A2 c2 i T _ HTL.out (by rw [← HTE.out]; exact HPx.out) hi0 hi1).mono ?_
          rintro e y3 ⟨⟨A3, c3, m3, rfl, hr3, hc3⟩, hy3⟩
          have HD3 := Lib.hid (HBx.out.trans (hy3.mono HBx.out.size))
          have HP3 := Lib.hid (HPx.out.below hy3)
          have HR3 := Lib.hid hr3
          clear hy3 hr3 HBx HPx
          go_wp2_with fail
          refine (turned_sec A3 c3 j _ _ (by rw [flipN_length, HTL.out]) HR3.out hj0 hj1).mono ?_
          rintro e y4 ⟨⟨A4, c4, m4, rfl, hr4, hc4⟩, hy4⟩
          have HD4 := Lib.hid (HD3.out.trans (hy4.mono HD3.out.size))
          have HP4 := Lib.hid (HP3.out.below hy4)
          have HR4 := Lib.hid hr4
          clear hy4 hr4 HD3 HR3 HP3
          go_wp2_with fail
          refine (turned_sec A4 c4 m _ _ (by rw [flipN_length, flipN_length, HTL.out]) HR4.out hm0 hm1).mono ?_
          rintro e y5 ⟨⟨A5, c5, m5, rfl, hr5, hc5⟩, hy5⟩
          have HD5 := Lib.hid (HD4.out.trans (hy5.mono HD4.out.size))
          have HP5 := Lib.hid (HP4.out.below hy5)
          have HR5 := Lib.hid hr5
          clear hy5 hr5 HD4 HR4 HP4
          go_wp2_with fail
          refine (turned_sec A5 c5 l _ _ (by rw [flipN_length, flipN_length, flipN_length, HTL.out]) HR5.out hl0 hl1).mono ?_
          rintro e y6 ⟨⟨A6, c6, m6, rfl, hr6, hc6⟩, hy6⟩
          have HD6 := Lib.hid (HD5.out.trans (hy6.mono HD5.out.size))
          have HP6 := Lib.hid (HP5.out.below hy6)
          have HR6 := Lib.hid hr6
          clear hy6 hr6 HD5 HR5 HP5
          generalize flipN (flipN (flipN (flipN T i) j) m) l ++ zs 192 = fl at *
          go_wp2_with fail
          refine (same_any A2 A6 256 c2 256 c6 pg fl _ HP6.out HR6.out (by omega)).mono ?_
          rintro e y7 ⟨rfl, q, hw7⟩
          have HD7 : Hid (Below w.heap.size w y7) := by rw [hw7]; exact drewN_below HD6.out q
          have HR7 : Hid (RB y7 A6 256 fl) := by rw [hw7]; exact HR6.out.below (drewN_below (Below.refl _ _) q)
          clear hw7 HD6 HR6 HP6
          by_cases hs : pg = fl
          · rw [sameB_eq hs]
            clear hs HFE
            go_wp2_with fail
            go_ret
            exact ⟨rfl, HD7.out⟩
          · rw [sameB_ne hs]
            have HU := Lib.hid (HFE.out.resolve_left hs)
            clear hs HFE
            go_wp2_with fail
            refine (unpackSuper_any A6 256 c6 fl y7 HR7.out hc6).mono ?_
            rintro e y8 ⟨he8, hy8⟩
            unfold UnpackedS at he8
            rw [HU.out] at he8
            subst he8
            have HD8 := Lib.hid (HD7.out.trans (hy8.mono HD7.out.size))
            clear hy8 HD7 HU
            unfold supV Sup.zero
            dsimp only
            go_wp2_with fail
            go_ret
            first | exact ⟨rfl, HD8.out⟩ | exact ⟨rfl, HD8.out.alloc HD8.out.size _⟩
        · have HU := Lib.hid (HQ.out.resolve_left h0)
          have hpos : 0 < n := by omega
          clear h0 HQ
          go_wp2_with fail
          refine (unpackSuper_any AU 256 cU u w3 HRU.out hc3).mono ?_
          rintro e w4 ⟨he4, hb4⟩
          unfold UnpackedS at he4
          rw [HU.out] at he4
          subst he4
          have HBx := Lib.hid ((HB3.out.trans (hb4.mono HB3.out.size)).alloc (HB3.out.trans (hb4.mono HB3.out.size)).size (.cells #[.int .i64 0, .int .i64 0, .int .i64 0, .int .i64 0, .int .i64 0] 24))
          have HPx := Lib.hid ((HPG3.out.below hb4).alloc (.cells #[.int .i64 0, .int .i64 0, .int .i64 0, .int .i64 0, .int .i64 0] 24))
          clear hb4 HB3 HPG3 HU HRU
          unfold supV Sup.zero
          dsimp only
          go_wp2_with fail
          refine (turned_sec A2 c2 i T _ HTL.out (by rw [← HTE.out]; exact HPx.out) hi0 hi1).mono ?_
          rintro e y3 ⟨⟨A3, c3, m3, rfl, hr3, hc3⟩, hy3⟩
          have HD3 := Lib.hid (HBx.out.trans (hy3.mono HBx.out.size))
          have HP3 := Lib.hid (HPx.out.below hy3)
          have HR3 := Lib.hid hr3
          clear hy3 hr3 HBx HPx
          go_wp2_with fail
          refine (turned_sec A3 c3 j _ _ (by rw [flipN_length, HTL.out]) HR3.out hj0 hj1).mono ?_
          rintro e y4 ⟨⟨A4, c4, m4, rfl, hr4, hc4⟩, hy4⟩
          have HD4 := Lib.hid (HD3.out.trans (hy4.mono HD3.out.size))
          have HP4 := Lib.hid (HP3.out.below hy4)
          have HR4 := Lib.hid hr4
          clear hy4 hr4 HD3 HR3 HP3
          go_wp2_with fail
          refine (turned_sec A4 c4 m _ _ (by rw [flipN_length, flipN_length, HTL.out]) HR4.out hm0 hm1).mono ?_
          rintro e y5 ⟨⟨A5, c5, m5, rfl, hr5, hc5⟩, hy5⟩
          have HD5 := Lib.hid (HD4.out.trans (hy5.mono HD4.out.size))
          have HP5 := Lib.hid (HP4.out.below hy5)
          have HR5 := Lib.hid hr5
          clear hy5 hr5 HD4 HR4 HP4
          go_wp2_with fail
          refine (turned_sec A5 c5 l _ _ (by rw [flipN_length, flipN_length, flipN_length, HTL.out]) HR5.out hl0 hl1).mono ?_
          rintro e y6 ⟨⟨A6, c6, m6, rfl, hr6, hc6⟩, hy6⟩
          have HD6 := Lib.hid (HD5.out.trans (hy6.mono HD5.out.size))
          have HP6 := Lib.hid (HP5.out.below hy6)
          have HR6 := Lib.hid hr6
          clear hy6 hr6 HD5 HR5 HP5
          generalize flipN (flipN (flipN (flipN T i) j) m) l ++ zs 192 = fl at *
          go_wp2_with fail
          refine (same_any A2 A6 256 c2 256 c6 pg fl _ HP6.out HR6.out (by omega)).mono ?_
          rintro e y7 ⟨rfl, q, hw7⟩
          have HD7 : Hid (Below w.heap.size w y7) := by rw [hw7]; exact drewN_below HD6.out q
          have HR7 : Hid (RB y7 A6 256 fl) := by rw [hw7]; exact HR6.out.below (drewN_below (Below.refl _ _) q)
          clear hw7 HD6 HR6 HP6
          by_cases hs : pg = fl
          · rw [sameB_eq hs]
            clear hs HFE
            go_wp2_with fail
            go_ret
            exact ⟨rfl, HD7.out⟩
          · rw [sameB_ne hs]
            have HU := Lib.hid (HFE.out.resolve_left hs)
            clear hs HFE
            go_wp2_with fail
            refine (unpackSuper_any A6 256 c6 fl y7 HR7.out hc6).mono ?_
            rintro e y8 ⟨he8, hy8⟩
            unfold UnpackedS at he8
            rw [HU.out] at he8
            subst he8
            have HD8 := Lib.hid (HD7.out.trans (hy8.mono HD7.out.size))
            clear hy8 HD7 HU
            unfold supV Sup.zero
            dsimp only
            go_wp2_with fail
            go_ret
            first | exact ⟨rfl, HD8.out⟩ | exact ⟨rfl, HD8.out.alloc HD8.out.size _⟩
  · rw [packSN_bad hok] at hown2 ⊢
    obtain ⟨A', c', rfl, _⟩ := hown2.form
    clear hown2 hok
    go_wp2_with fail
    go_ret
    exact ⟨rfl, HB2.out⟩
end Go.Proofs.Ytbjbpgbpefkbhaa
