/- ledgerlaw5.FrameFew: the walk. -/
import Derived.Test.YtbjbpgbpefkbhaaPack
import Derived.Test.YtbjbpgbpefkbhaaUnpack
import Derived.Test.YtbjbpgbpefkbhaaTurned
import Derived.Test.YtbjbpgbpefkbhaaSame
import Derived.Test.YtbjbpgbpefkbhaaFew
import Derived.BigQuiet
namespace Go.Proofs.Ytbjbpgbpefkbhaa
open Go.RowKit
theorem turn_one {xs : List Nat} {k : Int} (h : xs.length = 256) : (turnL xs k 1 2048 32).1 = flipN xs k := by
  have e := turnL_all xs k 1 32
  rw [h] at e
  rw [e]
  exact turned_one xs k 31
theorem few_page {kn pn : Nat} {t : List Nat} (hk : kn < 256) (hp : PlaceOk pn) (ht : t.length ≤ 246) (hB : IsB t) (a b c d : Int) :
    pageN kn pn t = flipN (flipN (flipN (flipN (pageN kn pn t) a) b) c) d ∨ unpackN pn (flipN (flipN (flipN (flipN (pageN kn pn t) a) b) c) d) = (0, [], 52) := by
  have hl := pageN_length (kind := kn) (page := pn) ht
  rcases few_law (xs := pageN kn pn t) (pageN_isB hk ht hB) (by omega) (by omega) (sealN_whole' _) a b c d with h | h
  · exact .inl h
  · exact .inr (un_sum hp (by simp only [flipN_length]; exact hl) h)
/-- One bit turned, in new memory. -/
theorem turned_bit (A : Option Addr) (c : Nat) (k : Int) (xs : List Nat) (w : World) (hx : RB w A 256 xs) (hk0 : -9223372036854775808 ≤ k) (hk1 : k ≤ 9223372036854775807) :
    Calls Try.prog 17 #[.slice A 256 c, .int .i64 k, .int .u32 1, .int .i64 2048] w fun e w' => (∃ A' c' m, e = .returned (.tuple #[.slice A' 256 c', .int .i64 m]) ∧ RB w' A' 256 (flipN xs k) ∧ 256 ≤ c') ∧ Below w.heap.size w w' := by
  refine (turned_all A 256 c k 1 2048 xs w hx (by omega) hk0 hk1 (by omega) (by omega)).mono ?_
  rintro e w' ⟨⟨v, rfl, hown⟩, hb⟩
  rw [turn_one hx.1] at hown
  obtain ⟨A', c', rfl, hr, _, _, hc⟩ := hown.form
  rw [flipN_length, hx.1] at hr hc ⊢
  exact ⟨⟨A', c', _, rfl, hr, hc⟩, hb⟩
set_option maxHeartbeats 2000000 in
theorem frameFew_walk (kind page : Int) (A : Option Addr) (n c : Nat) (i j k l : Int) (xs : List Nat) (w : World) (hx : RB w A n xs) (hnc : n ≤ c) (hn : n ≤ 140737488355328)
    (hi0 : -9223372036854775808 ≤ i) (hi1 : i ≤ 9223372036854775807) (hj0 : -9223372036854775808 ≤ j) (hj1 : j ≤ 9223372036854775807) (hk0 : -9223372036854775808 ≤ k) (hk1 : k ≤ 9223372036854775807) (hl0 : -9223372036854775808 ≤ l) (hl1 : l ≤ 9223372036854775807) :
    Calls Try.prog 9 #[.int .i64 kind, .int .i64 page, .slice A n c, .int .i64 i, .int .i64 j, .int .i64 k, .int .i64 l] w fun e w' => e = .returned (.bool true) ∧ Below w.heap.size w w' := by
  have hT : (xs.take 246).length ≤ 246 := by rw [List.length_take]; omega
  have hTB : IsB (xs.take 246) := hx.isB.take _
  have HX := Lib.hid hx
  clear hx
  go_enter Try.func9, Try.ntmps9
  go_wp2_with fail
  refine (whole_range kind 1 3 w (by omega) (by omega) (by omega)).mono ?_
  rintro e w0 ⟨⟨kr, rfl, hq1, hq2⟩, rfl⟩
  obtain ⟨kn, rfl⟩ := Int.eq_ofNat_of_zero_le (show 0 ≤ kr by omega)
  go_wp2_with fail
  refine (whole_range page 2 4095 w0 (by omega) (by omega) (by omega)).mono ?_
  rintro e w0 ⟨⟨pr, rfl, hp1, hp2⟩, rfl⟩
  obtain ⟨pn, rfl⟩ := Int.eq_ofNat_of_zero_le (show 0 ≤ pr by omega)
  have hPK := packN_ok (kind := kn) (page := pn) (by unfold KindOk; omega) (by unfold PlaceOk; omega) hT
  simp only [Int.toNat_natCast] at hPK
  have HPK := Lib.hid hPK
  have HPL := Lib.hid (pageN_length (kind := kn) (page := pn) hT)
  have HFE := Lib.hid (few_page (kn := kn) (pn := pn) (t := xs.take 246) (by omega) (by unfold PlaceOk; omega) hT hTB i j k l)
  clear hPK
  go_wp2_with fail
  refine (short_any A n c 246 xs w0 HX.out hn (by omega) hnc).mono ?_
  rintro e w1 ⟨v1, rfl, hown1, hb1⟩
  generalize xs.take 246 = t at *
  obtain ⟨A1, c1, rfl, hr1, _, _, _⟩ := hown1.form
  have HR1 := Lib.hid hr1
  have HB1 := Lib.hid hb1
  clear hb1 hown1 hr1 HX
  go_wp2_with fail
  refine (pack_any (kn : Int) (pn : Int) A1 t.length c1 t w1 HR1.out (by omega)).mono ?_
  rintro e w2 ⟨⟨v2, rfl, hown2⟩, hb2⟩
  have HB2 := Lib.hid (HB1.out.trans (hb2.mono HB1.out.size))
  rw [HPK.out] at hown2 ⊢
  generalize pageN kn pn t = pg at *
  obtain ⟨A2, c2, rfl, hr2, _, _, hc2⟩ := hown2.form
  rw [HPL.out] at hr2 hc2 ⊢
  have HR2 := Lib.hid hr2
  clear hb2 hown2 hr2 HB1 HR1 HPK
  go_wp2_with fail
  refine (turned_bit A2 c2 i pg w2 HR2.out hi0 hi1).mono ?_
  rintro e w3 ⟨⟨A3, c3, m3, rfl, hr3, hc3⟩, hb3⟩
  have HB3 := Lib.hid (HB2.out.trans (hb3.mono HB2.out.size))
  have HP3 := Lib.hid (HR2.out.below hb3)
  have HR3 := Lib.hid hr3
  clear hb3 hr3 HB2 HR2
  go_wp2_with fail
  refine (turned_bit A3 c3 j _ w3 HR3.out hj0 hj1).mono ?_
  rintro e w4 ⟨⟨A4, c4, m4, rfl, hr4, hc4⟩, hb4⟩
  have HB4 := Lib.hid (HB3.out.trans (hb4.mono HB3.out.size))
  have HP4 := Lib.hid (HP3.out.below hb4)
  have HR4 := Lib.hid hr4
  clear hb4 hr4 HB3 HR3 HP3
  go_wp2_with fail
  refine (turned_bit A4 c4 k _ w4 HR4.out hk0 hk1).mono ?_
  rintro e w5 ⟨⟨A5, c5, m5, rfl, hr5, hc5⟩, hb5⟩
  have HB5 := Lib.hid (HB4.out.trans (hb5.mono HB4.out.size))
  have HP5 := Lib.hid (HP4.out.below hb5)
  have HR5 := Lib.hid hr5
  clear hb5 hr5 HB4 HR4 HP4
  go_wp2_with fail
  refine (turned_bit A5 c5 l _ w5 HR5.out hl0 hl1).mono ?_
  rintro e w6 ⟨⟨A6, c6, m6, rfl, hr6, hc6⟩, hb6⟩
  have HB6 := Lib.hid (HB5.out.trans (hb6.mono HB5.out.size))
  have HP6 := Lib.hid (HP5.out.below hb6)
  have HR6 := Lib.hid hr6
  clear hb6 hr6 HB5 HR5 HP5
  generalize flipN (flipN (flipN (flipN pg i) j) k) l = u at *
  go_wp2_with fail
  refine (same_any A2 A6 256 c2 256 c6 pg u w6 HP6.out HR6.out (by omega)).mono ?_
  rintro e w7 ⟨rfl, q, hw7⟩
  have HB7 : Hid (Below w0.heap.size w0 w7) := by rw [hw7]; exact drewN_below HB6.out q
  have HR7 : Hid (RB w7 A6 256 u) := by rw [hw7]; exact HR6.out.below (drewN_below (Below.refl _ _) q)
  clear hw7 HB6 HR6 HP6
  by_cases hs : pg = u
  · rw [sameB_eq hs]
    clear hs HFE
    go_wp2_with fail
    go_ret
    exact ⟨rfl, HB7.out⟩
  · rw [sameB_ne hs]
    have HU := Lib.hid (HFE.out.resolve_left hs)
    clear hs HFE
    go_wp2_with fail
    refine (unpack_any (pn : Int) A6 256 c6 u w7 HR7.out hc6 (by omega)).mono ?_
    rintro e w8 ⟨⟨v8, rfl, hown8⟩, hb8⟩
    have HB8 := Lib.hid (HB7.out.trans (hb8.mono HB7.out.size))
    rw [HU.out] at hown8 ⊢
    obtain ⟨A8, c8, rfl, _⟩ := hown8.form
    simp only [List.length_nil]
    clear hown8 hb8 HB7 HU
    go_wp2_with fail
    go_ret
    exact ⟨rfl, HB8.out⟩
end Go.Proofs.Ytbjbpgbpefkbhaa
