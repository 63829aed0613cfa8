/- ledgerlaw5.FrameOnly: the walk. -/
import Derived.Test.YtbjbpgbpefkbhaaKnown5
import Derived.Test.YtbjbpgbpefkbhaaUnpack
import Derived.Test.YtbjbpgbpefkbhaaSame
import Derived.BigQuiet
namespace Go.Proofs.Ytbjbpgbpefkbhaa
open Go.RowKit
set_option maxHeartbeats 1000000 in
theorem frameOnly_walk (page : Int) (A : Option Addr) (n c : Nat) (xs : List Nat) (w : World) (hx : RB w A n xs) (hn : n ≤ 140737488355328) :
    Calls Try.prog 7 #[.int .i64 page, .slice A n c] w fun e w' => e = .returned (.bool true) ∧ Below w.heap.size w w' := by
  have HS := Lib.hid (copied_any A n c xs w hx hn)
  obtain rfl : xs.length = n := hx.1
  have hB := hx.isB
  clear hx
  go_enter Try.func7, Try.ntmps7
  go_wp2_with fail
  refine HS.out.mono ?_
  rintro e w1 ⟨v1, rfl, hown1, hb1⟩
  have HB1 := Lib.hid hb1
  have HO1 := Lib.hid hown1
  clear HS hb1 hown1
  go_wp2_with fail
  refine (knownF_any w1).mono ?_
  rintro e w2 ⟨rfl, hb2⟩
  have HB2 := Lib.hid (HB1.out.trans (hb2.mono HB1.out.size))
  have hown2 := HO1.out.below hb2
  obtain ⟨A1, c1, rfl, hr2, _, hA1, hc1⟩ := hown2.form
  have HR2 := Lib.hid hr2
  clear HB1 HO1 hb2 hown2 hr2
  go_wp2_with fail
  refine (copied_any A1 xs.length c1 xs w2 HR2.out hn).mono ?_
  rintro e w3 ⟨v3, rfl, hown3, hb3⟩
  have HB3 := Lib.hid (HB2.out.trans (hb3.mono HB2.out.size))
  have HR3 := Lib.hid (HR2.out.below hb3)
  obtain ⟨A3, c3, rfl, hr3, _, _, hc3⟩ := hown3.form
  have HS3 := Lib.hid hr3
  clear hb3 hown3 hr3 HB2 HR2
  go_wp2_with fail
  refine (unpack_any page A3 xs.length c3 xs w3 HS3.out hc3 (by omega)).mono ?_
  rintro e w4 ⟨⟨v4, rfl, hown4⟩, hb4⟩
  have HB4 := Lib.hid (HB3.out.trans (hb4.mono HB3.out.size))
  have HR4 := Lib.hid (HR3.out.below hb4)
  obtain ⟨A4, c4, rfl, hr4, _, _, _⟩ := hown4.form
  have HS4 := Lib.hid hr4
  clear hb4 hown4 hr4 HB3 HR3 HS3
  rcases un_cases (page := page) (xs := xs) with ⟨e, hne⟩ | ⟨hp, hl, hw, hk, hnl, hq, hr⟩
  · have hne' : ((((unpackN page xs).2.2 : Nat) : Int) != 0) = true := by rw [bne_iff_ne]; omega
    rw [e]
    simp only [List.length_nil]
    clear e hne HS4
    generalize (unpackN page xs).2.2 = er at *
    go_wp2_with fail
    go_ret
    exact ⟨rfl, HB4.out⟩
  · have HU := Lib.hid (un_ok hp hl hw hk hnl hq hr)
    have HP := Lib.hid (only_law hB hp hl hw hk hnl hq hr)
    have hll := loadN_length hl hnl
    have hl246 : (loadN xs).length ≤ 246 := by omega
    rw [HU.out] at HS4 ⊢
    clear hp hl hw hk hnl hq hr hll HU
    generalize loadN xs = ld at *
    generalize xs.getD 0 0 = kb at *
    go_wp2_with fail
    refine (pack_any (kb : Int) page A4 ld.length c4 ld w4 HS4.out (by omega)).mono ?_
    rintro e w5 ⟨⟨v5, rfl, hown5⟩, hb5⟩
    have HB5 := Lib.hid (HB4.out.trans (hb5.mono HB4.out.size))
    have HR5 := Lib.hid (HR4.out.below hb5)
    rw [HP.out] at hown5 ⊢
    obtain ⟨A5, c5, rfl, hr5, _, _, _⟩ := hown5.form
    have HS5 := Lib.hid hr5
    clear hb5 hown5 hr5 HB4 HR4 HS4 HP
    go_wp2_with fail
    refine (same_true HS5.out HR5.out (by omega) rfl).mono ?_
    rintro e w6 ⟨rfl, q, hw6⟩
    have HB6 : Hid (Below w.heap.size w w6) := by rw [hw6]; exact drewN_below HB5.out q
    clear hw6
    go_wp2_with fail
    go_ret
    exact ⟨rfl, HB6.out⟩
end Go.Proofs.Ytbjbpgbpefkbhaa
