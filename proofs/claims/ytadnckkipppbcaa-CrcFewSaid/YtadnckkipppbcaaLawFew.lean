/- ledgerlaw2.CrcFew: the walk. -/
import Derived.Test.YtadnckkipppbcaaLib2
import Derived.Test.YtadnckkipppbcaaFlip
import Derived.Test.YtadnckkipppbcaaSeal
import Derived.Test.YtadnckkipppbcaaWhole
import Derived.Test.YtadnckkipppbcaaSame
import Derived.Test.YtadnckkipppbcaaFew
namespace Go.Proofs.Ytadnckkipppbcaa
open Go.RowKit
set_option maxHeartbeats 1000000 in
theorem few_walk (A : Option Addr) (n c : Nat) (i j k l : Int) (xs : List Nat) (w : World) (hx : RB w A n xs) (hn : n ≤ 140737488355328) :
    Calls Try.prog 5 #[.slice A n c, .int .i64 i, .int .i64 j, .int .i64 k, .int .i64 l] w fun e w' => e = .returned (.bool true) ∧ Below w.heap.size w w' := by
  have HS := Lib.hid (short_any A n c 367 xs w hx hn)
  have hT : (xs.take (367 : Int).toNat).length ≤ 367 := by rw [List.length_take]; omega
  have hTB : IsB (xs.take (367 : Int).toNat) := hx.isB.take _
  clear hx
  generalize xs.take (367 : Int).toNat = t at *
  have hw := sealN_whole t
  have hls := sealN_length t
  have hSB : IsB (sealN t) := sealN_isB hTB
  have HP := Lib.hid (few_law (xs := sealN t) hSB (by omega) (by omega) hw i j k l)
  go_enter Try.func5, Try.ntmps5
  go_wp2_with fail
  refine HS.out.mono ?_
  rintro e w1 ⟨v1, rfl, hown1, hb1⟩
  obtain ⟨A1, c1, rfl, hr1, _, hA1, hc1⟩ := hown1.form
  have HQ := Lib.hid (seal_any A1 t.length c1 t w1 hr1 hA1 (by omega))
  clear hown1 hr1 hA1 hc1 HS
  generalize sealN t = s at *
  have hne : ((s.length : Int) != (t.length : Int) + 4) = false := by rw [bne_eq_false_iff_eq, hls]; simp
  have hsl : s.length ≤ 371 := by omega
  have HW := Lib.hid hw
  clear hls hw
  go_wp2_with fail
  refine HQ.out.mono ?_
  rintro e w2 ⟨v2, rfl, hown2, hb2⟩
  obtain ⟨A2, c2, rfl, hr2, _, hA2, hc2⟩ := hown2.form
  have HV := Lib.hid (whole_true hr2 hc2 (by omega) HW.out)
  have HB2 := Lib.hid (hb1.trans (hb2.mono hb1.size))
  have HO2 := Lib.hid hown2
  clear hb1 hb2 hown2 hr2 hA2 HQ
  go_wp2_with fail
  refine HV.out.mono ?_
  rintro e w3 ⟨rfl, hb3⟩
  have HO3 := Lib.hid (HO2.out.below hb3)
  have HB3 := Lib.hid (HB2.out.trans (hb3.mono HB2.out.size))
  clear hb3
  have hr3 : RB w3 A2 s.length s := by
    obtain ⟨A', c', e', hr, _⟩ := HO3.out.form
    injection e' with e1 e2 e3
    subst e1 e3
    exact hr
  have HS3 := Lib.hid (short_any A2 s.length c2 s.length s w3 hr3 (by omega))
  clear hr3
  go_wp2_with fail
  refine HS3.out.mono ?_
  rintro e w4 ⟨v4, rfl, hown4, hb4⟩
  rw [Int.toNat_natCast, List.take_of_length_le (Nat.le_refl _)] at hown4
  have HO4 := Lib.hid hown4
  have HO34 := Lib.hid (HO3.out.below hb4)
  have HB4 := Lib.hid (HB3.out.trans (hb4.mono HB3.out.size))
  have hlt3 := lt_of_own HO3.out (Nat.le_refl _)
  have HL := Lib.hid hlt3
  obtain ⟨A4, c4, rfl, _⟩ := hown4.form
  clear hb4 hown4 hlt3
  go_wp2_with fail
  refine (flip_any w3.heap.size (.slice A4 s.length c4) s i w4 HO4.out (by omega)).mono ?_
  rintro e w5 ⟨⟨b5, rfl⟩, hown5, hg5⟩
  have HO5 := Lib.hid hown5
  have HO35 := Lib.hid (HO34.out.kept hg5 (own_apart HL.out HO4.out.ge))
  have HB5 := Lib.hid (below_grown HB4.out hg5 HB4.out.size (fun k hk => Nat.le_trans HB3.out.size (HO4.out.ge k hk)))
  clear hown5 hg5
  have hl5 := flipN_length s i
  go_wp2_with fail
  refine (flip_any w3.heap.size (.slice A4 s.length c4) (flipN s i) j w5 HO5.out (by omega)).mono ?_
  rintro e w6 ⟨⟨b6, rfl⟩, hown6, hg6⟩
  have HO6 := Lib.hid hown6
  have HO36 := Lib.hid (HO35.out.kept hg6 (own_apart HL.out HO5.out.ge))
  have HB6 := Lib.hid (below_grown HB5.out hg6 HB5.out.size (fun k hk => Nat.le_trans HB3.out.size (HO5.out.ge k hk)))
  clear hown6 hg6
  have hl6 := flipN_length (flipN s i) j
  go_wp2_with fail
  refine (flip_any w3.heap.size (.slice A4 s.length c4) (flipN (flipN s i) j) k w6 HO6.out (by omega)).mono ?_
  rintro e w7 ⟨⟨b7, rfl⟩, hown7, hg7⟩
  have HO7 := Lib.hid hown7
  have HO37 := Lib.hid (HO36.out.kept hg7 (own_apart HL.out HO6.out.ge))
  have HB7 := Lib.hid (below_grown HB6.out hg7 HB6.out.size (fun k hk => Nat.le_trans HB3.out.size (HO6.out.ge k hk)))
  clear hown7 hg7
  have hl7 := flipN_length (flipN (flipN s i) j) k
  go_wp2_with fail
  refine (flip_any w3.heap.size (.slice A4 s.length c4) (flipN (flipN (flipN s i) j) k) l w7 HO7.out (by omega)).mono ?_
  rintro e w8 ⟨⟨b8, rfl⟩, hown8, hg8⟩
  have HO8 := Lib.hid hown8
  have HO38 := Lib.hid (HO37.out.kept hg8 (own_apart HL.out HO7.out.ge))
  have HB8 := Lib.hid (below_grown HB7.out hg8 HB7.out.size (fun k hk => Nat.le_trans HB3.out.size (HO7.out.ge k hk)))
  clear hown8 hg8
  have hl8 := flipN_length (flipN (flipN (flipN s i) j) k) l
  have HR2 : Hid (RB w8 A2 s.length s) := HO38.out.reads
  have HR4 : Hid (RB w8 A4 s.length (flipN (flipN (flipN (flipN s i) j) k) l)) := by
    have h := HO8.out.reads
    rw [hl8, hl7, hl6, hl5] at h
    exact h
  have HC4 : Hid (s.length ≤ c4) := by
    have h := HO8.out.room
    rwa [hl8, hl7, hl6, hl5] at h
  generalize flipN (flipN (flipN (flipN s i) j) k) l = u at *
  clear hl5 hl6 hl7 hl8
  by_cases hse : s = u
  · have HY := Lib.hid (same_true (c := c2) (d := c4) HR2.out HR4.out (by omega) hse)
    clear hse
    go_wp2_with fail
    refine HY.out.mono ?_
    rintro e w9 ⟨rfl, q, rfl⟩
    go_wp2_with fail
    go_ret
    exact ⟨rfl, drewN_below HB8.out q⟩
  · have HY := Lib.hid (same_false (c := c2) (d := c4) HR2.out HR4.out (by omega) hse)
    have HU : Hid (wholeN u = false) := HP.out.resolve_left hse
    clear hse
    go_wp2_with fail
    refine HY.out.mono ?_
    rintro e w9 ⟨rfl, q, rfl⟩
    have HZ := Lib.hid (whole_false (w := w8.drewN q) HR4.out HC4.out (by omega) HU.out)
    go_wp2_with fail
    refine HZ.out.mono ?_
    rintro e w10 ⟨rfl, hb10⟩
    go_wp2_with fail
    go_ret
    exact ⟨rfl, (drewN_below HB8.out q).trans (hb10.mono (drewN_below HB8.out q).size)⟩
end Go.Proofs.Ytadnckkipppbcaa
