/- ledgerlaw2.CrcWholes: the walk. -/
import Derived.Test.YtadnckkipppbcaaDoorRefWhole
import Derived.Test.YtadnckkipppbcaaDoorSeal
import Derived.Test.YtadnckkipppbcaaDoorWhole
import Derived.Test.YtadnckkipppbcaaDoorPlace
import Derived.Test.YtadnckkipppbcaaDoorLawSums
import Derived.Test.YtadnckkipppbcaaDoorField
namespace Go.Proofs.YtadnckkipppbcaaDoor
open Go.RowKit
set_option maxHeartbeats 2000000 in
theorem wholes_walk (A : Option Addr) (n c : Nat) (xs : List Nat) (w : World) (hx : RB w A n xs) (hn : n ≤ 2097152) (hd : DivT w) :
    Calls Tryd.prog 7 #[.slice A n c] w fun e w' => e = .returned (.bool true) ∧ Below w.heap.size w w' := by
  have HX := Lib.hid hx
  have HC := Lib.hid (copied_any A n c xs w hx (by omega))
  have HD := Lib.hid hd
  obtain rfl : xs.length = n := hx.1
  have hml := midN_length xs
  have HML : Hid ((midN xs).length = xs.length) := hml
  clear hx hd hml
  go_enter Tryd.func7, Tryd.ntmps7
  go_wp2_with fail
  refine HC.out.mono ?_
  rintro e w1 ⟨v1, rfl, hown1, hb1⟩
  have HB1 := Lib.hid hb1
  have HP1 := Lib.hid hown1
  obtain ⟨A1, c1, rfl, hr1, _⟩ := hown1.form
  have HM := Lib.hid (middle_any A1 xs.length c1 xs w1 hr1 (by omega))
  clear hown1 hb1 hr1 HC
  go_wp2_with fail
  refine HM.out.mono ?_
  rintro e w2 ⟨v2, rfl, hown2, hb2⟩
  have HB2 := Lib.hid (HB1.out.trans (hb2.mono HB1.out.size))
  have HP2 := Lib.hid (HP1.out.below hb2)
  have HQ2 := Lib.hid hown2
  have HL2 := Lib.hid (lt_of_own HP1.out hb2.size)
  have HK2 := Lib.hid (lt_of_own hown2 (Nat.le_refl _))
  obtain ⟨A2, c2, rfl, _⟩ := hown2.form
  rw [HML.out] at HQ2 HK2
  simp only [HML.out]
  have HR := Lib.hid (roomy_any A1 xs.length c1 xs w2 HP2.out.reads (by omega))
  clear hown2 hb2 HM
  go_wp2_with fail
  refine HR.out.mono ?_
  rintro e w3 ⟨⟨A3, c3, rfl, hown3⟩, hb3⟩
  have HB3 := Lib.hid (HB2.out.trans (hb3.mono HB2.out.size))
  have HP3 := Lib.hid (HP2.out.below hb3)
  have HQ3 := Lib.hid (HQ2.out.below hb3)
  have HR3 := Lib.hid hown3
  have hroom : xs.length + 120 ≤ c3 := by
    have := hown3.room
    rwa [List.length_append, marks_length] at this
  have HAP1 : Hid (∀ ad bd, A3 = some ad → A1 = some bd → ad.block ≠ bd.block) := fun ad bd e2 e1 e => by
    subst e1 e2
    have a := HL2.out bd.block rfl
    have b := hown3.ge ad.block rfl
    omega
  have HAP2 : Hid (∀ ad bd, A3 = some ad → A2 = some bd → ad.block ≠ bd.block) := fun ad bd e2 e1 e => by
    subst e1 e2
    have a := HK2.out bd.block rfl
    have b := hown3.ge ad.block rfl
    omega
  have HV1 : Hid (∀ (n1 n2 : Nat), (Value.slice A1 n1 c1).ownBlock = none ∨ (Value.slice A1 n1 c1).ownBlock ≠ (Value.slice A3 n2 c3).ownBlock) := fun n1 n2 => by
    rcases A1 with _ | a1
    · exact .inl rfl
    · refine .inr fun e => ?_
      rcases A3 with _ | a3
      · cases e
      · exact HAP1.out a3 a1 rfl rfl (by injection e with e; exact e.symm)
  have HV2 : Hid (∀ (n1 n2 : Nat), (Value.slice A2 n1 c2).ownBlock = none ∨ (Value.slice A2 n1 c2).ownBlock ≠ (Value.slice A3 n2 c3).ownBlock) := fun n1 n2 => by
    rcases A2 with _ | a1
    · exact .inl rfl
    · refine .inr fun e => ?_
      rcases A3 with _ | a3
      · cases e
      · exact HAP2.out a3 a1 rfl rfl (by injection e with e; exact e.symm)
  have HG3 : Hid (∀ k, (Value.slice A3 (xs.length + 120) c3).ownBlock = some k → w.heap.size ≤ k) := fun k hk => Nat.le_trans HB2.out.size (hown3.ge k hk)
  have HML2 : Hid ((midN xs ++ marks).length = xs.length + 120) := by
    show (midN xs ++ marks).length = _
    rw [List.length_append, marks_length, HML.out]
  have HXL2 : Hid ((xs ++ marks).length = xs.length + 120) := by
    show (xs ++ marks).length = _
    rw [List.length_append, marks_length]
  clear hown3 hb3 HR
  have HC1 : Hid (xs.length ≤ c1) := HP3.out.room
  have HC2 : Hid (xs.length ≤ c2) := HML.out ▸ HQ3.out.room
  have HA3 : Hid (A3 = none → c3 = 0) := HR3.out.reads'.2.2.2
  have HSU : Hid (∀ W, RB W A3 xs.length xs → Calls Tryd.prog 23 #[.slice A3 xs.length c3] W fun e w' => e = .returned (.bool (wholeN xs)) ∧ Below W.heap.size W w') := fun W h => whole_any A3 xs.length c3 xs W h (by omega) (by omega)
  have HSV : Hid (∀ W, RB W A3 xs.length (midN xs) → Calls Tryd.prog 23 #[.slice A3 xs.length c3] W fun e w' => e = .returned (.bool (wholeN (midN xs))) ∧ Below W.heap.size W w') := fun W h => whole_any A3 xs.length c3 (midN xs) W h (by omega) (by omega)
  have HTX : Hid (∀ W, RB W A1 xs.length xs → DivT W → Calls Tryd.prog 24 #[.slice A1 xs.length c1] W fun e w' => e = .returned (.bool (wholeN xs)) ∧ Below W.heap.size W w') := fun W h d => refwhole_any A1 xs.length c1 xs W h HC1.out (by omega) d
  have HTV : Hid (∀ W, RB W A2 xs.length (midN xs) → DivT W → Calls Tryd.prog 24 #[.slice A2 xs.length c2] W fun e w' => e = .returned (.bool (wholeN (midN xs))) ∧ Below W.heap.size W w') := fun W h d => refwhole_any A2 xs.length c2 (midN xs) W h HC2.out (by omega) d
  have HSL : Hid (∀ W, RB W A3 xs.length xs → Calls Tryd.prog 19 #[.slice A3 xs.length c3] W fun e w' => ∃ v, e = .returned v ∧ OwnU w' W.heap.size v (sealN xs) ∧ Below W.heap.size W w') := fun W h => seal_any A3 xs.length c3 xs W h HA3.out (by omega)
  have HLX : Hid ((sealN xs).length ≤ 281474976710656) := by
    show (sealN xs).length ≤ _
    rw [sealN_length]; omega
  have HWS : Hid (wholeN (sealN xs) = true) := sealN_whole xs
  generalize wholeN xs = bx at *
  generalize wholeN (midN xs) = bv at *
  generalize sealN xs = sx at *
  have HU3 : Hid (RB w3 A3 xs.length xs) := by
    have h := HR3.out.reads.take (k := xs.length) (by rw [HXL2.out]; omega)
    rwa [List.take_append_of_le_length (by omega), List.take_of_length_le (by omega)] at h
  go_wp2_with fail
  refine (HSU.out _ HU3.out).mono ?_
  rintro e w4 ⟨rfl, hb⟩
  have HB4 := Lib.hid (HB3.out.trans (hb.mono HB3.out.size))
  have HP4 := Lib.hid (HP3.out.below hb)
  have HQ4 := Lib.hid (HQ3.out.below hb)
  have HR4 := Lib.hid (HR3.out.below hb)
  clear hb
  go_wp2_with fail
  refine (HTX.out _ HP4.out.reads (HD.out.below HB4.out)).mono ?_
  rintro e w5 ⟨rfl, hb⟩
  have HB5 := Lib.hid (HB4.out.trans (hb.mono HB4.out.size))
  have HP5 := Lib.hid (HP4.out.below hb)
  have HQ5 := Lib.hid (HQ4.out.below hb)
  have HR5 := Lib.hid (HR4.out.below hb)
  clear hb
  go_wp2_with fail
  refine (left_true A1 A3 xs.length c1 c3 xs w5 HP5.out.reads (HXL2.out ▸ HR5.out.reads) hroom (by omega)).mono ?_
  rintro e w6 ⟨rfl, q, hq⟩
  have hb : Below w5.heap.size w5 w6 := by rw [hq]; exact below_of_drewN q
  clear hq
  have HB6 := Lib.hid (HB5.out.trans (hb.mono HB5.out.size))
  have HP6 := Lib.hid (HP5.out.below hb)
  have HQ6 := Lib.hid (HQ5.out.below hb)
  have HR6 := Lib.hid (HR5.out.below hb)
  clear hb
  go_wp2_with fail
  refine (place_any w2.heap.size A3 A2 xs.length c3 (xs.length + 120) c2 (xs ++ marks) (midN xs) w6 HR6.out HXL2.out (by omega) (HML.out ▸ HQ6.out.reads : RB w6 A2 xs.length (midN xs)) HAP2.out (by omega)).mono ?_
  rintro e w7 ⟨rfl, hown, hg⟩
  have HB7 := Lib.hid (HB6.out.grown hg HB6.out.size HG3.out)
  have HP7 := Lib.hid (HP6.out.kept hg (HV1.out _ _))
  have HQ7 := Lib.hid (HQ6.out.kept hg (HV2.out _ _))
  rw [drop_marks _ rfl] at hown
  have HR7 := Lib.hid hown
  clear hown hg
  have HU7 : Hid (RB w7 A3 xs.length (midN xs)) := by
    have h := HR7.out.reads.take (k := xs.length) (by rw [HML2.out]; omega)
    rwa [List.take_append_of_le_length (by rw [HML.out]; omega), List.take_of_length_le (by rw [HML.out]; omega)] at h
  go_wp2_with fail
  refine (HSV.out _ HU7.out).mono ?_
  rintro e w8 ⟨rfl, hb⟩
  have HB8 := Lib.hid (HB7.out.trans (hb.mono HB7.out.size))
  have HP8 := Lib.hid (HP7.out.below hb)
  have HQ8 := Lib.hid (HQ7.out.below hb)
  have HR8 := Lib.hid (HR7.out.below hb)
  clear hb
  go_wp2_with fail
  refine (HTV.out _ (HML.out ▸ HQ8.out.reads : RB w8 A2 xs.length (midN xs)) (HD.out.below HB8.out)).mono ?_
  rintro e w9 ⟨rfl, hb⟩
  have HB9 := Lib.hid (HB8.out.trans (hb.mono HB8.out.size))
  have HP9 := Lib.hid (HP8.out.below hb)
  have HQ9 := Lib.hid (HQ8.out.below hb)
  have HR9 := Lib.hid (HR8.out.below hb)
  clear hb
  go_wp2_with fail
  refine (left_true A2 A3 xs.length c2 c3 (midN xs) w9 (HML.out ▸ HQ9.out.reads : RB w9 A2 xs.length (midN xs)) (HML2.out ▸ HR9.out.reads) hroom (by omega)).mono ?_
  rintro e w10 ⟨rfl, q, hq⟩
  have hb : Below w9.heap.size w9 w10 := by rw [hq]; exact below_of_drewN q
  clear hq
  have HB10 := Lib.hid (HB9.out.trans (hb.mono HB9.out.size))
  have HP10 := Lib.hid (HP9.out.below hb)
  have HQ10 := Lib.hid (HQ9.out.below hb)
  have HR10 := Lib.hid (HR9.out.below hb)
  clear hb
  go_wp2_with fail
  refine (place_any w2.heap.size A3 A1 xs.length c3 (xs.length + 120) c1 (midN xs ++ marks) xs w10 HR10.out HML2.out (by omega) HP10.out.reads HAP1.out (by omega)).mono ?_
  rintro e w11 ⟨rfl, hown, hg⟩
  have HB11 := Lib.hid (HB10.out.grown hg HB10.out.size HG3.out)
  have HP11 := Lib.hid (HP10.out.kept hg (HV1.out _ _))
  have HQ11 := Lib.hid (HQ10.out.kept hg (HV2.out _ _))
  rw [drop_marks _ HML.out] at hown
  have HR11 := Lib.hid hown
  clear hown hg
  have HU11 : Hid (RB w11 A3 xs.length xs) := by
    have h := HR11.out.reads.take (k := xs.length) (by rw [HXL2.out]; omega)
    rwa [List.take_append_of_le_length (by omega), List.take_of_length_le (by omega)] at h
  go_wp2_with fail
  refine (HSU.out _ HU11.out).mono ?_
  rintro e w12 ⟨rfl, hb⟩
  have HB12 := Lib.hid (HB11.out.trans (hb.mono HB11.out.size))
  have HP12 := Lib.hid (HP11.out.below hb)
  have HQ12 := Lib.hid (HQ11.out.below hb)
  have HR12 := Lib.hid (HR11.out.below hb)
  clear hb
  go_wp2_with fail
  refine (HTX.out _ HP12.out.reads (HD.out.below HB12.out)).mono ?_
  rintro e w13 ⟨rfl, hb⟩
  have HB13 := Lib.hid (HB12.out.trans (hb.mono HB12.out.size))
  have HP13 := Lib.hid (HP12.out.below hb)
  have HQ13 := Lib.hid (HQ12.out.below hb)
  have HR13 := Lib.hid (HR12.out.below hb)
  clear hb
  go_wp2_with fail
  refine (left_true A1 A3 xs.length c1 c3 xs w13 HP13.out.reads (HXL2.out ▸ HR13.out.reads) hroom (by omega)).mono ?_
  rintro e w14 ⟨rfl, q, hq⟩
  have hb : Below w13.heap.size w13 w14 := by rw [hq]; exact below_of_drewN q
  clear hq
  have HB14 := Lib.hid (HB13.out.trans (hb.mono HB13.out.size))
  have HP14 := Lib.hid (HP13.out.below hb)
  have HQ14 := Lib.hid (HQ13.out.below hb)
  have HR14 := Lib.hid (HR13.out.below hb)
  clear hb
  have HU14 : Hid (RB w14 A3 xs.length xs) := by
    have h := HR14.out.reads.take (k := xs.length) (by rw [HXL2.out]; omega)
    rwa [List.take_append_of_le_length (by omega), List.take_of_length_le (by omega)] at h
  go_wp2_with fail
  refine (HSL.out _ HU14.out).mono ?_
  rintro e w15 ⟨z15, rfl, hz, hb⟩
  obtain ⟨AZ15, cz15, rfl, _⟩ := hz.form
  have HZ15 := Lib.hid hz
  clear hz
  have HB15 := Lib.hid (HB14.out.trans (hb.mono HB14.out.size))
  have HP15 := Lib.hid (HP14.out.below hb)
  have HQ15 := Lib.hid (HQ14.out.below hb)
  have HR15 := Lib.hid (HR14.out.below hb)
  clear hb
  go_wp2_with fail
  refine (whole_true HZ15.out.reads HZ15.out.room HLX.out HWS.out).mono ?_
  rintro e w16 ⟨rfl, hb⟩
  have HB16 := Lib.hid (HB15.out.trans (hb.mono HB15.out.size))
  have HP16 := Lib.hid (HP15.out.below hb)
  have HQ16 := Lib.hid (HQ15.out.below hb)
  have HR16 := Lib.hid (HR15.out.below hb)
  clear hb
  go_wp2_with fail
  go_ret
  exact ⟨by simp, HB16.out⟩
end Go.Proofs.YtadnckkipppbcaaDoor
