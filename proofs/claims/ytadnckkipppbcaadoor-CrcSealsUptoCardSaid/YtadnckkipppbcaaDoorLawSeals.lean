/- ledgerlaw2.CrcSeals: the walk. -/
import Derived.Test.YtadnckkipppbcaaDoorRefSeal
import Derived.Test.YtadnckkipppbcaaDoorSeal
import Derived.Test.YtadnckkipppbcaaDoorSame
import Derived.Test.YtadnckkipppbcaaDoorPlace
import Derived.Test.YtadnckkipppbcaaDoorLawSums
namespace Go.Proofs.YtadnckkipppbcaaDoor
open Go.RowKit
theorem same_self (A B : Option Addr) (c d : Nat) (xs : List Nat) (w : World) (hx : RB w A xs.length xs) (hy : RB w B xs.length xs) (hn : xs.length ≤ 281474976710656) :
    Calls Tryd.prog 18 #[.slice A xs.length c, .slice B xs.length d] w fun e w' => e = .returned (.bool true) ∧ ∃ q, w' = w.drewN q := by
  have := same_any A B xs.length c xs.length d xs xs w hx hy hn
  rwa [sameB_eq rfl] at this
set_option maxHeartbeats 2000000 in
theorem seals_walk (A : Option Addr) (n c : Nat) (xs : List Nat) (w : World) (hx : RB w A n xs) (hn : n ≤ 2097152) (hd : DivT w) :
    Calls Tryd.prog 5 #[.slice A n c] w fun e w' => e = .returned (.bool true) ∧ Below w.heap.size w w' := by
  have HC := Lib.hid (copied_any A n c xs w hx (by omega))
  have HD := Lib.hid hd
  obtain rfl : xs.length = n := hx.1
  have hml := midN_length xs
  have HML : Hid ((midN xs).length = xs.length) := hml
  clear hx hd hml
  go_enter Tryd.func5, Tryd.ntmps5
  go_wp2_with fail
  refine HC.out.mono ?_
  rintro e w1 ⟨v1, rfl, hown1, hb1⟩
  have HB1 := Lib.hid hb1
  have HP1 := Lib.hid hown1
  obtain ⟨A1, c1, rfl, hr1, _⟩ := hown1.form
  have HM := Lib.hid (middle_any A1 xs.length c1 xs w1 hr1 (by omega))
  clear hown1 hb1 hr1 HC
  go_wp2_with fail
  refine HM.out.mono ?_
  rintro e w2 ⟨v2, rfl, hown2, hb2⟩
  have HB2 := Lib.hid (HB1.out.trans (hb2.mono HB1.out.size))
  have HP2 := Lib.hid (HP1.out.below hb2)
  have HQ2 := Lib.hid hown2
  have HL2 := Lib.hid (lt_of_own HP1.out hb2.size)
  have HK2 := Lib.hid (lt_of_own hown2 (Nat.le_refl _))
  obtain ⟨A2, c2, rfl, _⟩ := hown2.form
  rw [HML.out] at HQ2 HK2
  simp only [HML.out]
  have HR := Lib.hid (roomy_any A1 xs.length c1 xs w2 HP2.out.reads (by omega))
  clear hown2 hb2 HM
  go_wp2_with fail
  refine HR.out.mono ?_
  rintro e w3 ⟨⟨A3, c3, rfl, hown3⟩, hb3⟩
  have HB3 := Lib.hid (HB2.out.trans (hb3.mono HB2.out.size))
  have HP3 := Lib.hid (HP2.out.below hb3)
  have HQ3 := Lib.hid (HQ2.out.below hb3)
  have HR3 := Lib.hid hown3
  have hroom : xs.length + 120 ≤ c3 := by
    have := hown3.room
    rwa [List.length_append, marks_length] at this
  have HAP1 : Hid (∀ ad bd, A3 = some ad → A1 = some bd → ad.block ≠ bd.block) := fun ad bd e2 e1 e => by
    subst e1 e2
    have a := HL2.out bd.block rfl
    have b := hown3.ge ad.block rfl
    omega
  have HAP2 : Hid (∀ ad bd, A3 = some ad → A2 = some bd → ad.block ≠ bd.block) := fun ad bd e2 e1 e => by
    subst e1 e2
    have a := HK2.out bd.block rfl
    have b := hown3.ge ad.block rfl
    omega
  have HV1 : Hid (∀ (n1 n2 : Nat), (Value.slice A1 n1 c1).ownBlock = none ∨ (Value.slice A1 n1 c1).ownBlock ≠ (Value.slice A3 n2 c3).ownBlock) := fun n1 n2 => by
    rcases A1 with _ | a1
    · exact .inl rfl
    · refine .inr fun e => ?_
      rcases A3 with _ | a3
      · cases e
      · exact HAP1.out a3 a1 rfl rfl (by injection e with e; exact e.symm)
  have HV2 : Hid (∀ (n1 n2 : Nat), (Value.slice A2 n1 c2).ownBlock = none ∨ (Value.slice A2 n1 c2).ownBlock ≠ (Value.slice A3 n2 c3).ownBlock) := fun n1 n2 => by
    rcases A2 with _ | a1
    · exact .inl rfl
    · refine .inr fun e => ?_
      rcases A3 with _ | a3
      · cases e
      · exact HAP2.out a3 a1 rfl rfl (by injection e with e; exact e.symm)
  have HG3 : Hid (∀ k, (Value.slice A3 (xs.length + 120) c3).ownBlock = some k → w.heap.size ≤ k) := fun k hk => Nat.le_trans HB2.out.size (hown3.ge k hk)
  have HML2 : Hid ((midN xs ++ marks).length = xs.length + 120) := by
    show (midN xs ++ marks).length = _
    rw [List.length_append, marks_length, HML.out]
  have HXL2 : Hid ((xs ++ marks).length = xs.length + 120) := by
    show (xs ++ marks).length = _
    rw [List.length_append, marks_length]
  clear hown3 hb3 HR
  have HA3 : Hid (A3 = none → c3 = 0) := HR3.out.reads'.2.2.2
  have HSU : Hid (∀ W, RB W A3 xs.length xs → Calls Tryd.prog 19 #[.slice A3 xs.length c3] W fun e w' => ∃ v, e = .returned v ∧ OwnU w' W.heap.size v (sealN xs) ∧ Below W.heap.size W w') := fun W h => seal_any A3 xs.length c3 xs W h HA3.out (by omega)
  have HSV : Hid (∀ W, RB W A3 xs.length (midN xs) → Calls Tryd.prog 19 #[.slice A3 xs.length c3] W fun e w' => ∃ v, e = .returned v ∧ OwnU w' W.heap.size v (sealN (midN xs)) ∧ Below W.heap.size W w') := fun W h => seal_any A3 xs.length c3 (midN xs) W h HA3.out (by omega)
  have HTX : Hid (∀ W, RB W A1 xs.length xs → DivT W → Calls Tryd.prog 20 #[.slice A1 xs.length c1] W fun e w' => ∃ v, e = .returned v ∧ OwnU w' W.heap.size v (sealN xs) ∧ Below W.heap.size W w') := fun W h d => refseal_any A1 xs.length c1 xs W h (by omega) d
  have HTV : Hid (∀ W, RB W A2 xs.length (midN xs) → DivT W → Calls Tryd.prog 20 #[.slice A2 xs.length c2] W fun e w' => ∃ v, e = .returned v ∧ OwnU w' W.heap.size v (sealN (midN xs)) ∧ Below W.heap.size W w') := fun W h d => refseal_any A2 xs.length c2 (midN xs) W h (by omega) d
  have HLX : Hid ((sealN xs).length ≤ 281474976710656) := by
    show (sealN xs).length ≤ _
    rw [sealN_length]; omega
  have HLV : Hid ((sealN (midN xs)).length ≤ 281474976710656) := by
    show (sealN (midN xs)).length ≤ _
    rw [sealN_length, HML.out]; omega
  generalize sealN xs = sx at *
  generalize sealN (midN xs) = sv at *
  have HU3 : Hid (RB w3 A3 xs.length xs) := by
    have h := HR3.out.reads.take (k := xs.length) (by rw [HXL2.out]; omega)
    rwa [List.take_append_of_le_length (by omega), List.take_of_length_le (by omega)] at h
  go_wp2_with fail
  refine (HSU.out _ HU3.out).mono ?_
  rintro e w4 ⟨z4, rfl, hz, hb⟩
  obtain ⟨AZ4, cz4, rfl, _⟩ := hz.form
  have HZ4 := Lib.hid hz
  clear hz
  have HB4 := Lib.hid (HB3.out.trans (hb.mono HB3.out.size))
  have HP4 := Lib.hid (HP3.out.below hb)
  have HQ4 := Lib.hid (HQ3.out.below hb)
  have HR4 := Lib.hid (HR3.out.below hb)
  clear hb
  go_wp2_with fail
  refine (HTX.out _ HP4.out.reads (HD.out.below HB4.out)).mono ?_
  rintro e w5 ⟨z5, rfl, hz, hb⟩
  obtain ⟨AZ5, cz5, rfl, _⟩ := hz.form
  have HZ5 := Lib.hid hz
  clear hz
  have HB5 := Lib.hid (HB4.out.trans (hb.mono HB4.out.size))
  have HP5 := Lib.hid (HP4.out.below hb)
  have HQ5 := Lib.hid (HQ4.out.below hb)
  have HR5 := Lib.hid (HR4.out.below hb)
  have HY5 := Lib.hid (HZ4.out.below hb)
  clear hb
  go_wp2_with fail
  refine (same_self AZ4 AZ5 cz4 cz5 sx w5 HY5.out.reads HZ5.out.reads HLX.out).mono ?_
  rintro e w6 ⟨rfl, q, hq⟩
  have hb : Below w5.heap.size w5 w6 := by rw [hq]; exact below_of_drewN q
  clear hq HY5 HZ4 HZ5
  have HB6 := Lib.hid (HB5.out.trans (hb.mono HB5.out.size))
  have HP6 := Lib.hid (HP5.out.below hb)
  have HQ6 := Lib.hid (HQ5.out.below hb)
  have HR6 := Lib.hid (HR5.out.below hb)
  clear hb
  go_wp2_with fail
  refine (left_true A1 A3 xs.length c1 c3 xs w6 HP6.out.reads (HXL2.out ▸ HR6.out.reads) hroom (by omega)).mono ?_
  rintro e w7 ⟨rfl, q, hq⟩
  have hb : Below w6.heap.size w6 w7 := by rw [hq]; exact below_of_drewN q
  clear hq
  have HB7 := Lib.hid (HB6.out.trans (hb.mono HB6.out.size))
  have HP7 := Lib.hid (HP6.out.below hb)
  have HQ7 := Lib.hid (HQ6.out.below hb)
  have HR7 := Lib.hid (HR6.out.below hb)
  clear hb
  go_wp2_with fail
  refine (place_any w2.heap.size A3 A2 xs.length c3 (xs.length + 120) c2 (xs ++ marks) (midN xs) w7 HR7.out HXL2.out (by omega) (HML.out ▸ HQ7.out.reads : RB w7 A2 xs.length (midN xs)) HAP2.out (by omega)).mono ?_
  rintro e w8 ⟨rfl, hown, hg⟩
  have HB8 := Lib.hid (HB7.out.grown hg HB7.out.size HG3.out)
  have HP8 := Lib.hid (HP7.out.kept hg (HV1.out _ _))
  have HQ8 := Lib.hid (HQ7.out.kept hg (HV2.out _ _))
  rw [drop_marks _ rfl] at hown
  have HR8 := Lib.hid hown
  clear hown hg
  have HU8 : Hid (RB w8 A3 xs.length (midN xs)) := by
    have h := HR8.out.reads.take (k := xs.length) (by rw [HML2.out]; omega)
    rwa [List.take_append_of_le_length (by rw [HML.out]; omega), List.take_of_length_le (by rw [HML.out]; omega)] at h
  go_wp2_with fail
  refine (HSV.out _ HU8.out).mono ?_
  rintro e w9 ⟨z9, rfl, hz, hb⟩
  obtain ⟨AZ9, cz9, rfl, _⟩ := hz.form
  have HZ9 := Lib.hid hz
  clear hz
  have HB9 := Lib.hid (HB8.out.trans (hb.mono HB8.out.size))
  have HP9 := Lib.hid (HP8.out.below hb)
  have HQ9 := Lib.hid (HQ8.out.below hb)
  have HR9 := Lib.hid (HR8.out.below hb)
  clear hb
  go_wp2_with fail
  refine (HTV.out _ (HML.out ▸ HQ9.out.reads : RB w9 A2 xs.length (midN xs)) (HD.out.below HB9.out)).mono ?_
  rintro e w10 ⟨z10, rfl, hz, hb⟩
  obtain ⟨AZ10, cz10, rfl, _⟩ := hz.form
  have HZ10 := Lib.hid hz
  clear hz
  have HB10 := Lib.hid (HB9.out.trans (hb.mono HB9.out.size))
  have HP10 := Lib.hid (HP9.out.below hb)
  have HQ10 := Lib.hid (HQ9.out.below hb)
  have HR10 := Lib.hid (HR9.out.below hb)
  have HY10 := Lib.hid (HZ9.out.below hb)
  clear hb
  go_wp2_with fail
  refine (same_self AZ9 AZ10 cz9 cz10 sv w10 HY10.out.reads HZ10.out.reads HLV.out).mono ?_
  rintro e w11 ⟨rfl, q, hq⟩
  have hb : Below w10.heap.size w10 w11 := by rw [hq]; exact below_of_drewN q
  clear hq HY10 HZ9 HZ10
  have HB11 := Lib.hid (HB10.out.trans (hb.mono HB10.out.size))
  have HP11 := Lib.hid (HP10.out.below hb)
  have HQ11 := Lib.hid (HQ10.out.below hb)
  have HR11 := Lib.hid (HR10.out.below hb)
  clear hb
  go_wp2_with fail
  refine (left_true A2 A3 xs.length c2 c3 (midN xs) w11 (HML.out ▸ HQ11.out.reads : RB w11 A2 xs.length (midN xs)) (HML2.out ▸ HR11.out.reads) hroom (by omega)).mono ?_
  rintro e w12 ⟨rfl, q, hq⟩
  have hb : Below w11.heap.size w11 w12 := by rw [hq]; exact below_of_drewN q
  clear hq
  have HB12 := Lib.hid (HB11.out.trans (hb.mono HB11.out.size))
  have HP12 := Lib.hid (HP11.out.below hb)
  have HQ12 := Lib.hid (HQ11.out.below hb)
  have HR12 := Lib.hid (HR11.out.below hb)
  clear hb
  go_wp2_with fail
  refine (place_any w2.heap.size A3 A1 xs.length c3 (xs.length + 120) c1 (midN xs ++ marks) xs w12 HR12.out HML2.out (by omega) HP12.out.reads HAP1.out (by omega)).mono ?_
  rintro e w13 ⟨rfl, hown, hg⟩
  have HB13 := Lib.hid (HB12.out.grown hg HB12.out.size HG3.out)
  have HP13 := Lib.hid (HP12.out.kept hg (HV1.out _ _))
  have HQ13 := Lib.hid (HQ12.out.kept hg (HV2.out _ _))
  rw [drop_marks _ HML.out] at hown
  have HR13 := Lib.hid hown
  clear hown hg
  have HU13 : Hid (RB w13 A3 xs.length xs) := by
    have h := HR13.out.reads.take (k := xs.length) (by rw [HXL2.out]; omega)
    rwa [List.take_append_of_le_length (by omega), List.take_of_length_le (by omega)] at h
  go_wp2_with fail
  refine (HSU.out _ HU13.out).mono ?_
  rintro e w14 ⟨z14, rfl, hz, hb⟩
  obtain ⟨AZ14, cz14, rfl, _⟩ := hz.form
  have HZ14 := Lib.hid hz
  clear hz
  have HB14 := Lib.hid (HB13.out.trans (hb.mono HB13.out.size))
  have HP14 := Lib.hid (HP13.out.below hb)
  have HQ14 := Lib.hid (HQ13.out.below hb)
  have HR14 := Lib.hid (HR13.out.below hb)
  clear hb
  go_wp2_with fail
  refine (HTX.out _ HP14.out.reads (HD.out.below HB14.out)).mono ?_
  rintro e w15 ⟨z15, rfl, hz, hb⟩
  obtain ⟨AZ15, cz15, rfl, _⟩ := hz.form
  have HZ15 := Lib.hid hz
  clear hz
  have HB15 := Lib.hid (HB14.out.trans (hb.mono HB14.out.size))
  have HP15 := Lib.hid (HP14.out.below hb)
  have HQ15 := Lib.hid (HQ14.out.below hb)
  have HR15 := Lib.hid (HR14.out.below hb)
  have HY15 := Lib.hid (HZ14.out.below hb)
  clear hb
  go_wp2_with fail
  refine (same_self AZ14 AZ15 cz14 cz15 sx w15 HY15.out.reads HZ15.out.reads HLX.out).mono ?_
  rintro e w16 ⟨rfl, q, hq⟩
  have hb : Below w15.heap.size w15 w16 := by rw [hq]; exact below_of_drewN q
  clear hq HY15 HZ14 HZ15
  have HB16 := Lib.hid (HB15.out.trans (hb.mono HB15.out.size))
  have HP16 := Lib.hid (HP15.out.below hb)
  have HQ16 := Lib.hid (HQ15.out.below hb)
  have HR16 := Lib.hid (HR15.out.below hb)
  clear hb
  go_wp2_with fail
  refine (left_true A1 A3 xs.length c1 c3 xs w16 HP16.out.reads (HXL2.out ▸ HR16.out.reads) hroom (by omega)).mono ?_
  rintro e w17 ⟨rfl, q, hq⟩
  have hb : Below w16.heap.size w16 w17 := by rw [hq]; exact below_of_drewN q
  clear hq
  have HB17 := Lib.hid (HB16.out.trans (hb.mono HB16.out.size))
  have HP17 := Lib.hid (HP16.out.below hb)
  have HQ17 := Lib.hid (HQ16.out.below hb)
  have HR17 := Lib.hid (HR16.out.below hb)
  clear hb
  go_wp2_with fail
  go_ret
  exact ⟨by simp, HB17.out⟩
end Go.Proofs.YtadnckkipppbcaaDoor
