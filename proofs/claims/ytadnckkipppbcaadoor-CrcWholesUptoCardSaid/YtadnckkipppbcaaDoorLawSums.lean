/- ledgerlaw2.CrcSums: the walk. -/
import Derived.Test.YtadnckkipppbcaaDoorRefSum
import Derived.Test.YtadnckkipppbcaaDoorPlace
namespace Go.Proofs.YtadnckkipppbcaaDoor
open Go.RowKit
theorem below_of_drewN {w : World} (q : Nat) : Below w.heap.size w (w.drewN q) := drewN_below (Below.refl _ _) q
theorem drop_marks (xs : List Nat) {n : Nat} (h : xs.length = n) : (xs ++ marks).drop n = marks := by
  rw [← h, List.drop_left]
/-- A block that is owned since later lies apart from one that was there. -/
theorem adr_apart {e : TypeId} {w1 w2 w : World} {b1 n1 c1 n2 c2 : Nat} {A1 A2 : Option Addr} {xs ys : List Nat} (h1 : Own e w1 b1 (.slice A1 n1 c1) xs) (hs : w1.heap.size ≤ b1 + (w2.heap.size - b1)) (h2 : Own e w w2.heap.size (.slice A2 n2 c2) ys) (hle : w1.heap.size ≤ w2.heap.size) :
    ∀ ad bd, A2 = some ad → A1 = some bd → ad.block ≠ bd.block := by
  have _ := hs
  intro ad bd e2 e1 e
  subst e1 e2
  have a := (h1.lt bd.block rfl).2
  have b := h2.ge ad.block rfl
  omega
set_option maxHeartbeats 2000000 in
theorem sums_walk (A : Option Addr) (n c : Nat) (xs : List Nat) (w : World) (hx : RB w A n xs) (hn : n ≤ 2097152) (hd : DivT w) :
    Calls Tryd.prog 3 #[.slice A n c] w fun e w' => e = .returned (.bool true) ∧ Below w.heap.size w w' := by
  have HC := Lib.hid (copied_any A n c xs w hx (by omega))
  have HD := Lib.hid hd
  obtain rfl : xs.length = n := hx.1
  have hml := midN_length xs
  have HML : Hid ((midN xs).length = xs.length) := hml
  clear hx hd hml
  go_enter Tryd.func3, Tryd.ntmps3
  go_wp2_with fail
  refine HC.out.mono ?_
  rintro e w1 ⟨v1, rfl, hown1, hb1⟩
  have HB1 := Lib.hid hb1
  have HP1 := Lib.hid hown1
  obtain ⟨A1, c1, rfl, hr1, _⟩ := hown1.form
  have HM := Lib.hid (middle_any A1 xs.length c1 xs w1 hr1 (by omega))
  clear hown1 hb1 hr1 HC
  go_wp2_with fail
  refine HM.out.mono ?_
  rintro e w2 ⟨v2, rfl, hown2, hb2⟩
  have HB2 := Lib.hid (HB1.out.trans (hb2.mono HB1.out.size))
  have HP2 := Lib.hid (HP1.out.below hb2)
  have HQ2 := Lib.hid hown2
  have HL2 := Lib.hid (lt_of_own HP1.out hb2.size)
  have HK2 := Lib.hid (lt_of_own hown2 (Nat.le_refl _))
  obtain ⟨A2, c2, rfl, _⟩ := hown2.form
  rw [HML.out] at HQ2 HK2
  simp only [HML.out]
  have HR := Lib.hid (roomy_any A1 xs.length c1 xs w2 HP2.out.reads (by omega))
  clear hown2 hb2 HM
  go_wp2_with fail
  refine HR.out.mono ?_
  rintro e w3 ⟨⟨A3, c3, rfl, hown3⟩, hb3⟩
  have HB3 := Lib.hid (HB2.out.trans (hb3.mono HB2.out.size))
  have HP3 := Lib.hid (HP2.out.below hb3)
  have HQ3 := Lib.hid (HQ2.out.below hb3)
  have HR3 := Lib.hid hown3
  have hroom : xs.length + 120 ≤ c3 := by
    have := hown3.room
    rwa [List.length_append, marks_length] at this
  have HAP1 : Hid (∀ ad bd, A3 = some ad → A1 = some bd → ad.block ≠ bd.block) := fun ad bd e2 e1 e => by
    subst e1 e2
    have a := HL2.out bd.block rfl
    have b := hown3.ge ad.block rfl
    omega
  have HAP2 : Hid (∀ ad bd, A3 = some ad → A2 = some bd → ad.block ≠ bd.block) := fun ad bd e2 e1 e => by
    subst e1 e2
    have a := HK2.out bd.block rfl
    have b := hown3.ge ad.block rfl
    omega
  have HV1 : Hid (∀ (n1 n2 : Nat), (Value.slice A1 n1 c1).ownBlock = none ∨ (Value.slice A1 n1 c1).ownBlock ≠ (Value.slice A3 n2 c3).ownBlock) := fun n1 n2 => by
    rcases A1 with _ | a1
    · exact .inl rfl
    · refine .inr fun e => ?_
      rcases A3 with _ | a3
      · cases e
      · exact HAP1.out a3 a1 rfl rfl (by injection e with e; exact e.symm)
  have HV2 : Hid (∀ (n1 n2 : Nat), (Value.slice A2 n1 c2).ownBlock = none ∨ (Value.slice A2 n1 c2).ownBlock ≠ (Value.slice A3 n2 c3).ownBlock) := fun n1 n2 => by
    rcases A2 with _ | a1
    · exact .inl rfl
    · refine .inr fun e => ?_
      rcases A3 with _ | a3
      · cases e
      · exact HAP2.out a3 a1 rfl rfl (by injection e with e; exact e.symm)
  have HG3 : Hid (∀ k, (Value.slice A3 (xs.length + 120) c3).ownBlock = some k → w.heap.size ≤ k) := fun k hk => Nat.le_trans HB2.out.size (hown3.ge k hk)
  have HML2 : Hid ((midN xs ++ marks).length = xs.length + 120) := by
    show (midN xs ++ marks).length = _
    rw [List.length_append, marks_length, HML.out]
  have HXL2 : Hid ((xs ++ marks).length = xs.length + 120) := by
    show (xs ++ marks).length = _
    rw [List.length_append, marks_length]
  clear hown3 hb3 HR
  have HSU : Hid (∀ W, RB W A3 xs.length xs → Calls Tryd.prog 12 #[.slice A3 xs.length c3] W fun e w' => e = .returned (.int .u32 (updN 0 xs : Nat)) ∧ Below W.heap.size W w') := fun W h => sum_any A3 xs.length c3 xs W h (by omega)
  have HSV : Hid (∀ W, RB W A3 xs.length (midN xs) → Calls Tryd.prog 12 #[.slice A3 xs.length c3] W fun e w' => e = .returned (.int .u32 (updN 0 (midN xs) : Nat)) ∧ Below W.heap.size W w') := fun W h => sum_any A3 xs.length c3 (midN xs) W h (by omega)
  have HTX : Hid (∀ W, RB W A1 xs.length xs → DivT W → Calls Tryd.prog 11 #[.slice A1 xs.length c1] W fun e w' => e = .returned (.int .u32 (updN 0 xs : Nat)) ∧ Below W.heap.size W w') := fun W h d => refsum_any A1 xs.length c1 xs W h (by omega) d
  have HTV : Hid (∀ W, RB W A2 xs.length (midN xs) → DivT W → Calls Tryd.prog 11 #[.slice A2 xs.length c2] W fun e w' => e = .returned (.int .u32 (updN 0 (midN xs) : Nat)) ∧ Below W.heap.size W w') := fun W h d => refsum_any A2 xs.length c2 (midN xs) W h (by omega) d
  generalize updN 0 xs = sx at *
  generalize updN 0 (midN xs) = sv at *
  go_wp2_with fail
  refine (HTX.out _ HP3.out.reads (HD.out.below HB3.out)).mono ?_
  rintro e w4 ⟨rfl, hb⟩
  have HB4 := Lib.hid (HB3.out.trans (hb.mono HB3.out.size))
  have HP4 := Lib.hid (HP3.out.below hb)
  have HQ4 := Lib.hid (HQ3.out.below hb)
  have HR4 := Lib.hid (HR3.out.below hb)
  clear hb
  have HU4 : Hid (RB w4 A3 xs.length xs) := by
    have h := HR4.out.reads.take (k := xs.length) (by rw [HXL2.out]; omega)
    rwa [List.take_append_of_le_length (by omega), List.take_of_length_le (by omega)] at h
  go_wp2_with fail
  refine (HSU.out _ HU4.out).mono ?_
  rintro e w5 ⟨rfl, hb⟩
  have HB5 := Lib.hid (HB4.out.trans (hb.mono HB4.out.size))
  have HP5 := Lib.hid (HP4.out.below hb)
  have HQ5 := Lib.hid (HQ4.out.below hb)
  have HR5 := Lib.hid (HR4.out.below hb)
  clear hb
  go_wp2_with fail
  refine (left_true A1 A3 xs.length c1 c3 xs w5 HP5.out.reads (HXL2.out ▸ HR5.out.reads) hroom (by omega)).mono ?_
  rintro e w6 ⟨rfl, q, hq⟩
  have hb : Below w5.heap.size w5 w6 := by rw [hq]; exact below_of_drewN q
  clear hq
  have HB6 := Lib.hid (HB5.out.trans (hb.mono HB5.out.size))
  have HP6 := Lib.hid (HP5.out.below hb)
  have HQ6 := Lib.hid (HQ5.out.below hb)
  have HR6 := Lib.hid (HR5.out.below hb)
  clear hb
  have HU6 : Hid (RB w6 A3 xs.length xs) := by
    have h := HR6.out.reads.take (k := xs.length) (by rw [HXL2.out]; omega)
    rwa [List.take_append_of_le_length (by omega), List.take_of_length_le (by omega)] at h
  go_wp2_with fail
  refine (HSU.out _ HU6.out).mono ?_
  rintro e w7 ⟨rfl, hb⟩
  have HB7 := Lib.hid (HB6.out.trans (hb.mono HB6.out.size))
  have HP7 := Lib.hid (HP6.out.below hb)
  have HQ7 := Lib.hid (HQ6.out.below hb)
  have HR7 := Lib.hid (HR6.out.below hb)
  clear hb
  go_wp2_with fail
  refine (place_any w2.heap.size A3 A2 xs.length c3 (xs.length + 120) c2 (xs ++ marks) (midN xs) w7 HR7.out HXL2.out (by omega) (HML.out ▸ HQ7.out.reads : RB w7 A2 xs.length (midN xs)) HAP2.out (by omega)).mono ?_
  rintro e w8 ⟨rfl, hown, hg⟩
  have HB8 := Lib.hid (HB7.out.grown hg HB7.out.size HG3.out)
  have HP8 := Lib.hid (HP7.out.kept hg (HV1.out _ _))
  have HQ8 := Lib.hid (HQ7.out.kept hg (HV2.out _ _))
  rw [drop_marks _ rfl] at hown
  have HR8 := Lib.hid hown
  clear hown hg
  have HU8 : Hid (RB w8 A3 xs.length (midN xs)) := by
    have h := HR8.out.reads.take (k := xs.length) (by rw [HML2.out]; omega)
    rwa [List.take_append_of_le_length (by rw [HML.out]; omega), List.take_of_length_le (by rw [HML.out]; omega)] at h
  go_wp2_with fail
  refine (HSV.out _ HU8.out).mono ?_
  rintro e w9 ⟨rfl, hb⟩
  have HB9 := Lib.hid (HB8.out.trans (hb.mono HB8.out.size))
  have HP9 := Lib.hid (HP8.out.below hb)
  have HQ9 := Lib.hid (HQ8.out.below hb)
  have HR9 := Lib.hid (HR8.out.below hb)
  clear hb
  go_wp2_with fail
  refine (HTV.out _ (HML.out ▸ HQ9.out.reads : RB w9 A2 xs.length (midN xs)) (HD.out.below HB9.out)).mono ?_
  rintro e w10 ⟨rfl, hb⟩
  have HB10 := Lib.hid (HB9.out.trans (hb.mono HB9.out.size))
  have HP10 := Lib.hid (HP9.out.below hb)
  have HQ10 := Lib.hid (HQ9.out.below hb)
  have HR10 := Lib.hid (HR9.out.below hb)
  clear hb
  go_wp2_with fail
  refine (left_true A2 A3 xs.length c2 c3 (midN xs) w10 (HML.out ▸ HQ10.out.reads : RB w10 A2 xs.length (midN xs)) (HML2.out ▸ HR10.out.reads) hroom (by omega)).mono ?_
  rintro e w11 ⟨rfl, q, hq⟩
  have hb : Below w10.heap.size w10 w11 := by rw [hq]; exact below_of_drewN q
  clear hq
  have HB11 := Lib.hid (HB10.out.trans (hb.mono HB10.out.size))
  have HP11 := Lib.hid (HP10.out.below hb)
  have HQ11 := Lib.hid (HQ10.out.below hb)
  have HR11 := Lib.hid (HR10.out.below hb)
  clear hb
  go_wp2_with fail
  refine (place_any w2.heap.size A3 A1 xs.length c3 (xs.length + 120) c1 (midN xs ++ marks) xs w11 HR11.out HML2.out (by omega) HP11.out.reads HAP1.out (by omega)).mono ?_
  rintro e w12 ⟨rfl, hown, hg⟩
  have HB12 := Lib.hid (HB11.out.grown hg HB11.out.size HG3.out)
  have HP12 := Lib.hid (HP11.out.kept hg (HV1.out _ _))
  have HQ12 := Lib.hid (HQ11.out.kept hg (HV2.out _ _))
  rw [drop_marks _ HML.out] at hown
  have HR12 := Lib.hid hown
  clear hown hg
  have HU12 : Hid (RB w12 A3 xs.length xs) := by
    have h := HR12.out.reads.take (k := xs.length) (by rw [HXL2.out]; omega)
    rwa [List.take_append_of_le_length (by omega), List.take_of_length_le (by omega)] at h
  go_wp2_with fail
  refine (HSU.out _ HU12.out).mono ?_
  rintro e w13 ⟨rfl, hb⟩
  have HB13 := Lib.hid (HB12.out.trans (hb.mono HB12.out.size))
  have HP13 := Lib.hid (HP12.out.below hb)
  have HQ13 := Lib.hid (HQ12.out.below hb)
  have HR13 := Lib.hid (HR12.out.below hb)
  clear hb
  go_wp2_with fail
  refine (left_true A1 A3 xs.length c1 c3 xs w13 HP13.out.reads (HXL2.out ▸ HR13.out.reads) hroom (by omega)).mono ?_
  rintro e w14 ⟨rfl, q, hq⟩
  have hb : Below w13.heap.size w13 w14 := by rw [hq]; exact below_of_drewN q
  clear hq
  have HB14 := Lib.hid (HB13.out.trans (hb.mono HB13.out.size))
  have HP14 := Lib.hid (HP13.out.below hb)
  have HQ14 := Lib.hid (HQ13.out.below hb)
  have HR14 := Lib.hid (HR13.out.below hb)
  clear hb
  go_wp2_with fail
  go_ret
  exact ⟨by simp, HB14.out⟩
end Go.Proofs.YtadnckkipppbcaaDoor
