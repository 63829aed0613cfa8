/- ledgerlaw5.FrameReads: the walk. -/
import Derived.Test.YtbjbpgbpefkbhaaDoorRefUnSuper
import Derived.Test.YtbjbpgbpefkbhaaDoorKnownSup
import Derived.Test.YtbjbpgbpefkbhaaDoorPlace
import Derived.BigQuiet
namespace Go.Proofs.YtbjbpgbpefkbhaaDoor
open Go.RowKit
theorem drop_marks (xs : List Nat) {n : Nat} (h : xs.length = n) : (xs ++ marks).drop n = marks := by
  rw [← h, List.drop_left]
set_option maxHeartbeats 1000000 in
theorem read_true (AM AL AR : Option Addr) (n cM cL cR : Nat) (ys : List Nat) (w : World) (hm : RB w AM n ys) (hl : RB w AL n ys) (hr : RB w AR (n + 600) (ys ++ marks)) (hcM : n ≤ cM) (hcL : n ≤ cL) (hc : n + 600 ≤ cR) (hn : n ≤ 140737488351232) (hd : DivT w) :
    Calls Tryd.prog 17 #[.slice AM n cM, .slice AL n cL, .slice AR (n + 600) cR] w fun e w' => e = .returned (.bool true) ∧ Below w.heap.size w w' := by
  have HM := Lib.hid hm
  have HL := Lib.hid hl
  have HR := Lib.hid hr
  have HD := Lib.hid hd
  obtain ⟨a, b, c, d, p, er, hU⟩ : ∃ a b c d p, ∃ er : Nat, unsupN ys = (⟨a, b, c, d, p⟩, er) := ⟨_, _, _, _, _, _, rfl⟩
  have HU : Hid (Calls Tryd.prog 34 #[.slice AM n cM] w fun e w' => e = .returned (.tuple #[.agg #[.int .i64 a, .int .i64 b, .int .i64 c, .int .i64 d, .int .i64 p], .int .i64 er]) ∧ Below w.heap.size w w') := by
    have h := unpackSuper_any AM n cM ys w hm hcM
    unfold UnpackedS at h
    rw [hU] at h
    exact h
  have HUR : Hid (∀ w, RB w AL n ys → DivT w → Calls Tryd.prog 35 #[.slice AL n cL] w fun e w' => e = .returned (.tuple #[.agg #[.int .i64 a, .int .i64 b, .int .i64 c, .int .i64 d, .int .i64 p], .int .i64 er]) ∧ Below w.heap.size w w') := fun w hx hd => by
    have h := refUnpackSuper_any AL n cL ys w hx hcL hn hd
    unfold UnpackedS at h
    rw [hU] at h
    exact h
  clear hU
  clear hm hl hr hd
  go_enter Tryd.func17, Tryd.ntmps17
  go_wp2_with fail
  refine HU.out.mono ?_
  rintro e w1 ⟨rfl, hb1⟩
  have HB1 := Lib.hid hb1
  have HSA := Lib.hid (BlkIs.new w1 23 (supA a b c d p))
  have HB1' := Lib.hid (hb1.alloc hb1.size (.cells (supA a b c d p) 23))
  unfold supA at HSA HB1'
  clear hb1
  go_wp2_with fail
  refine (HUR.out _ (HL.out.below HB1'.out) (HD.out.below HB1'.out)).mono ?_
  rintro e w2 ⟨rfl, hb2⟩
  have HB2 := Lib.hid (HB1'.out.trans (hb2.mono HB1'.out.size))
  have HSA2 := Lib.hid (BlkIs.below HSA.out hb2)
  have HB2' := Lib.hid (HB2.out.alloc HB2.out.size (.cells (supA a b c d p) 23))
  have hs2 := sup_at (BlkIs.alloc HSA2.out (.cells (supA a b c d p) 23))
  unfold supA at HB2' hs2
  have HL2 := Lib.hid (HL.out.below HB2'.out)
  have HR2 := Lib.hid (HR.out.below HB2'.out)
  clear hb2 HM HL HR HD HU HUR
  go_wp2_with fail
  refine (left_true AL AR n cL cR ys _ HL2.out HR2.out hc (by omega)).mono ?_
  rintro e w4 ⟨rfl, q, hw4⟩
  have HB4 : Hid (Below w.heap.size w w4) := by rw [hw4]; exact drewN_below HB2'.out q
  clear hw4
  go_wp2_with fail
  go_ret
  exact ⟨rfl, HB4.out⟩
set_option maxHeartbeats 4000000 in
theorem frameReads_walk  (A : Option Addr) (n c : Nat) (xs : List Nat) (w0 : World) (hx : RB w0 A n xs) (hn : n ≤ 140737488351232) (hd : DivT w0) :
    Calls Tryd.prog 5 #[.slice A n c] w0 fun e w' => e = .returned (.bool true) ∧ Below w0.heap.size w0 w' := by
  have HX := Lib.hid hx
  have HXL := Lib.hid hx.1
  have HD := Lib.hid hd
  have HB0 := Lib.hid (Below.refl w0.heap.size w0)
  clear hx hd
  go_enter Tryd.func5, Tryd.ntmps5
  go_wp2_with fail
  refine (copied_any A n c xs w0 HX.out (by omega)).mono ?_
  rintro e w1 ⟨vP, rfl, hown, hb⟩
  have HB1 := Lib.hid (HB0.out.trans (hb.mono HB0.out.size))
  have HP1 := Lib.hid hown
  obtain ⟨AP, cP, rfl, _, _, _, hcapP⟩ := hown.form
  rw [HXL.out] at HP1 hcapP ⊢
  clear hown hb
  go_wp2_with fail
  have HLP := Lib.hid (lt_of_own HP1.out (Nat.le_refl _))
  refine (roomy_any AP n cP xs w1 (HXL.out ▸ HP1.out.reads) (by omega)).mono ?_
  rintro e w2 ⟨⟨AR, cR, rfl, hown⟩, hb⟩
  have HB2 := Lib.hid (HB1.out.trans (hb.mono HB1.out.size))
  have HP2 := Lib.hid (HP1.out.below hb)
  have HR2 := Lib.hid hown
  have hroom : n + 600 ≤ cR := by
    have := hown.room
    rwa [List.length_append, marks_length, HXL.out] at this
  have HAQP : Hid (∀ ad bd, AR = some ad → AP = some bd → ad.block ≠ bd.block) := fun ad bd e2 e1 e => by
    subst e1 e2
    have a := HLP.out bd.block rfl
    have b := hown.ge ad.block rfl
    omega
  have HVP : Hid (∀ (n1 n2 : Nat), (Value.slice AP n1 cP).ownBlock = none ∨ (Value.slice AP n1 cP).ownBlock ≠ (Value.slice AR n2 cR).ownBlock) := fun n1 n2 => by
    rcases AP with _ | a1
    · exact .inl rfl
    · refine .inr fun e => ?_
      rcases AR with _ | a3
      · cases e
      · exact HAQP.out a3 a1 rfl rfl (by injection e with e; exact e.symm)
  have HG : Hid (∀ k, (Value.slice AR (n + 600) cR).ownBlock = some k → w0.heap.size ≤ k) := fun k hk => Nat.le_trans HB1.out.size (hown.ge k hk)
  clear hown hb HLP
  go_wp2_with fail
  have HU2 : Hid (RB w2 AR n xs) := by
    have h := HR2.out.reads.take (k := n) (by rw [List.length_append, HXL.out]; omega)
    rwa [List.take_append_of_le_length (by rw [HXL.out]; exact Nat.le_refl _), List.take_of_length_le (by rw [HXL.out]; exact Nat.le_refl _)] at h
  have HW2 : Hid (RB w2 AR (n + 600) (xs ++ marks)) := by
    have h := HR2.out.reads
    rwa [show (xs ++ marks).length = n + 600 by rw [List.length_append, marks_length, HXL.out]] at h
  have HZ2 : Hid (RB w2 AP n xs) := by
    have h := HP2.out.reads
    rwa [show (xs).length = n from HXL.out] at h
  refine (read_true AR AP AR n cR cP cR xs w2 HU2.out HZ2.out HW2.out (by omega) hcapP hroom hn (HD.out.below HB2.out)).mono ?_
  rintro e w3 ⟨rfl, hb⟩
  have HB3 := Lib.hid (HB2.out.trans (hb.mono HB2.out.size))
  have HP3 := Lib.hid (HP2.out.below hb)
  have HR3 := Lib.hid (HR2.out.below hb)
  clear hb HU2 HW2 HZ2
  go_wp2_with fail
  refine (other_any AP n cP 18 xs w3 (HXL.out ▸ HP3.out.reads) (by omega) (by omega)).mono ?_
  rintro e w4 ⟨vQ, rfl, hown, hb⟩
  have HAPQ : Hid (∀ ad bd, AR = some ad → ∀ A' n' c', vQ = .slice A' n' c' → A' = some bd → ad.block ≠ bd.block) := fun ad bd e1 A' n' c' e2 e3 e => by
    subst e1 e2 e3
    have a := (HR3.out.lt ad.block rfl).2
    have b := hown.ge bd.block rfl
    omega
  have HB4 := Lib.hid (HB3.out.trans (hb.mono HB3.out.size))
  have HP4 := Lib.hid (HP3.out.below hb)
  have HR4 := Lib.hid (HR3.out.below hb)
  have HLNQ : Hid ((othN xs 18).length = n) := by
    show (othN xs 18).length = n
    rw [othN_length, HXL.out]
  have HQ4 := Lib.hid hown
  obtain ⟨AQ, cQ, rfl, _, _, _, hcapQ⟩ := hown.form
  rw [othN_length, HXL.out] at HQ4 hcapQ ⊢
  have HAQQ : Hid (∀ ad bd, AR = some ad → AQ = some bd → ad.block ≠ bd.block) := fun ad bd e1 e2 => HAPQ.out ad bd e1 _ _ _ rfl e2
  clear HAPQ
  clear hown hb
  go_wp2_with fail
  have HVQ : Hid (∀ (n1 n2 : Nat), (Value.slice AQ n1 cQ).ownBlock = none ∨ (Value.slice AQ n1 cQ).ownBlock ≠ (Value.slice AR n2 cR).ownBlock) := fun n1 n2 => by
    rcases AQ with _ | a1
    · exact .inl rfl
    · refine .inr fun e => ?_
      rcases AR with _ | a3
      · cases e
      · exact HAQQ.out a3 a1 rfl rfl (by injection e with e; exact e.symm)
  have HZ4 : Hid (RB w4 AQ n (othN xs 18)) := by
    have h := HQ4.out.reads
    rwa [show ((othN xs 18)).length = n from HLNQ.out] at h
  refine (place_over _ AR AQ n cR (n + 600) cQ (xs ++ marks) (othN xs 18) w4 HR4.out (by rw [List.length_append, marks_length, HXL.out]) (by omega) HZ4.out HAQQ.out (by omega)).mono ?_
  rintro e w5 ⟨rfl, hown, hg⟩
  have HB5 := Lib.hid (HB4.out.grown hg HB4.out.size HG.out)
  have HP5 := Lib.hid (HP4.out.kept hg (HVP.out _ _))
  have HQ5 := Lib.hid (HQ4.out.kept hg (HVQ.out _ _))
  rw [drop_marks _ HXL.out] at hown
  have HR5 := Lib.hid hown
  clear hown hg HZ4
  go_wp2_with fail
  have HU5 : Hid (RB w5 AR n (othN xs 18)) := by
    have h := HR5.out.reads.take (k := n) (by rw [List.length_append, HLNQ.out]; omega)
    rwa [List.take_append_of_le_length (by rw [HLNQ.out]; exact Nat.le_refl _), List.take_of_length_le (by rw [HLNQ.out]; exact Nat.le_refl _)] at h
  have HW5 : Hid (RB w5 AR (n + 600) ((othN xs 18) ++ marks)) := by
    have h := HR5.out.reads
    rwa [show ((othN xs 18) ++ marks).length = n + 600 by rw [List.length_append, marks_length, HLNQ.out]] at h
  have HZ5 : Hid (RB w5 AQ n (othN xs 18)) := by
    have h := HQ5.out.reads
    rwa [show ((othN xs 18)).length = n from HLNQ.out] at h
  refine (read_true AR AQ AR n cR cQ cR (othN xs 18) w5 HU5.out HZ5.out HW5.out (by omega) hcapQ hroom hn (HD.out.below HB5.out)).mono ?_
  rintro e w6 ⟨rfl, hb⟩
  have HB6 := Lib.hid (HB5.out.trans (hb.mono HB5.out.size))
  have HP6 := Lib.hid (HP5.out.below hb)
  have HQ6 := Lib.hid (HQ5.out.below hb)
  have HR6 := Lib.hid (HR5.out.below hb)
  clear hb HU5 HW5 HZ5
  go_wp2_with fail
  have HZ6 : Hid (RB w6 AP n xs) := by
    have h := HP6.out.reads
    rwa [show (xs).length = n from HXL.out] at h
  refine (place_over _ AR AP n cR (n + 600) cP ((othN xs 18) ++ marks) xs w6 HR6.out (by rw [List.length_append, marks_length, HLNQ.out]) (by omega) HZ6.out HAQP.out (by omega)).mono ?_
  rintro e w7 ⟨rfl, hown, hg⟩
  have HB7 := Lib.hid (HB6.out.grown hg HB6.out.size HG.out)
  have HP7 := Lib.hid (HP6.out.kept hg (HVP.out _ _))
  have HQ7 := Lib.hid (HQ6.out.kept hg (HVQ.out _ _))
  rw [drop_marks _ HLNQ.out] at hown
  have HR7 := Lib.hid hown
  clear hown hg HZ6
  go_wp2_with fail
  have HU7 : Hid (RB w7 AR n xs) := by
    have h := HR7.out.reads.take (k := n) (by rw [List.length_append, HXL.out]; omega)
    rwa [List.take_append_of_le_length (by rw [HXL.out]; exact Nat.le_refl _), List.take_of_length_le (by rw [HXL.out]; exact Nat.le_refl _)] at h
  have HW7 : Hid (RB w7 AR (n + 600) (xs ++ marks)) := by
    have h := HR7.out.reads
    rwa [show (xs ++ marks).length = n + 600 by rw [List.length_append, marks_length, HXL.out]] at h
  have HZ7 : Hid (RB w7 AP n xs) := by
    have h := HP7.out.reads
    rwa [show (xs).length = n from HXL.out] at h
  refine (read_true AR AP AR n cR cP cR xs w7 HU7.out HZ7.out HW7.out (by omega) hcapP hroom hn (HD.out.below HB7.out)).mono ?_
  rintro e w8 ⟨rfl, hb⟩
  have HB8 := Lib.hid (HB7.out.trans (hb.mono HB7.out.size))
  have HP8 := Lib.hid (HP7.out.below hb)
  have HQ8 := Lib.hid (HQ7.out.below hb)
  have HR8 := Lib.hid (HR7.out.below hb)
  clear hb HU7 HW7 HZ7
  go_wp2_with fail
  refine (other_any AP n cP 200 xs w8 (HXL.out ▸ HP8.out.reads) (by omega) (by omega)).mono ?_
  rintro e w9 ⟨vS, rfl, hown, hb⟩
  have HAPS : Hid (∀ ad bd, AR = some ad → ∀ A' n' c', vS = .slice A' n' c' → A' = some bd → ad.block ≠ bd.block) := fun ad bd e1 A' n' c' e2 e3 e => by
    subst e1 e2 e3
    have a := (HR8.out.lt ad.block rfl).2
    have b := hown.ge bd.block rfl
    omega
  have HB9 := Lib.hid (HB8.out.trans (hb.mono HB8.out.size))
  have HP9 := Lib.hid (HP8.out.below hb)
  have HQ9 := Lib.hid (HQ8.out.below hb)
  have HR9 := Lib.hid (HR8.out.below hb)
  have HLNS : Hid ((othN xs 200).length = n) := by
    show (othN xs 200).length = n
    rw [othN_length, HXL.out]
  have HS9 := Lib.hid hown
  obtain ⟨AS, cS, rfl, _, _, _, hcapS⟩ := hown.form
  rw [othN_length, HXL.out] at HS9 hcapS ⊢
  have HAQS : Hid (∀ ad bd, AR = some ad → AS = some bd → ad.block ≠ bd.block) := fun ad bd e1 e2 => HAPS.out ad bd e1 _ _ _ rfl e2
  clear HAPS
  clear hown hb
  go_wp2_with fail
  have HVS : Hid (∀ (n1 n2 : Nat), (Value.slice AS n1 cS).ownBlock = none ∨ (Value.slice AS n1 cS).ownBlock ≠ (Value.slice AR n2 cR).ownBlock) := fun n1 n2 => by
    rcases AS with _ | a1
    · exact .inl rfl
    · refine .inr fun e => ?_
      rcases AR with _ | a3
      · cases e
      · exact HAQS.out a3 a1 rfl rfl (by injection e with e; exact e.symm)
  have HZ9 : Hid (RB w9 AS n (othN xs 200)) := by
    have h := HS9.out.reads
    rwa [show ((othN xs 200)).length = n from HLNS.out] at h
  refine (place_over _ AR AS n cR (n + 600) cS (xs ++ marks) (othN xs 200) w9 HR9.out (by rw [List.length_append, marks_length, HXL.out]) (by omega) HZ9.out HAQS.out (by omega)).mono ?_
  rintro e w10 ⟨rfl, hown, hg⟩
  have HB10 := Lib.hid (HB9.out.grown hg HB9.out.size HG.out)
  have HP10 := Lib.hid (HP9.out.kept hg (HVP.out _ _))
  have HQ10 := Lib.hid (HQ9.out.kept hg (HVQ.out _ _))
  have HS10 := Lib.hid (HS9.out.kept hg (HVS.out _ _))
  rw [drop_marks _ HXL.out] at hown
  have HR10 := Lib.hid hown
  clear hown hg HZ9
  go_wp2_with fail
  have HU10 : Hid (RB w10 AR n (othN xs 200)) := by
    have h := HR10.out.reads.take (k := n) (by rw [List.length_append, HLNS.out]; omega)
    rwa [List.take_append_of_le_length (by rw [HLNS.out]; exact Nat.le_refl _), List.take_of_length_le (by rw [HLNS.out]; exact Nat.le_refl _)] at h
  have HW10 : Hid (RB w10 AR (n + 600) ((othN xs 200) ++ marks)) := by
    have h := HR10.out.reads
    rwa [show ((othN xs 200) ++ marks).length = n + 600 by rw [List.length_append, marks_length, HLNS.out]] at h
  have HZ10 : Hid (RB w10 AS n (othN xs 200)) := by
    have h := HS10.out.reads
    rwa [show ((othN xs 200)).length = n from HLNS.out] at h
  refine (read_true AR AS AR n cR cS cR (othN xs 200) w10 HU10.out HZ10.out HW10.out (by omega) hcapS hroom hn (HD.out.below HB10.out)).mono ?_
  rintro e w11 ⟨rfl, hb⟩
  have HB11 := Lib.hid (HB10.out.trans (hb.mono HB10.out.size))
  have HP11 := Lib.hid (HP10.out.below hb)
  have HQ11 := Lib.hid (HQ10.out.below hb)
  have HS11 := Lib.hid (HS10.out.below hb)
  have HR11 := Lib.hid (HR10.out.below hb)
  clear hb HU10 HW10 HZ10
  go_wp2_with fail
  refine (knownSup_any _).mono ?_
  rintro e wz ⟨rfl, hb⟩
  have HBz := Lib.hid (HB11.out.trans (hb.mono HB11.out.size))
  clear hb
  go_wp2_with fail
  go_ret
  exact ⟨rfl, HBz.out⟩
end Go.Proofs.YtbjbpgbpefkbhaaDoor
