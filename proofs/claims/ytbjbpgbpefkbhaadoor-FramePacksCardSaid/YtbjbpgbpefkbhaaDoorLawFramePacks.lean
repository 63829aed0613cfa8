/- ledgerlaw5.FramePacks: the walk. -/
import Derived.Test.YtbjbpgbpefkbhaaDoorRefPack
import Derived.Test.YtbjbpgbpefkbhaaDoorPlace
import Derived.Deep.QuietTactic
import Derived.BigQuiet
namespace Go.Proofs.YtbjbpgbpefkbhaaDoor
open Go.RowKit
theorem drop_marks (xs : List Nat) {n : Nat} (h : xs.length = n) : (xs ++ marks).drop n = marks := by
  rw [← h, List.drop_left]
theorem packN_len (kind page : Int) (ys : List Nat) : (packN kind page ys).1.length ≤ 256 := by
  by_cases hk : KindOk kind
  · by_cases hp : PlaceOk page
    · rcases Nat.lt_or_ge 246 ys.length with hl | hl
      · rw [packN_load hk hp hl]; simp
      · rw [packN_ok hk hp hl]; rw [pageN_length hl]; exact Nat.le_refl _
    · rw [packN_place hk hp]; simp
  · rw [packN_kind hk]; simp
set_option maxHeartbeats 1000000 in
theorem packed_true (kind page : Int) (AM AL AR : Option Addr) (n cM cL cR : Nat) (ys : List Nat) (w : World) (hm : RB w AM n ys) (hl : RB w AL n ys) (hr : RB w AR (n + 600) (ys ++ marks)) (hc : n + 600 ≤ cR) (hn : n + 600 ≤ 140737488355328) (hd : DivT w) :
    Calls Tryd.prog 15 #[.int .i64 kind, .int .i64 page, .slice AM n cM, .slice AL n cL, .slice AR (n + 600) cR] w fun e w' => e = .returned (.bool true) ∧ Below w.heap.size w w' := by
  have HM := Lib.hid hm
  have HL := Lib.hid hl
  have HR := Lib.hid hr
  have HD := Lib.hid hd
  clear hm hl hr hd
  go_enter Tryd.func15, Tryd.ntmps15
  go_wp2_with fail
  refine (pack_any kind page AM n cM ys w HM.out (by omega)).mono ?_
  rintro e w1 ⟨⟨v1, rfl, hown1⟩, hb1⟩
  have HB1 := Lib.hid hb1
  have HO1 := Lib.hid hown1
  obtain ⟨A1, c1, rfl, _⟩ := hown1.form
  clear hown1 hb1
  go_wp2_with fail
  refine (refPack_any kind page AL n cL ys w1 (HL.out.below HB1.out) (by omega) (HD.out.below HB1.out)).mono ?_
  rintro e w2 ⟨⟨v2, rfl, hown2⟩, hb2⟩
  have HB2 := Lib.hid (HB1.out.trans (hb2.mono HB1.out.size))
  have HS1 := Lib.hid (HO1.out.below hb2).reads
  obtain ⟨A2, c2, rfl, hr2, _⟩ := hown2.form
  have HS2 := Lib.hid hr2
  have HLL := Lib.hid (packN_len kind page ys)
  have HL2 := Lib.hid (HL.out.below HB2.out)
  have HR2 := Lib.hid (HR.out.below HB2.out)
  clear hown2 hb2 hr2 HO1 HM HL HR HD
  generalize (packN kind page ys).1 = pg at *
  generalize (packN kind page ys).2 = er at *
  go_wp2_with fail
  refine (same_true HS1.out HS2.out (by have := HLL.out; omega) rfl).mono ?_
  rintro e w3 ⟨rfl, q, hw3⟩
  have HB3 : Hid (Below w.heap.size w w3) := by rw [hw3]; exact drewN_below HB2.out q
  have HL3 : Hid (RB w3 AL n ys) := by rw [hw3]; exact HL2.out.below (drewN_below (Below.refl _ _) q)
  have HR3 : Hid (RB w3 AR (n + 600) (ys ++ marks)) := by rw [hw3]; exact HR2.out.below (drewN_below (Below.refl _ _) q)
  clear hw3 HB2 HL2 HR2
  go_wp2_with fail
  refine (left_true AL AR n cL cR ys w3 HL3.out HR3.out hc hn).mono ?_
  rintro e w4 ⟨rfl, q, hw4⟩
  have HB4 : Hid (Below w.heap.size w w4) := by rw [hw4]; exact drewN_below HB3.out q
  clear hw4
  go_wp2_with fail
  go_ret
  exact ⟨rfl, HB4.out⟩
set_option maxHeartbeats 4000000 in
theorem framePacks_walk (kind page : Int) (A : Option Addr) (n c : Nat) (xs : List Nat) (w0 : World) (hx : RB w0 A n xs) (hn : n ≤ 140737488351232) (hd : DivT w0) :
    Calls Tryd.prog 4 #[.int .i64 kind, .int .i64 page, .slice A n c] w0 fun e w' => e = .returned (.bool true) ∧ Below w0.heap.size w0 w' := by
  have HX := Lib.hid hx
  have HXL := Lib.hid hx.1
  have HD := Lib.hid hd
  have HB0 := Lib.hid (Below.refl w0.heap.size w0)
  clear hx hd
  go_enter Tryd.func4, Tryd.ntmps4
  go_wp2_with fail
  refine (copied_any A n c xs w0 HX.out (by omega)).mono ?_
  rintro e w1 ⟨vP, rfl, hown, hb⟩
  have HB1 := Lib.hid (HB0.out.trans (hb.mono HB0.out.size))
  have HP1 := Lib.hid hown
  obtain ⟨AP, cP, rfl, _, _, _, _⟩ := hown.form
  rw [HXL.out] at HP1 ⊢
  clear hown hb
  go_wp2_with fail
  refine (other_any AP n cP (n / 2) xs w1 (HXL.out ▸ HP1.out.reads) (by omega) (by omega)).mono ?_
  rintro e w2 ⟨vQ, rfl, hown, hb⟩
  have HB2 := Lib.hid (HB1.out.trans (hb.mono HB1.out.size))
  have HP2 := Lib.hid (HP1.out.below hb)
  have HLNQ : Hid ((othN xs (n / 2)).length = n) := by
    show (othN xs (n / 2)).length = n
    rw [othN_length, HXL.out]
  have HQ2 := Lib.hid hown
  obtain ⟨AQ, cQ, rfl, _, _, _, _⟩ := hown.form
  rw [othN_length, HXL.out] at HQ2 ⊢
  clear hown hb
  go_wp2_with fail
  have HLP := Lib.hid (lt_of_own HP2.out (Nat.le_refl _))
  have HLQ := Lib.hid (lt_of_own HQ2.out (Nat.le_refl _))
  refine (roomy_any AP n cP xs w2 (HXL.out ▸ HP2.out.reads) (by omega)).mono ?_
  rintro e w3 ⟨⟨AR, cR, rfl, hown⟩, hb⟩
  have HB3 := Lib.hid (HB2.out.trans (hb.mono HB2.out.size))
  have HP3 := Lib.hid (HP2.out.below hb)
  have HQ3 := Lib.hid (HQ2.out.below hb)
  have HR3 := Lib.hid hown
  have hroom : n + 600 ≤ cR := by
    have := hown.room
    rwa [List.length_append, marks_length, HXL.out] at this
  have HAQP : Hid (∀ ad bd, AR = some ad → AP = some bd → ad.block ≠ bd.block) := fun ad bd e2 e1 e => by
    subst e1 e2
    have a := HLP.out bd.block rfl
    have b := hown.ge ad.block rfl
    omega
  have HVP : Hid (∀ (n1 n2 : Nat), (Value.slice AP n1 cP).ownBlock = none ∨ (Value.slice AP n1 cP).ownBlock ≠ (Value.slice AR n2 cR).ownBlock) := fun n1 n2 => by
    rcases AP with _ | a1
    · exact .inl rfl
    · refine .inr fun e => ?_
      rcases AR with _ | a3
      · cases e
      · exact HAQP.out a3 a1 rfl rfl (by injection e with e; exact e.symm)
  have HAQQ : Hid (∀ ad bd, AR = some ad → AQ = some bd → ad.block ≠ bd.block) := fun ad bd e2 e1 e => by
    subst e1 e2
    have a := HLQ.out bd.block rfl
    have b := hown.ge ad.block rfl
    omega
  have HVQ : Hid (∀ (n1 n2 : Nat), (Value.slice AQ n1 cQ).ownBlock = none ∨ (Value.slice AQ n1 cQ).ownBlock ≠ (Value.slice AR n2 cR).ownBlock) := fun n1 n2 => by
    rcases AQ with _ | a1
    · exact .inl rfl
    · refine .inr fun e => ?_
      rcases AR with _ | a3
      · cases e
      · exact HAQQ.out a3 a1 rfl rfl (by injection e with e; exact e.symm)
  have HG : Hid (∀ k, (Value.slice AR (n + 600) cR).ownBlock = some k → w0.heap.size ≤ k) := fun k hk => Nat.le_trans HB2.out.size (hown.ge k hk)
  clear hown hb HLP HLQ
  go_wp2_with fail
  have HU3 : Hid (RB w3 AR n xs) := by
    have h := HR3.out.reads.take (k := n) (by rw [List.length_append, HXL.out]; omega)
    rwa [List.take_append_of_le_length (by rw [HXL.out]; exact Nat.le_refl _), List.take_of_length_le (by rw [HXL.out]; exact Nat.le_refl _)] at h
  have HW3 : Hid (RB w3 AR (n + 600) (xs ++ marks)) := by
    have h := HR3.out.reads
    rwa [show (xs ++ marks).length = n + 600 by rw [List.length_append, marks_length, HXL.out]] at h
  have HZ3 : Hid (RB w3 AP n xs) := by
    have h := HP3.out.reads
    rwa [show (xs).length = n from HXL.out] at h
  refine (packed_true kind page AR AP AR n cR cP cR xs w3 HU3.out HZ3.out HW3.out hroom (by omega) (HD.out.below HB3.out)).mono ?_
  rintro e w4 ⟨rfl, hb⟩
  have HB4 := Lib.hid (HB3.out.trans (hb.mono HB3.out.size))
  have HP4 := Lib.hid (HP3.out.below hb)
  have HQ4 := Lib.hid (HQ3.out.below hb)
  have HR4 := Lib.hid (HR3.out.below hb)
  clear hb HU3 HW3 HZ3
  go_wp2_with fail
  have HZ4 : Hid (RB w4 AQ n (othN xs (n / 2))) := by
    have h := HQ4.out.reads
    rwa [show ((othN xs (n / 2))).length = n from HLNQ.out] at h
  refine (place_over _ AR AQ n cR (n + 600) cQ (xs ++ marks) (othN xs (n / 2)) w4 HR4.out (by rw [List.length_append, marks_length, HXL.out]) (by omega) HZ4.out HAQQ.out (by omega)).mono ?_
  rintro e w5 ⟨rfl, hown, hg⟩
  have HB5 := Lib.hid (HB4.out.grown hg HB4.out.size HG.out)
  have HP5 := Lib.hid (HP4.out.kept hg (HVP.out _ _))
  have HQ5 := Lib.hid (HQ4.out.kept hg (HVQ.out _ _))
  rw [drop_marks _ HXL.out] at hown
  have HR5 := Lib.hid hown
  clear hown hg HZ4
  go_wp2_with fail
  have HU5 : Hid (RB w5 AR n (othN xs (n / 2))) := by
    have h := HR5.out.reads.take (k := n) (by rw [List.length_append, HLNQ.out]; omega)
    rwa [List.take_append_of_le_length (by rw [HLNQ.out]; exact Nat.le_refl _), List.take_of_length_le (by rw [HLNQ.out]; exact Nat.le_refl _)] at h
  have HW5 : Hid (RB w5 AR (n + 600) ((othN xs (n / 2)) ++ marks)) := by
    have h := HR5.out.reads
    rwa [show ((othN xs (n / 2)) ++ marks).length = n + 600 by rw [List.length_append, marks_length, HLNQ.out]] at h
  have HZ5 : Hid (RB w5 AQ n (othN xs (n / 2))) := by
    have h := HQ5.out.reads
    rwa [show ((othN xs (n / 2))).length = n from HLNQ.out] at h
  refine (packed_true kind page AR AQ AR n cR cQ cR (othN xs (n / 2)) w5 HU5.out HZ5.out HW5.out hroom (by omega) (HD.out.below HB5.out)).mono ?_
  rintro e w6 ⟨rfl, hb⟩
  have HB6 := Lib.hid (HB5.out.trans (hb.mono HB5.out.size))
  have HP6 := Lib.hid (HP5.out.below hb)
  have HQ6 := Lib.hid (HQ5.out.below hb)
  have HR6 := Lib.hid (HR5.out.below hb)
  clear hb HU5 HW5 HZ5
  go_wp2_with fail
  have HZ6 : Hid (RB w6 AP n xs) := by
    have h := HP6.out.reads
    rwa [show (xs).length = n from HXL.out] at h
  refine (place_over _ AR AP n cR (n + 600) cP ((othN xs (n / 2)) ++ marks) xs w6 HR6.out (by rw [List.length_append, marks_length, HLNQ.out]) (by omega) HZ6.out HAQP.out (by omega)).mono ?_
  rintro e w7 ⟨rfl, hown, hg⟩
  have HB7 := Lib.hid (HB6.out.grown hg HB6.out.size HG.out)
  have HP7 := Lib.hid (HP6.out.kept hg (HVP.out _ _))
  have HQ7 := Lib.hid (HQ6.out.kept hg (HVQ.out _ _))
  rw [drop_marks _ HLNQ.out] at hown
  have HR7 := Lib.hid hown
  clear hown hg HZ6
  go_wp2_with fail
  have HU7 : Hid (RB w7 AR n xs) := by
    have h := HR7.out.reads.take (k := n) (by rw [List.length_append, HXL.out]; omega)
    rwa [List.take_append_of_le_length (by rw [HXL.out]; exact Nat.le_refl _), List.take_of_length_le (by rw [HXL.out]; exact Nat.le_refl _)] at h
  have HW7 : Hid (RB w7 AR (n + 600) (xs ++ marks)) := by
    have h := HR7.out.reads
    rwa [show (xs ++ marks).length = n + 600 by rw [List.length_append, marks_length, HXL.out]] at h
  have HZ7 : Hid (RB w7 AP n xs) := by
    have h := HP7.out.reads
    rwa [show (xs).length = n from HXL.out] at h
  refine (packed_true kind page AR AP AR n cR cP cR xs w7 HU7.out HZ7.out HW7.out hroom (by omega) (HD.out.below HB7.out)).mono ?_
  rintro e w8 ⟨rfl, hb⟩
  have HB8 := Lib.hid (HB7.out.trans (hb.mono HB7.out.size))
  have HP8 := Lib.hid (HP7.out.below hb)
  have HQ8 := Lib.hid (HQ7.out.below hb)
  have HR8 := Lib.hid (HR7.out.below hb)
  clear hb HU7 HW7 HZ7
  go_wp2_with fail
  go_ret
  exact ⟨rfl, HB8.out⟩
end Go.Proofs.YtbjbpgbpefkbhaaDoor
