/- ledgerlaw5.FrameChooses: the walk. -/
import Derived.Test.YtbjbpgbpefkbhaaDoorRefChoice
import Derived.Test.YtbjbpgbpefkbhaaDoorKnownSup
import Derived.Test.YtbjbpgbpefkbhaaDoorPlace
import Derived.BigQuiet
namespace Go.Proofs.YtbjbpgbpefkbhaaDoor
open Go.RowKit
theorem drop_marks (xs : List Nat) {n : Nat} (h : xs.length = n) : (xs ++ marks).drop n = marks := by
  rw [← h, List.drop_left]
set_option maxHeartbeats 1000000 in
theorem chosen_true (AP AQ AX AY : Option Addr) (n m cP cQ cX cY : Nat) (xs ys : List Nat) (w : World) (hp : RB w AP n xs) (hq : RB w AQ m ys) (hx : RB w AX n xs) (hy : RB w AY m ys) (hpp : RB w AP (n + 600) (xs ++ marks)) (hqq : RB w AQ (m + 600) (ys ++ marks)) (hcX : n ≤ cX) (hcY : m ≤ cY) (hcP : n + 600 ≤ cP) (hcQ : m + 600 ≤ cQ) (hn : n ≤ 140737488351232) (hm : m ≤ 140737488351232) (hd : DivT w) :
    Calls Tryd.prog 21 #[.slice AP n cP, .slice AQ m cQ, .slice AX n cX, .slice AY m cY, .slice AP (n + 600) cP, .slice AQ (m + 600) cQ] w fun e w' => e = .returned (.bool true) ∧ Below w.heap.size w w' := by
  have HX := Lib.hid hx
  have HY := Lib.hid hy
  have HPP := Lib.hid hpp
  have HQQ := Lib.hid hqq
  have HD := Lib.hid hd
  obtain ⟨a, b, c, d, p, er, hU⟩ : ∃ a b c d p, ∃ er : Nat, chooseN xs ys = (⟨a, b, c, d, p⟩, er) := ⟨_, _, _, _, _, _, rfl⟩
  have HU : Hid (Calls Tryd.prog 38 #[.slice AP n cP, .slice AQ m cQ] w fun e w' => e = .returned (.tuple #[.agg #[.int .i64 a, .int .i64 b, .int .i64 c, .int .i64 d, .int .i64 p], .int .i64 er]) ∧ Below w.heap.size w w') := by
    have h := choose_any AP AQ n cP m cQ xs ys w hp hq (by omega) (by omega)
    unfold Chosen at h
    rw [hU] at h
    exact h
  have HUR : Hid (∀ w, RB w AX n xs → RB w AY m ys → DivT w → Calls Tryd.prog 39 #[.slice AX n cX, .slice AY m cY] w fun e w' => e = .returned (.tuple #[.agg #[.int .i64 a, .int .i64 b, .int .i64 c, .int .i64 d, .int .i64 p], .int .i64 er]) ∧ Below w.heap.size w w') := fun w hx hy hd => by
    have h := refChoose_any AX AY n cX m cY xs ys w hx hy hcX hcY hn hm hd
    unfold Chosen at h
    rw [hU] at h
    exact h
  clear hU
  clear hp hq hx hy hpp hqq hd
  go_enter Tryd.func21, Tryd.ntmps21
  go_wp2_with fail
  refine HU.out.mono ?_
  rintro e w1 ⟨rfl, hb1⟩
  have HSA := Lib.hid (BlkIs.new w1 23 (supA a b c d p))
  have HB1' := Lib.hid (hb1.alloc hb1.size (.cells (supA a b c d p) 23))
  unfold supA at HSA HB1'
  clear hb1
  go_wp2_with fail
  refine (HUR.out _ (HX.out.below HB1'.out) (HY.out.below HB1'.out) (HD.out.below HB1'.out)).mono ?_
  rintro e w2 ⟨rfl, hb2⟩
  have HB2 := Lib.hid (HB1'.out.trans (hb2.mono HB1'.out.size))
  have HSA2 := Lib.hid (BlkIs.below HSA.out hb2)
  have HB2' := Lib.hid (HB2.out.alloc HB2.out.size (.cells (supA a b c d p) 23))
  have hs2 := sup_at (BlkIs.alloc HSA2.out (.cells (supA a b c d p) 23))
  unfold supA at HB2' hs2
  have HX2 := Lib.hid (HX.out.below HB2'.out)
  have HY2 := Lib.hid (HY.out.below HB2'.out)
  have HP2 := Lib.hid (HPP.out.below HB2'.out)
  have HQ2 := Lib.hid (HQQ.out.below HB2'.out)
  clear hb2 HX HY HPP HQQ HD HU HUR
  go_wp2_with fail
  refine (left_true AX AP n cX cP xs _ HX2.out HP2.out hcP (by omega)).mono ?_
  rintro e w4 ⟨rfl, q, hw4⟩
  have HB4 : Hid (Below w.heap.size w w4) := by rw [hw4]; exact drewN_below HB2'.out q
  have HY4 : Hid (RB w4 AY m ys) := by rw [hw4]; exact HY2.out.below (drewN_below (Below.refl _ _) q)
  have HQ4 : Hid (RB w4 AQ (m + 600) (ys ++ marks)) := by rw [hw4]; exact HQ2.out.below (drewN_below (Below.refl _ _) q)
  clear hw4 HX2 HY2 HP2 HQ2
  go_wp2_with fail
  refine (left_true AY AQ m cY cQ ys _ HY4.out HQ4.out hcQ (by omega)).mono ?_
  rintro e w5 ⟨rfl, q, hw5⟩
  have HB5 : Hid (Below w.heap.size w w5) := by rw [hw5]; exact drewN_below HB4.out q
  clear hw5
  go_wp2_with fail
  go_ret
  exact ⟨rfl, HB5.out⟩
set_option maxHeartbeats 8000000 in
theorem frameChooses_walk (A B : Option Addr) (n c m d : Nat) (xs ys : List Nat) (w0 : World) (hx : RB w0 A n xs) (hy : RB w0 B m ys) (hn : n ≤ 140737488351232) (hm : m ≤ 140737488351232) (hd : DivT w0) :
    Calls Tryd.prog 7 #[.slice A n c, .slice B m d] w0 fun e w' => e = .returned (.bool true) ∧ Below w0.heap.size w0 w' := by
  have HX := Lib.hid hx
  have HY := Lib.hid hy
  have HXL := Lib.hid hx.1
  have HYL := Lib.hid hy.1
  have HD := Lib.hid hd
  have HB0 := Lib.hid (Below.refl w0.heap.size w0)
  clear hx hy hd
  go_enter Tryd.func7, Tryd.ntmps7
  go_wp2_with fail
  refine (copied_any A n c xs w0 HX.out (by omega)).mono ?_
  rintro e w1 ⟨vX, rfl, hown, hb⟩
  have HB1 := Lib.hid (HB0.out.trans (hb.mono HB0.out.size))
  have HX1 := Lib.hid hown
  obtain ⟨AX, cX, rfl, _, _, _, hcapX⟩ := hown.form
  rw [HXL.out] at HX1 hcapX ⊢
  clear hown hb
  go_wp2_with fail
  refine (copied_any B m d ys w1 (HY.out.below HB1.out) (by omega)).mono ?_
  rintro e w2 ⟨vY, rfl, hown, hb⟩
  have HB2 := Lib.hid (HB1.out.trans (hb.mono HB1.out.size))
  have HX2 := Lib.hid (HX1.out.below hb)
  have HY2 := Lib.hid hown
  obtain ⟨AY, cY, rfl, _, _, _, hcapY⟩ := hown.form
  rw [HYL.out] at HY2 hcapY ⊢
  have HQXY : Hid (∀ ad bd, AX = some ad → AY = some bd → ad.block ≠ bd.block) := fun ad bd e1 e2 e => by
    subst e1 e2
    have a := (HX1.out.lt ad.block rfl).2
    have b := hown.ge bd.block rfl
    omega
  clear HQXY
  clear hown hb
  go_wp2_with fail
  refine (roomy_any AX n cX xs w2 (HXL.out ▸ HX2.out.reads) (by omega)).mono ?_
  rintro e w3 ⟨⟨AP, cP, rfl, hown⟩, hb⟩
  have HB3 := Lib.hid (HB2.out.trans (hb.mono HB2.out.size))
  have HX3 := Lib.hid (HX2.out.below hb)
  have HY3 := Lib.hid (HY2.out.below hb)
  have HP3 := Lib.hid hown
  have hroomP : n + 600 ≤ cP := by
    have := hown.room
    rwa [List.length_append, marks_length, HXL.out] at this
  have HGP : Hid (∀ k, (Value.slice AP (n + 600) cP).ownBlock = some k → w0.heap.size ≤ k) := fun k hk => Nat.le_trans HB2.out.size (hown.ge k hk)
  have HQXP : Hid (∀ ad bd, AX = some ad → AP = some bd → ad.block ≠ bd.block) := fun ad bd e1 e2 e => by
    subst e1 e2
    have a := (HX2.out.lt ad.block rfl).2
    have b := hown.ge bd.block rfl
    omega
  have HQYP : Hid (∀ ad bd, AY = some ad → AP = some bd → ad.block ≠ bd.block) := fun ad bd e1 e2 e => by
    subst e1 e2
    have a := (HY2.out.lt ad.block rfl).2
    have b := hown.ge bd.block rfl
    omega
  have HAPX : Hid (∀ ad bd, AP = some ad → AX = some bd → ad.block ≠ bd.block) := fun ad bd e1 e2 => fun e => HQXP.out bd ad e2 e1 e.symm
  have HVPX : Hid (∀ (n1 n2 : Nat), (Value.slice AX n1 cX).ownBlock = none ∨ (Value.slice AX n1 cX).ownBlock ≠ (Value.slice AP n2 cP).ownBlock) := fun n1 n2 => by
    rcases AX with _ | a1
    · exact .inl rfl
    · refine .inr fun e => ?_
      rcases AP with _ | a3
      · cases e
      · exact HAPX.out a3 a1 rfl rfl (by injection e with e; exact e.symm)
  clear HQXP
  have HAPY : Hid (∀ ad bd, AP = some ad → AY = some bd → ad.block ≠ bd.block) := fun ad bd e1 e2 => fun e => HQYP.out bd ad e2 e1 e.symm
  have HVPY : Hid (∀ (n1 n2 : Nat), (Value.slice AY n1 cY).ownBlock = none ∨ (Value.slice AY n1 cY).ownBlock ≠ (Value.slice AP n2 cP).ownBlock) := fun n1 n2 => by
    rcases AY with _ | a1
    · exact .inl rfl
    · refine .inr fun e => ?_
      rcases AP with _ | a3
      · cases e
      · exact HAPY.out a3 a1 rfl rfl (by injection e with e; exact e.symm)
  clear HQYP
  clear hown hb
  go_wp2_with fail
  refine (roomy_any AY m cY ys w3 (HYL.out ▸ HY3.out.reads) (by omega)).mono ?_
  rintro e w4 ⟨⟨AQ, cQ, rfl, hown⟩, hb⟩
  have HB4 := Lib.hid (HB3.out.trans (hb.mono HB3.out.size))
  have HX4 := Lib.hid (HX3.out.below hb)
  have HY4 := Lib.hid (HY3.out.below hb)
  have HP4 := Lib.hid (HP3.out.below hb)
  have HQ4 := Lib.hid hown
  have hroomQ : m + 600 ≤ cQ := by
    have := hown.room
    rwa [List.length_append, marks_length, HYL.out] at this
  have HGQ : Hid (∀ k, (Value.slice AQ (m + 600) cQ).ownBlock = some k → w0.heap.size ≤ k) := fun k hk => Nat.le_trans HB3.out.size (hown.ge k hk)
  have HQXQ : Hid (∀ ad bd, AX = some ad → AQ = some bd → ad.block ≠ bd.block) := fun ad bd e1 e2 e => by
    subst e1 e2
    have a := (HX3.out.lt ad.block rfl).2
    have b := hown.ge bd.block rfl
    omega
  have HQYQ : Hid (∀ ad bd, AY = some ad → AQ = some bd → ad.block ≠ bd.block) := fun ad bd e1 e2 e => by
    subst e1 e2
    have a := (HY3.out.lt ad.block rfl).2
    have b := hown.ge bd.block rfl
    omega
  have HQPQ : Hid (∀ ad bd, AP = some ad → AQ = some bd → ad.block ≠ bd.block) := fun ad bd e1 e2 e => by
    subst e1 e2
    have a := (HP3.out.lt ad.block rfl).2
    have b := hown.ge bd.block rfl
    omega
  have HAQX : Hid (∀ ad bd, AQ = some ad → AX = some bd → ad.block ≠ bd.block) := fun ad bd e1 e2 => fun e => HQXQ.out bd ad e2 e1 e.symm
  have HVQX : Hid (∀ (n1 n2 : Nat), (Value.slice AX n1 cX).ownBlock = none ∨ (Value.slice AX n1 cX).ownBlock ≠ (Value.slice AQ n2 cQ).ownBlock) := fun n1 n2 => by
    rcases AX with _ | a1
    · exact .inl rfl
    · refine .inr fun e => ?_
      rcases AQ with _ | a3
      · cases e
      · exact HAQX.out a3 a1 rfl rfl (by injection e with e; exact e.symm)
  clear HQXQ
  have HAQY : Hid (∀ ad bd, AQ = some ad → AY = some bd → ad.block ≠ bd.block) := fun ad bd e1 e2 => fun e => HQYQ.out bd ad e2 e1 e.symm
  have HVQY : Hid (∀ (n1 n2 : Nat), (Value.slice AY n1 cY).ownBlock = none ∨ (Value.slice AY n1 cY).ownBlock ≠ (Value.slice AQ n2 cQ).ownBlock) := fun n1 n2 => by
    rcases AY with _ | a1
    · exact .inl rfl
    · refine .inr fun e => ?_
      rcases AQ with _ | a3
      · cases e
      · exact HAQY.out a3 a1 rfl rfl (by injection e with e; exact e.symm)
  clear HQYQ
  have HAPQ : Hid (∀ ad bd, AP = some ad → AQ = some bd → ad.block ≠ bd.block) := fun ad bd e1 e2 => HQPQ.out ad bd e1 e2
  have HVPQ : Hid (∀ (n1 n2 : Nat), (Value.slice AQ n1 cQ).ownBlock = none ∨ (Value.slice AQ n1 cQ).ownBlock ≠ (Value.slice AP n2 cP).ownBlock) := fun n1 n2 => by
    rcases AQ with _ | a1
    · exact .inl rfl
    · refine .inr fun e => ?_
      rcases AP with _ | a3
      · cases e
      · exact HAPQ.out a3 a1 rfl rfl (by injection e with e; exact e.symm)
  have HAQP : Hid (∀ ad bd, AQ = some ad → AP = some bd → ad.block ≠ bd.block) := fun ad bd e1 e2 => fun e => HQPQ.out bd ad e2 e1 e.symm
  have HVQP : Hid (∀ (n1 n2 : Nat), (Value.slice AP n1 cP).ownBlock = none ∨ (Value.slice AP n1 cP).ownBlock ≠ (Value.slice AQ n2 cQ).ownBlock) := fun n1 n2 => by
    rcases AP with _ | a1
    · exact .inl rfl
    · refine .inr fun e => ?_
      rcases AQ with _ | a3
      · cases e
      · exact HAQP.out a3 a1 rfl rfl (by injection e with e; exact e.symm)
  clear HQPQ
  clear hown hb
  go_wp2_with fail
  have HUP : Hid (RB w4 AP n xs) := by
    have h := HP4.out.reads.take (k := n) (by rw [List.length_append, HXL.out]; omega)
    rwa [List.take_append_of_le_length (by rw [HXL.out]; exact Nat.le_refl _), List.take_of_length_le (by rw [HXL.out]; exact Nat.le_refl _)] at h
  have HWP : Hid (RB w4 AP (n + 600) (xs ++ marks)) := by
    have h := HP4.out.reads
    rwa [show (xs ++ marks).length = n + 600 by rw [List.length_append, marks_length, HXL.out]] at h
  have HZP : Hid (RB w4 AX n xs) := by
    have h := HX4.out.reads
    rwa [show (xs).length = n from HXL.out] at h
  have HUQ : Hid (RB w4 AQ m ys) := by
    have h := HQ4.out.reads.take (k := m) (by rw [List.length_append, HYL.out]; omega)
    rwa [List.take_append_of_le_length (by rw [HYL.out]; exact Nat.le_refl _), List.take_of_length_le (by rw [HYL.out]; exact Nat.le_refl _)] at h
  have HWQ : Hid (RB w4 AQ (m + 600) (ys ++ marks)) := by
    have h := HQ4.out.reads
    rwa [show (ys ++ marks).length = m + 600 by rw [List.length_append, marks_length, HYL.out]] at h
  have HZQ : Hid (RB w4 AY m ys) := by
    have h := HY4.out.reads
    rwa [show (ys).length = m from HYL.out] at h
  refine (chosen_true AP AQ AX AY n m cP cQ cX cY xs ys w4 HUP.out HUQ.out HZP.out HZQ.out HWP.out HWQ.out hcapX hcapY hroomP hroomQ hn hm (HD.out.below HB4.out)).mono ?_
  rintro e w5 ⟨rfl, hb⟩
  have HB5 := Lib.hid (HB4.out.trans (hb.mono HB4.out.size))
  have HX5 := Lib.hid (HX4.out.below hb)
  have HY5 := Lib.hid (HY4.out.below hb)
  have HP5 := Lib.hid (HP4.out.below hb)
  have HQ5 := Lib.hid (HQ4.out.below hb)
  clear hb HUP HWP HZP HUQ HWQ HZQ
  go_wp2_with fail
  refine (other_any AX n cX 18 xs w5 (HXL.out ▸ HX5.out.reads) (by omega) (by omega)).mono ?_
  rintro e w6 ⟨vV, rfl, hown, hb⟩
  have HB6 := Lib.hid (HB5.out.trans (hb.mono HB5.out.size))
  have HX6 := Lib.hid (HX5.out.below hb)
  have HY6 := Lib.hid (HY5.out.below hb)
  have HP6 := Lib.hid (HP5.out.below hb)
  have HQ6 := Lib.hid (HQ5.out.below hb)
  have HLNV : Hid ((othN xs 18).length = n) := by
    show (othN xs 18).length = n
    rw [othN_length, HXL.out]
  have HV6 := Lib.hid hown
  obtain ⟨AV, cV, rfl, _, _, _, hcapV⟩ := hown.form
  rw [othN_length, HXL.out] at HV6 hcapV ⊢
  have HQXV : Hid (∀ ad bd, AX = some ad → AV = some bd → ad.block ≠ bd.block) := fun ad bd e1 e2 e => by
    subst e1 e2
    have a := (HX5.out.lt ad.block rfl).2
    have b := hown.ge bd.block rfl
    omega
  have HQYV : Hid (∀ ad bd, AY = some ad → AV = some bd → ad.block ≠ bd.block) := fun ad bd e1 e2 e => by
    subst e1 e2
    have a := (HY5.out.lt ad.block rfl).2
    have b := hown.ge bd.block rfl
    omega
  have HQPV : Hid (∀ ad bd, AP = some ad → AV = some bd → ad.block ≠ bd.block) := fun ad bd e1 e2 e => by
    subst e1 e2
    have a := (HP5.out.lt ad.block rfl).2
    have b := hown.ge bd.block rfl
    omega
  have HQQV : Hid (∀ ad bd, AQ = some ad → AV = some bd → ad.block ≠ bd.block) := fun ad bd e1 e2 e => by
    subst e1 e2
    have a := (HQ5.out.lt ad.block rfl).2
    have b := hown.ge bd.block rfl
    omega
  clear HQXV
  clear HQYV
  have HAPV : Hid (∀ ad bd, AP = some ad → AV = some bd → ad.block ≠ bd.block) := fun ad bd e1 e2 => HQPV.out ad bd e1 e2
  have HVPV : Hid (∀ (n1 n2 : Nat), (Value.slice AV n1 cV).ownBlock = none ∨ (Value.slice AV n1 cV).ownBlock ≠ (Value.slice AP n2 cP).ownBlock) := fun n1 n2 => by
    rcases AV with _ | a1
    · exact .inl rfl
    · refine .inr fun e => ?_
      rcases AP with _ | a3
      · cases e
      · exact HAPV.out a3 a1 rfl rfl (by injection e with e; exact e.symm)
  clear HQPV
  have HAQV : Hid (∀ ad bd, AQ = some ad → AV = some bd → ad.block ≠ bd.block) := fun ad bd e1 e2 => HQQV.out ad bd e1 e2
  have HVQV : Hid (∀ (n1 n2 : Nat), (Value.slice AV n1 cV).ownBlock = none ∨ (Value.slice AV n1 cV).ownBlock ≠ (Value.slice AQ n2 cQ).ownBlock) := fun n1 n2 => by
    rcases AV with _ | a1
    · exact .inl rfl
    · refine .inr fun e => ?_
      rcases AQ with _ | a3
      · cases e
      · exact HAQV.out a3 a1 rfl rfl (by injection e with e; exact e.symm)
  clear HQQV
  clear hown hb
  go_wp2_with fail
  have HZ : Hid (RB w6 AV n (othN xs 18)) := by
    have h := HV6.out.reads
    rwa [show ((othN xs 18)).length = n from HLNV.out] at h
  refine (place_over _ AP AV n cP (n + 600) cV (xs ++ marks) (othN xs 18) w6 HP6.out (by rw [List.length_append, marks_length, HXL.out]) (by omega) HZ.out HAPV.out (by omega)).mono ?_
  rintro e w7 ⟨rfl, hown, hg⟩
  have HB7 := Lib.hid (HB6.out.grown hg HB6.out.size HGP.out)
  have HX7 := Lib.hid (HX6.out.kept hg (HVPX.out _ _))
  have HY7 := Lib.hid (HY6.out.kept hg (HVPY.out _ _))
  have HQ7 := Lib.hid (HQ6.out.kept hg (HVPQ.out _ _))
  have HV7 := Lib.hid (HV6.out.kept hg (HVPV.out _ _))
  rw [drop_marks _ HXL.out] at hown
  have HP7 := Lib.hid hown
  clear hown hg HZ
  go_wp2_with fail
  have HUP : Hid (RB w7 AP n (othN xs 18)) := by
    have h := HP7.out.reads.take (k := n) (by rw [List.length_append, HLNV.out]; omega)
    rwa [List.take_append_of_le_length (by rw [HLNV.out]; exact Nat.le_refl _), List.take_of_length_le (by rw [HLNV.out]; exact Nat.le_refl _)] at h
  have HWP : Hid (RB w7 AP (n + 600) ((othN xs 18) ++ marks)) := by
    have h := HP7.out.reads
    rwa [show ((othN xs 18) ++ marks).length = n + 600 by rw [List.length_append, marks_length, HLNV.out]] at h
  have HZP : Hid (RB w7 AV n (othN xs 18)) := by
    have h := HV7.out.reads
    rwa [show ((othN xs 18)).length = n from HLNV.out] at h
  have HUQ : Hid (RB w7 AQ m ys) := by
    have h := HQ7.out.reads.take (k := m) (by rw [List.length_append, HYL.out]; omega)
    rwa [List.take_append_of_le_length (by rw [HYL.out]; exact Nat.le_refl _), List.take_of_length_le (by rw [HYL.out]; exact Nat.le_refl _)] at h
  have HWQ : Hid (RB w7 AQ (m + 600) (ys ++ marks)) := by
    have h := HQ7.out.reads
    rwa [show (ys ++ marks).length = m + 600 by rw [List.length_append, marks_length, HYL.out]] at h
  have HZQ : Hid (RB w7 AY m ys) := by
    have h := HY7.out.reads
    rwa [show (ys).length = m from HYL.out] at h
  refine (chosen_true AP AQ AV AY n m cP cQ cV cY (othN xs 18) ys w7 HUP.out HUQ.out HZP.out HZQ.out HWP.out HWQ.out hcapV hcapY hroomP hroomQ hn hm (HD.out.below HB7.out)).mono ?_
  rintro e w8 ⟨rfl, hb⟩
  have HB8 := Lib.hid (HB7.out.trans (hb.mono HB7.out.size))
  have HX8 := Lib.hid (HX7.out.below hb)
  have HY8 := Lib.hid (HY7.out.below hb)
  have HP8 := Lib.hid (HP7.out.below hb)
  have HQ8 := Lib.hid (HQ7.out.below hb)
  have HV8 := Lib.hid (HV7.out.below hb)
  clear hb HUP HWP HZP HUQ HWQ HZQ
  go_wp2_with fail
  have HZ : Hid (RB w8 AX n xs) := by
    have h := HX8.out.reads
    rwa [show (xs).length = n from HXL.out] at h
  refine (place_over _ AP AX n cP (n + 600) cX ((othN xs 18) ++ marks) xs w8 HP8.out (by rw [List.length_append, marks_length, HLNV.out]) (by omega) HZ.out HAPX.out (by omega)).mono ?_
  rintro e w9 ⟨rfl, hown, hg⟩
  have HB9 := Lib.hid (HB8.out.grown hg HB8.out.size HGP.out)
  have HX9 := Lib.hid (HX8.out.kept hg (HVPX.out _ _))
  have HY9 := Lib.hid (HY8.out.kept hg (HVPY.out _ _))
  have HQ9 := Lib.hid (HQ8.out.kept hg (HVPQ.out _ _))
  have HV9 := Lib.hid (HV8.out.kept hg (HVPV.out _ _))
  rw [drop_marks _ HLNV.out] at hown
  have HP9 := Lib.hid hown
  clear hown hg HZ
  go_wp2_with fail
  refine (other_any AY m cY 18 ys w9 (HYL.out ▸ HY9.out.reads) (by omega) (by omega)).mono ?_
  rintro e w10 ⟨vW, rfl, hown, hb⟩
  have HB10 := Lib.hid (HB9.out.trans (hb.mono HB9.out.size))
  have HX10 := Lib.hid (HX9.out.below hb)
  have HY10 := Lib.hid (HY9.out.below hb)
  have HP10 := Lib.hid (HP9.out.below hb)
  have HQ10 := Lib.hid (HQ9.out.below hb)
  have HV10 := Lib.hid (HV9.out.below hb)
  have HLNW : Hid ((othN ys 18).length = m) := by
    show (othN ys 18).length = m
    rw [othN_length, HYL.out]
  have HW10 := Lib.hid hown
  obtain ⟨AW, cW, rfl, _, _, _, hcapW⟩ := hown.form
  rw [othN_length, HYL.out] at HW10 hcapW ⊢
  have HQXW : Hid (∀ ad bd, AX = some ad → AW = some bd → ad.block ≠ bd.block) := fun ad bd e1 e2 e => by
    subst e1 e2
    have a := (HX9.out.lt ad.block rfl).2
    have b := hown.ge bd.block rfl
    omega
  have HQYW : Hid (∀ ad bd, AY = some ad → AW = some bd → ad.block ≠ bd.block) := fun ad bd e1 e2 e => by
    subst e1 e2
    have a := (HY9.out.lt ad.block rfl).2
    have b := hown.ge bd.block rfl
    omega
  have HQPW : Hid (∀ ad bd, AP = some ad → AW = some bd → ad.block ≠ bd.block) := fun ad bd e1 e2 e => by
    subst e1 e2
    have a := (HP9.out.lt ad.block rfl).2
    have b := hown.ge bd.block rfl
    omega
  have HQQW : Hid (∀ ad bd, AQ = some ad → AW = some bd → ad.block ≠ bd.block) := fun ad bd e1 e2 e => by
    subst e1 e2
    have a := (HQ9.out.lt ad.block rfl).2
    have b := hown.ge bd.block rfl
    omega
  have HQVW : Hid (∀ ad bd, AV = some ad → AW = some bd → ad.block ≠ bd.block) := fun ad bd e1 e2 e => by
    subst e1 e2
    have a := (HV9.out.lt ad.block rfl).2
    have b := hown.ge bd.block rfl
    omega
  clear HQXW
  clear HQYW
  have HAPW : Hid (∀ ad bd, AP = some ad → AW = some bd → ad.block ≠ bd.block) := fun ad bd e1 e2 => HQPW.out ad bd e1 e2
  have HVPW : Hid (∀ (n1 n2 : Nat), (Value.slice AW n1 cW).ownBlock = none ∨ (Value.slice AW n1 cW).ownBlock ≠ (Value.slice AP n2 cP).ownBlock) := fun n1 n2 => by
    rcases AW with _ | a1
    · exact .inl rfl
    · refine .inr fun e => ?_
      rcases AP with _ | a3
      · cases e
      · exact HAPW.out a3 a1 rfl rfl (by injection e with e; exact e.symm)
  clear HQPW
  have HAQW : Hid (∀ ad bd, AQ = some ad → AW = some bd → ad.block ≠ bd.block) := fun ad bd e1 e2 => HQQW.out ad bd e1 e2
  have HVQW : Hid (∀ (n1 n2 : Nat), (Value.slice AW n1 cW).ownBlock = none ∨ (Value.slice AW n1 cW).ownBlock ≠ (Value.slice AQ n2 cQ).ownBlock) := fun n1 n2 => by
    rcases AW with _ | a1
    · exact .inl rfl
    · refine .inr fun e => ?_
      rcases AQ with _ | a3
      · cases e
      · exact HAQW.out a3 a1 rfl rfl (by injection e with e; exact e.symm)
  clear HQQW
  clear HQVW
  clear hown hb
  go_wp2_with fail
  have HZ : Hid (RB w10 AW m (othN ys 18)) := by
    have h := HW10.out.reads
    rwa [show ((othN ys 18)).length = m from HLNW.out] at h
  refine (place_over _ AQ AW m cQ (m + 600) cW (ys ++ marks) (othN ys 18) w10 HQ10.out (by rw [List.length_append, marks_length, HYL.out]) (by omega) HZ.out HAQW.out (by omega)).mono ?_
  rintro e w11 ⟨rfl, hown, hg⟩
  have HB11 := Lib.hid (HB10.out.grown hg HB10.out.size HGQ.out)
  have HX11 := Lib.hid (HX10.out.kept hg (HVQX.out _ _))
  have HY11 := Lib.hid (HY10.out.kept hg (HVQY.out _ _))
  have HP11 := Lib.hid (HP10.out.kept hg (HVQP.out _ _))
  have HV11 := Lib.hid (HV10.out.kept hg (HVQV.out _ _))
  have HW11 := Lib.hid (HW10.out.kept hg (HVQW.out _ _))
  rw [drop_marks _ HYL.out] at hown
  have HQ11 := Lib.hid hown
  clear hown hg HZ
  go_wp2_with fail
  have HUP : Hid (RB w11 AP n xs) := by
    have h := HP11.out.reads.take (k := n) (by rw [List.length_append, HXL.out]; omega)
    rwa [List.take_append_of_le_length (by rw [HXL.out]; exact Nat.le_refl _), List.take_of_length_le (by rw [HXL.out]; exact Nat.le_refl _)] at h
  have HWP : Hid (RB w11 AP (n + 600) (xs ++ marks)) := by
    have h := HP11.out.reads
    rwa [show (xs ++ marks).length = n + 600 by rw [List.length_append, marks_length, HXL.out]] at h
  have HZP : Hid (RB w11 AX n xs) := by
    have h := HX11.out.reads
    rwa [show (xs).length = n from HXL.out] at h
  have HUQ : Hid (RB w11 AQ m (othN ys 18)) := by
    have h := HQ11.out.reads.take (k := m) (by rw [List.length_append, HLNW.out]; omega)
    rwa [List.take_append_of_le_length (by rw [HLNW.out]; exact Nat.le_refl _), List.take_of_length_le (by rw [HLNW.out]; exact Nat.le_refl _)] at h
  have HWQ : Hid (RB w11 AQ (m + 600) ((othN ys 18) ++ marks)) := by
    have h := HQ11.out.reads
    rwa [show ((othN ys 18) ++ marks).length = m + 600 by rw [List.length_append, marks_length, HLNW.out]] at h
  have HZQ : Hid (RB w11 AW m (othN ys 18)) := by
    have h := HW11.out.reads
    rwa [show ((othN ys 18)).length = m from HLNW.out] at h
  refine (chosen_true AP AQ AX AW n m cP cQ cX cW xs (othN ys 18) w11 HUP.out HUQ.out HZP.out HZQ.out HWP.out HWQ.out hcapX hcapW hroomP hroomQ hn hm (HD.out.below HB11.out)).mono ?_
  rintro e w12 ⟨rfl, hb⟩
  have HB12 := Lib.hid (HB11.out.trans (hb.mono HB11.out.size))
  have HX12 := Lib.hid (HX11.out.below hb)
  have HY12 := Lib.hid (HY11.out.below hb)
  have HP12 := Lib.hid (HP11.out.below hb)
  have HQ12 := Lib.hid (HQ11.out.below hb)
  have HV12 := Lib.hid (HV11.out.below hb)
  have HW12 := Lib.hid (HW11.out.below hb)
  clear hb HUP HWP HZP HUQ HWQ HZQ
  go_wp2_with fail
  have HZ : Hid (RB w12 AY m ys) := by
    have h := HY12.out.reads
    rwa [show (ys).length = m from HYL.out] at h
  refine (place_over _ AQ AY m cQ (m + 600) cY ((othN ys 18) ++ marks) ys w12 HQ12.out (by rw [List.length_append, marks_length, HLNW.out]) (by omega) HZ.out HAQY.out (by omega)).mono ?_
  rintro e w13 ⟨rfl, hown, hg⟩
  have HB13 := Lib.hid (HB12.out.grown hg HB12.out.size HGQ.out)
  have HX13 := Lib.hid (HX12.out.kept hg (HVQX.out _ _))
  have HY13 := Lib.hid (HY12.out.kept hg (HVQY.out _ _))
  have HP13 := Lib.hid (HP12.out.kept hg (HVQP.out _ _))
  have HV13 := Lib.hid (HV12.out.kept hg (HVQV.out _ _))
  have HW13 := Lib.hid (HW12.out.kept hg (HVQW.out _ _))
  rw [drop_marks _ HLNW.out] at hown
  have HQ13 := Lib.hid hown
  clear hown hg HZ
  go_wp2_with fail
  have HUP : Hid (RB w13 AP n xs) := by
    have h := HP13.out.reads.take (k := n) (by rw [List.length_append, HXL.out]; omega)
    rwa [List.take_append_of_le_length (by rw [HXL.out]; exact Nat.le_refl _), List.take_of_length_le (by rw [HXL.out]; exact Nat.le_refl _)] at h
  have HWP : Hid (RB w13 AP (n + 600) (xs ++ marks)) := by
    have h := HP13.out.reads
    rwa [show (xs ++ marks).length = n + 600 by rw [List.length_append, marks_length, HXL.out]] at h
  have HZP : Hid (RB w13 AX n xs) := by
    have h := HX13.out.reads
    rwa [show (xs).length = n from HXL.out] at h
  have HUQ : Hid (RB w13 AQ m ys) := by
    have h := HQ13.out.reads.take (k := m) (by rw [List.length_append, HYL.out]; omega)
    rwa [List.take_append_of_le_length (by rw [HYL.out]; exact Nat.le_refl _), List.take_of_length_le (by rw [HYL.out]; exact Nat.le_refl _)] at h
  have HWQ : Hid (RB w13 AQ (m + 600) (ys ++ marks)) := by
    have h := HQ13.out.reads
    rwa [show (ys ++ marks).length = m + 600 by rw [List.length_append, marks_length, HYL.out]] at h
  have HZQ : Hid (RB w13 AY m ys) := by
    have h := HY13.out.reads
    rwa [show (ys).length = m from HYL.out] at h
  refine (chosen_true AP AQ AX AY n m cP cQ cX cY xs ys w13 HUP.out HUQ.out HZP.out HZQ.out HWP.out HWQ.out hcapX hcapY hroomP hroomQ hn hm (HD.out.below HB13.out)).mono ?_
  rintro e w14 ⟨rfl, hb⟩
  have HB14 := Lib.hid (HB13.out.trans (hb.mono HB13.out.size))
  have HX14 := Lib.hid (HX13.out.below hb)
  have HY14 := Lib.hid (HY13.out.below hb)
  have HP14 := Lib.hid (HP13.out.below hb)
  have HQ14 := Lib.hid (HQ13.out.below hb)
  have HV14 := Lib.hid (HV13.out.below hb)
  have HW14 := Lib.hid (HW13.out.below hb)
  clear hb HUP HWP HZP HUQ HWQ HZQ
  go_wp2_with fail
  refine (knownSup_any _).mono ?_
  rintro e wz ⟨rfl, hb⟩
  have HBz := Lib.hid (HB14.out.trans (hb.mono HB14.out.size))
  clear hb
  go_wp2_with fail
  go_ret
  exact ⟨rfl, HBz.out⟩
end Go.Proofs.YtbjbpgbpefkbhaaDoor
