/- ledgerlaw2.CrcUpdates: the walk. -/
import Derived.Test.YtadnckkipppbcaaDoorRefSum
import Derived.Test.YtadnckkipppbcaaDoorPlace
import Derived.Test.YtadnckkipppbcaaDoorRows2
namespace Go.Proofs.YtadnckkipppbcaaDoor
open Go.RowKit
theorem drop_marks (xs : List Nat) {n : Nat} (h : xs.length = n) : (xs ++ marks).drop n = marks := by
  rw [← h, List.drop_left]
set_option maxHeartbeats 4000000 in
theorem updates_walk (c0 : Nat) (P : Option Addr) (N K : Nat) (w0 : World) (hc : c0 < 4294967296) (hp : RBs w0 P N 1048576) (hN : N ≤ 140737488355328) (hd : DivT w0) :
    Calls Tryd.prog 4 #[.int .u32 (c0 : Nat), .slice P N K] w0 fun e w' => e = .returned (.bool true) ∧ Below w0.heap.size w0 w' := by
  have HP0 := Lib.hid hp
  have HD := Lib.hid hd
  clear hp hd
  go_enter Tryd.func4, Tryd.ntmps4
  go_wp2_with fail
  go_loopw [5, 6] (fun r i wr => ∃ k : Nat, k ≤ N ∧ ∃ rr : Nat, rr < 4294967296 ∧ r = .int .u32 (rr : Nat) ∧ i = .int .i64 k ∧ Hid (Below w0.heap.size w0 wr)) (fun _ i _ => N - (intOf i).toNat)
  case atStart => exact ⟨0, by omega, c0, hc, rfl, rfl, Below.refl _ _⟩
  case round =>
    obtain ⟨k, hk, rr, hrr, rfl, rfl, HB1⟩ := hrel
    obtain ⟨w1, rfl⟩ : ∃ w1, w1 = wr := ⟨_, rfl⟩
    by_cases hlt : k < N
    · obtain ⟨a, Ax, n, Cx, xs, rfl, _, hcell, hx, hnc, hn⟩ := (HP0.out.below HB1.out).at_ hlt
      have HX := Lib.hid hx
      have HXL := Lib.hid hx.1
      have HML : Hid ((midN xs).length = n) := by
        show (midN xs).length = n
        rw [midN_length, HXL.out]
      obtain ⟨sx, HSX⟩ : ∃ sx, Hid (updN rr xs = sx) := ⟨_, rfl⟩
      obtain ⟨sv, HSV⟩ : ∃ sv, Hid (updN rr (midN xs) = sv) := ⟨_, rfl⟩
      have HSL : Hid (sx < 4294967296) := by
        show sx < 4294967296
        rw [← HSX.out]
        exact updN_lt _ _
      clear hx
      go_wp2_with fail
      refine (copied_any Ax n Cx xs w1 HX.out (by omega)).mono ?_
      rintro e w2 ⟨vP, rfl, hown, hb⟩
      have HB2 := Lib.hid (HB1.out.trans (hb.mono HB1.out.size))
      have HP2 := Lib.hid hown
      obtain ⟨AP, cP, rfl, _, _, _, hcapP⟩ := hown.form
      rw [HXL.out] at HP2 hcapP ⊢
      clear hown hb
      go_wp2_with fail
      clear HX
      have HZ : Hid (RB w2 AP n xs) := by
        have h := HP2.out.reads
        rwa [show (xs).length = n from HXL.out] at h
      refine (middle_any AP n cP xs w2 HZ.out (by omega)).mono ?_
      rintro e w3 ⟨vV, rfl, hown, hb⟩
      have HB3 := Lib.hid (HB2.out.trans (hb.mono HB2.out.size))
      have HP3 := Lib.hid (HP2.out.below hb)
      have HV3 := Lib.hid hown
      obtain ⟨AV, cV, rfl, _, _, _, hcapV⟩ := hown.form
      rw [HML.out] at HV3 hcapV ⊢
      clear hown hb
      go_wp2_with fail
      clear HZ
      refine (roomy_any AP n cP xs w3 (HXL.out ▸ HP3.out.reads) (by omega)).mono ?_
      rintro e w4 ⟨⟨AR, cR, rfl, hown⟩, hb⟩
      have HB4 := Lib.hid (HB3.out.trans (hb.mono HB3.out.size))
      have HP4 := Lib.hid (HP3.out.below hb)
      have HV4 := Lib.hid (HV3.out.below hb)
      have HR4 := Lib.hid hown
      have hroom : n + 120 ≤ cR := by
        have := hown.room
        rwa [List.length_append, marks_length, HXL.out] at this
      have HAP : Hid (∀ ad bd, AR = some ad → AP = some bd → ad.block ≠ bd.block) := fun ad bd e2 e1 e => by
        subst e1 e2
        have a := (HP3.out.lt bd.block rfl).2
        have b := hown.ge ad.block rfl
        omega
      have HVP : Hid (∀ (n1 n2 : Nat), (Value.slice AP n1 cP).ownBlock = none ∨ (Value.slice AP n1 cP).ownBlock ≠ (Value.slice AR n2 cR).ownBlock) := fun n1 n2 => by
        rcases AP with _ | a1
        · exact .inl rfl
        · refine .inr fun e => ?_
          rcases AR with _ | a3
          · cases e
          · exact HAP.out a3 a1 rfl rfl (by injection e with e; exact e.symm)
      have HAV : Hid (∀ ad bd, AR = some ad → AV = some bd → ad.block ≠ bd.block) := fun ad bd e2 e1 e => by
        subst e1 e2
        have a := (HV3.out.lt bd.block rfl).2
        have b := hown.ge ad.block rfl
        omega
      have HVV : Hid (∀ (n1 n2 : Nat), (Value.slice AV n1 cV).ownBlock = none ∨ (Value.slice AV n1 cV).ownBlock ≠ (Value.slice AR n2 cR).ownBlock) := fun n1 n2 => by
        rcases AV with _ | a1
        · exact .inl rfl
        · refine .inr fun e => ?_
          rcases AR with _ | a3
          · cases e
          · exact HAV.out a3 a1 rfl rfl (by injection e with e; exact e.symm)
      have HG : Hid (∀ k, (Value.slice AR (n + 120) cR).ownBlock = some k → w0.heap.size ≤ k) := fun k hk => Nat.le_trans HB3.out.size (hown.ge k hk)
      clear hown hb
      go_wp2_with fail
      have HU1 : Hid (∀ W, RB W AR n xs → Calls Tryd.prog 15 #[.int .u32 (rr : Nat), .slice AR n cR] W fun e w' => e = .returned (.int .u32 (sx : Nat)) ∧ Below W.heap.size W w') := fun W h => by rw [← HSX.out]; exact upd_any rr AR n cR xs W hrr h (by omega)
      have HU2 : Hid (∀ W, RB W AR n (midN xs) → Calls Tryd.prog 15 #[.int .u32 (rr : Nat), .slice AR n cR] W fun e w' => e = .returned (.int .u32 (sv : Nat)) ∧ Below W.heap.size W w') := fun W h => by rw [← HSV.out]; exact upd_any rr AR n cR (midN xs) W hrr h (by omega)
      have HT1 : Hid (∀ W, RB W AP n xs → DivT W → Calls Tryd.prog 16 #[.int .u32 (rr : Nat), .slice AP n cP] W fun e w' => e = .returned (.int .u32 (sx : Nat)) ∧ Below W.heap.size W w') := fun W h d => by rw [← HSX.out]; exact refupd_any rr AP n cP xs W hrr h (by omega) d
      have HT2 : Hid (∀ W, RB W AV n (midN xs) → DivT W → Calls Tryd.prog 16 #[.int .u32 (rr : Nat), .slice AV n cV] W fun e w' => e = .returned (.int .u32 (sv : Nat)) ∧ Below W.heap.size W w') := fun W h d => by rw [← HSV.out]; exact refupd_any rr AV n cV (midN xs) W hrr h (by omega) d
      have HU : Hid (RB w4 AR n xs) := by
        have h := HR4.out.reads.take (k := n) (by rw [List.length_append, HXL.out]; omega)
        rwa [List.take_append_of_le_length (by rw [HXL.out]; exact Nat.le_refl _), List.take_of_length_le (by rw [HXL.out]; exact Nat.le_refl _)] at h
      refine (HU1.out w4 HU.out).mono ?_
      rintro e w5 ⟨rfl, hb⟩
      have HB5 := Lib.hid (HB4.out.trans (hb.mono HB4.out.size))
      have HP5 := Lib.hid (HP4.out.below hb)
      have HV5 := Lib.hid (HV4.out.below hb)
      have HR5 := Lib.hid (HR4.out.below hb)
      clear hb HU
      go_wp2_with fail
      have HZ : Hid (RB w5 AP n xs) := by
        have h := HP5.out.reads
        rwa [show (xs).length = n from HXL.out] at h
      refine (HT1.out w5 HZ.out (HD.out.below HB5.out)).mono ?_
      rintro e w6 ⟨rfl, hb⟩
      have HB6 := Lib.hid (HB5.out.trans (hb.mono HB5.out.size))
      have HP6 := Lib.hid (HP5.out.below hb)
      have HV6 := Lib.hid (HV5.out.below hb)
      have HR6 := Lib.hid (HR5.out.below hb)
      clear hb HZ
      go_wp2_with fail
      have HZ : Hid (RB w6 AP n xs) := by
        have h := HP6.out.reads
        rwa [show (xs).length = n from HXL.out] at h
      have HW : Hid (RB w6 AR (n + 120) (xs ++ marks)) := by
        have h := HR6.out.reads
        rwa [show (xs ++ marks).length = n + 120 by rw [List.length_append, marks_length, HXL.out]] at h
      refine (left_true AP AR n cP cR xs w6 HZ.out HW.out hroom (by omega)).mono ?_
      rintro e w7 ⟨rfl, q, hq⟩
      have hb : Below w6.heap.size w6 w7 := by rw [hq]; exact drewN_below (Below.refl _ _) q
      clear hq
      have HB7 := Lib.hid (HB6.out.trans (hb.mono HB6.out.size))
      have HP7 := Lib.hid (HP6.out.below hb)
      have HV7 := Lib.hid (HV6.out.below hb)
      have HR7 := Lib.hid (HR6.out.below hb)
      clear hb HZ HW
      go_wp2_with fail
      have HZ : Hid (RB w7 AV n (midN xs)) := by
        have h := HV7.out.reads
        rwa [show ((midN xs)).length = n from HML.out] at h
      refine (place_any _ AR AV n cR (n + 120) cV (xs ++ marks) (midN xs) w7 HR7.out (by rw [List.length_append, marks_length, HXL.out]) (by omega) HZ.out HAV.out (by omega)).mono ?_
      rintro e w8 ⟨rfl, hown, hg⟩
      have HB8 := Lib.hid (HB7.out.grown hg HB7.out.size HG.out)
      have HP8 := Lib.hid (HP7.out.kept hg (HVP.out _ _))
      have HV8 := Lib.hid (HV7.out.kept hg (HVV.out _ _))
      rw [drop_marks _ HXL.out] at hown
      have HR8 := Lib.hid hown
      clear hown hg HZ
      go_wp2_with fail
      have HU : Hid (RB w8 AR n (midN xs)) := by
        have h := HR8.out.reads.take (k := n) (by rw [List.length_append, HML.out]; omega)
        rwa [List.take_append_of_le_length (by rw [HML.out]; exact Nat.le_refl _), List.take_of_length_le (by rw [HML.out]; exact Nat.le_refl _)] at h
      refine (HU2.out w8 HU.out).mono ?_
      rintro e w9 ⟨rfl, hb⟩
      have HB9 := Lib.hid (HB8.out.trans (hb.mono HB8.out.size))
      have HP9 := Lib.hid (HP8.out.below hb)
      have HV9 := Lib.hid (HV8.out.below hb)
      have HR9 := Lib.hid (HR8.out.below hb)
      clear hb HU
      go_wp2_with fail
      have HZ : Hid (RB w9 AV n (midN xs)) := by
        have h := HV9.out.reads
        rwa [show ((midN xs)).length = n from HML.out] at h
      refine (HT2.out w9 HZ.out (HD.out.below HB9.out)).mono ?_
      rintro e w10 ⟨rfl, hb⟩
      have HB10 := Lib.hid (HB9.out.trans (hb.mono HB9.out.size))
      have HP10 := Lib.hid (HP9.out.below hb)
      have HV10 := Lib.hid (HV9.out.below hb)
      have HR10 := Lib.hid (HR9.out.below hb)
      clear hb HZ
      go_wp2_with fail
      have HZ : Hid (RB w10 AV n (midN xs)) := by
        have h := HV10.out.reads
        rwa [show ((midN xs)).length = n from HML.out] at h
      have HW : Hid (RB w10 AR (n + 120) ((midN xs) ++ marks)) := by
        have h := HR10.out.reads
        rwa [show ((midN xs) ++ marks).length = n + 120 by rw [List.length_append, marks_length, HML.out]] at h
      refine (left_true AV AR n cV cR (midN xs) w10 HZ.out HW.out hroom (by omega)).mono ?_
      rintro e w11 ⟨rfl, q, hq⟩
      have hb : Below w10.heap.size w10 w11 := by rw [hq]; exact drewN_below (Below.refl _ _) q
      clear hq
      have HB11 := Lib.hid (HB10.out.trans (hb.mono HB10.out.size))
      have HP11 := Lib.hid (HP10.out.below hb)
      have HV11 := Lib.hid (HV10.out.below hb)
      have HR11 := Lib.hid (HR10.out.below hb)
      clear hb HZ HW
      go_wp2_with fail
      have HZ : Hid (RB w11 AP n xs) := by
        have h := HP11.out.reads
        rwa [show (xs).length = n from HXL.out] at h
      refine (place_any _ AR AP n cR (n + 120) cP ((midN xs) ++ marks) xs w11 HR11.out (by rw [List.length_append, marks_length, HML.out]) (by omega) HZ.out HAP.out (by omega)).mono ?_
      rintro e w12 ⟨rfl, hown, hg⟩
      have HB12 := Lib.hid (HB11.out.grown hg HB11.out.size HG.out)
      have HP12 := Lib.hid (HP11.out.kept hg (HVP.out _ _))
      have HV12 := Lib.hid (HV11.out.kept hg (HVV.out _ _))
      rw [drop_marks _ HML.out] at hown
      have HR12 := Lib.hid hown
      clear hown hg HZ
      go_wp2_with fail
      have HU : Hid (RB w12 AR n xs) := by
        have h := HR12.out.reads.take (k := n) (by rw [List.length_append, HXL.out]; omega)
        rwa [List.take_append_of_le_length (by rw [HXL.out]; exact Nat.le_refl _), List.take_of_length_le (by rw [HXL.out]; exact Nat.le_refl _)] at h
      refine (HU1.out w12 HU.out).mono ?_
      rintro e w13 ⟨rfl, hb⟩
      have HB13 := Lib.hid (HB12.out.trans (hb.mono HB12.out.size))
      have HP13 := Lib.hid (HP12.out.below hb)
      have HV13 := Lib.hid (HV12.out.below hb)
      have HR13 := Lib.hid (HR12.out.below hb)
      clear hb HU
      go_wp2_with fail
      go_roundw
      case rel => exact ⟨k + 1, by omega, sx, HSL.out, rfl, by go_num, HB13.out⟩
      case measure => simp [intOf]; omega
    · go_wp2_with fail
      refine (known_any _).mono ?_
      rintro e wz ⟨rfl, hb⟩
      have HBz := Lib.hid (HB1.out.trans (hb.mono HB1.out.size))
      clear hb
      go_wp2_with fail
      go_ret
      exact ⟨rfl, HBz.out⟩
end Go.Proofs.YtadnckkipppbcaaDoor
