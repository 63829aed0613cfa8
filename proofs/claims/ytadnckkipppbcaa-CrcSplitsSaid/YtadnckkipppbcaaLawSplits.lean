/- ledgerlaw2.CrcSplits: the walk. -/
import Derived.Test.YtadnckkipppbcaaJoin
import Derived.Test.YtadnckkipppbcaaSum
import Derived.Test.YtadnckkipppbcaaShort
namespace Go.Proofs.Ytadnckkipppbcaa
open Go.RowKit
theorem comp_comp {a : Nat} (h : a < 4294967296) : comp (comp a) = a := by unfold comp; omega
theorem upd_append {xs : List Nat} (ys : List Nat) (hx : ∀ x ∈ xs, x < 256) : updN (updN 0 xs) ys = updN 0 (xs ++ ys) := by
  unfold updN
  rw [feedN_append, comp_comp (feedN_lt hx (comp_lt 0))]
theorem join_append {xs ys : List Nat} (hx : ∀ x ∈ xs, x < 256) (hy : ∀ x ∈ ys, x < 256) : joinN (updN 0 xs) (updN 0 ys) ys.length = updN 0 (xs ++ ys) := by
  have ht : top < 4294967296 := by unfold top; omega
  have hfx : feedN top xs < 4294967296 := feedN_lt hx ht
  have hxy : ∀ x ∈ xs ++ ys, x < 256 := fun x h => by
    rcases List.mem_append.1 h with h | h
    · exact hx x h
    · exact hy x h
  rw [updN_zero, updN_zero, updN_zero, comp_xor hfx, comp_xor (feedN_lt hy ht), comp_xor (feedN_lt hxy ht), feedN_append]
  unfold joinN
  rw [if_neg (by omega), Int.toNat_natCast]
  have e : feedN (feedN top xs) ys = feedN top ys ^^^ bs (8 * ys.length) (top ^^^ feedN top xs) := by
    rw [← feedN_over, xcan]
  rw [e, Nat.xor_comm (bs _ _), Nat.xor_assoc]
set_option maxHeartbeats 1600000 in
theorem splits_walk (A : Option Addr) (n c : Nat) (at0 : Int) (xs : List Nat) (w : World) (hx : RB w A n xs) (hn : n ≤ 140737488355328) :
    Calls Try.prog 10 #[.slice A n c, .int .i64 at0] w fun e w' => e = .returned (.bool true) ∧ Below w.heap.size w w' := by
  have HX := Lib.hid (copied_any A n c xs w hx hn)
  obtain rfl : xs.length = n := hx.1
  have hxB := hx.isB
  clear hx
  go_enter Try.func10, Try.ntmps10
  go_wp2_with fail
  refine HX.out.mono ?_
  rintro e w1 ⟨v1, rfl, hown1, hb1⟩
  have HB1 := Lib.hid hb1
  obtain ⟨A1, c1, rfl, hr1, _, hA1, hc1⟩ := hown1.form
  have HR1 := Lib.hid hr1
  have HA1 := Lib.hid hA1
  clear hown1 hb1 hr1 hA1 HX
  by_cases h0 : at0 < 0
  · have hkl : xs.length ≤ xs.length := Nat.le_refl _
    have HUA := Lib.hid (upd_append (xs := xs.take xs.length) (xs.drop xs.length) (hxB.take _))
    have HJA := Lib.hid (join_append (xs := xs.take xs.length) (ys := xs.drop xs.length) (hxB.take _) (hxB.drop _))
    rw [List.take_append_drop] at HUA HJA
    have hly1 : (xs.drop xs.length).length ≤ xs.length - xs.length := by rw [List.length_drop]; omega
    have hly2 : xs.length - xs.length ≤ (xs.drop xs.length).length := by rw [List.length_drop]; omega
    have hlx : (xs.take xs.length).length ≤ xs.length := by rw [List.length_take]; omega
    have HS := Lib.hid (short_any A1 xs.length c1 xs.length xs w1 HR1.out hn)
    rw [Int.toNat_natCast] at HS
    have HD : Hid (∀ (W : World) (B : Option Addr), RB W A1 xs.length xs → (xs.length < xs.length → B = A1.map (·.add xs.length)) → RB W B (xs.length - xs.length) (xs.drop xs.length)) := fun W B h hB => h.drop hkl hB
    have HY8 : Hid (IsB (xs.drop xs.length)) := hxB.drop _
    have HX8 : Hid (IsB (xs.take xs.length)) := hxB.take _
    generalize xs.take xs.length = X at *
    generalize xs.drop xs.length = Y at *
    go_wp2_with fail
    refine HS.out.mono ?_
    rintro e w2 ⟨v2, rfl, hown2, hb2⟩
    have HO2 := Lib.hid hown2
    obtain ⟨A2, c2, rfl, _⟩ := hown2.form
    have HB2 := Lib.hid (HB1.out.trans (hb2.mono HB1.out.size))
    have HR2 := Lib.hid (HR1.out.below hb2)
    clear hown2 hb2 HS
    have HC2 : Hid (∀ (B : Option Addr) (N c' : Nat), (xs.length < xs.length → B = A1.map (·.add xs.length)) → N = xs.length - xs.length → Calls Try.prog 12 #[.slice B N c'] w2 fun e w' => ∃ v, e = .returned v ∧ OwnU w' w2.heap.size v Y ∧ Below w2.heap.size w2 w') := fun B N c' hB hN => by
      subst hN
      exact copied_any B _ c' Y w2 (HD.out w2 B HR2.out hB) (by omega)
    by_cases hck : c1 = xs.length
    · go_wp2_with fail
      refine (HC2.out _ _ _ (fun h => by omega) (by omega)).mono ?_
      rintro e w3 ⟨v3, rfl, hown3, hb3⟩
      have HO3 := Lib.hid hown3
      obtain ⟨A3, c3, rfl, _⟩ := hown3.form
      have HB3 := Lib.hid (HB2.out.trans (hb3.mono HB2.out.size))
      have HR3 := Lib.hid (HR2.out.below hb3)
      have HO23 := Lib.hid (HO2.out.below hb3)
      clear hown3 hb3 HC2
      have HT := Lib.hid (fun c' => sum_any A1 xs.length c' xs w3 HR3.out (by omega))
      go_wp2_with fail
      refine (HT.out _).mono ?_
      rintro e w4 ⟨rfl, hb4⟩
      have HB4 := Lib.hid (HB3.out.trans (hb4.mono HB3.out.size))
      have HR4 := Lib.hid (HR3.out.below hb4)
      have HX4 := Lib.hid (HO23.out.below hb4).reads
      have HY4 := Lib.hid (HO3.out.below hb4).reads
      clear hb4 HT
      have HSX := Lib.hid (sum_any A2 X.length c2 X w4 HX4.out (by omega))
      go_wp2_with fail
      refine HSX.out.mono ?_
      rintro e w5 ⟨rfl, hb5⟩
      have HB5 := Lib.hid (HB4.out.trans (hb5.mono HB4.out.size))
      have HR5 := Lib.hid (HR4.out.below hb5)
      have HY5 := Lib.hid (HY4.out.below hb5)
      clear hb5 HSX
      have HSY := Lib.hid (sum_any A3 Y.length c3 Y w5 HY5.out (by omega))
      go_wp2_with fail
      refine HSY.out.mono ?_
      rintro e w6 ⟨rfl, hb6⟩
      have HB6 := Lib.hid (HB5.out.trans (hb6.mono HB5.out.size))
      have HR6 := Lib.hid (HR5.out.below hb6)
      have HY6 := Lib.hid (HY5.out.below hb6)
      clear hb6 HSY
      have hsx := updN_lt 0 X
      have hsy := updN_lt 0 Y
      go_wp2_with fail
      refine (known_any _).mono ?_
      rintro e w7 ⟨rfl, hb7⟩
      have HB7 := Lib.hid (HB6.out.trans (hb7.mono HB6.out.size))
      have HR7 := Lib.hid (HR6.out.below hb7)
      have HY7 := Lib.hid (HY6.out.below hb7)
      clear hb7
      have HU := Lib.hid (upd_any (updN 0 X) A3 Y.length c3 Y w7 hsx HY7.out (by omega))
      rw [HUA.out] at HU
      have HJ := Lib.hid (fun W => join_any (updN 0 X) (updN 0 Y) Y.length W hsx hsy (by omega))
      rw [HJA.out] at HJ
      have HV := Lib.hid (fun W c' h => upd_any 0 A1 xs.length c' xs W (by omega) h (by omega))
      generalize updN 0 X = sx at *
      generalize updN 0 Y = sy at *
      generalize updN 0 xs = st at *
      go_wp2_with fail
      refine HU.out.mono ?_
      rintro e w8 ⟨rfl, hb8⟩
      have HB8 := Lib.hid (HB7.out.trans (hb8.mono HB7.out.size))
      have HR8 := Lib.hid (HR7.out.below hb8)
      clear hb8
      go_wp2_with fail
      refine (HJ.out _).mono ?_
      rintro e w9 ⟨rfl, hb9⟩
      have HB9 := Lib.hid (HB8.out.trans (hb9.mono HB8.out.size))
      have HR9 := Lib.hid (HR8.out.below hb9)
      clear hb9
      go_wp2_with fail
      refine (HV.out _ _ HR9.out).mono ?_
      rintro e w10 ⟨rfl, hb10⟩
      go_wp2_with fail
      go_ret
      exact ⟨by simp, HB9.out.trans (hb10.mono HB9.out.size)⟩
    · rcases A1 with _ | ad
      · exact absurd (HA1.out rfl) (by omega)
      · go_wp2_with fail
        refine (HC2.out _ _ _ (fun _ => rfl) (by omega)).mono ?_
        rintro e w3 ⟨v3, rfl, hown3, hb3⟩
        have HO3 := Lib.hid hown3
        obtain ⟨A3, c3, rfl, _⟩ := hown3.form
        have HB3 := Lib.hid (HB2.out.trans (hb3.mono HB2.out.size))
        have HR3 := Lib.hid (HR2.out.below hb3)
        have HO23 := Lib.hid (HO2.out.below hb3)
        clear hown3 hb3 HC2
        have HT := Lib.hid (fun c' => sum_any (some ad) xs.length c' xs w3 HR3.out (by omega))
        go_wp2_with fail
        refine (HT.out _).mono ?_
        rintro e w4 ⟨rfl, hb4⟩
        have HB4 := Lib.hid (HB3.out.trans (hb4.mono HB3.out.size))
        have HR4 := Lib.hid (HR3.out.below hb4)
        have HX4 := Lib.hid (HO23.out.below hb4).reads
        have HY4 := Lib.hid (HO3.out.below hb4).reads
        clear hb4 HT
        have HSX := Lib.hid (sum_any A2 X.length c2 X w4 HX4.out (by omega))
        go_wp2_with fail
        refine HSX.out.mono ?_
        rintro e w5 ⟨rfl, hb5⟩
        have HB5 := Lib.hid (HB4.out.trans (hb5.mono HB4.out.size))
        have HR5 := Lib.hid (HR4.out.below hb5)
        have HY5 := Lib.hid (HY4.out.below hb5)
        clear hb5 HSX
        have HSY := Lib.hid (sum_any A3 Y.length c3 Y w5 HY5.out (by omega))
        go_wp2_with fail
        refine HSY.out.mono ?_
        rintro e w6 ⟨rfl, hb6⟩
        have HB6 := Lib.hid (HB5.out.trans (hb6.mono HB5.out.size))
        have HR6 := Lib.hid (HR5.out.below hb6)
        have HY6 := Lib.hid (HY5.out.below hb6)
        clear hb6 HSY
        have hsx := updN_lt 0 X
        have hsy := updN_lt 0 Y
        go_wp2_with fail
        refine (known_any _).mono ?_
        rintro e w7 ⟨rfl, hb7⟩
        have HB7 := Lib.hid (HB6.out.trans (hb7.mono HB6.out.size))
        have HR7 := Lib.hid (HR6.out.below hb7)
        have HY7 := Lib.hid (HY6.out.below hb7)
        clear hb7
        have HU := Lib.hid (upd_any (updN 0 X) A3 Y.length c3 Y w7 hsx HY7.out (by omega))
        rw [HUA.out] at HU
        have HJ := Lib.hid (fun W => join_any (updN 0 X) (updN 0 Y) Y.length W hsx hsy (by omega))
        rw [HJA.out] at HJ
        have HV := Lib.hid (fun W c' h => upd_any 0 (some ad) xs.length c' xs W (by omega) h (by omega))
        generalize updN 0 X = sx at *
        generalize updN 0 Y = sy at *
        generalize updN 0 xs = st at *
        go_wp2_with fail
        refine HU.out.mono ?_
        rintro e w8 ⟨rfl, hb8⟩
        have HB8 := Lib.hid (HB7.out.trans (hb8.mono HB7.out.size))
        have HR8 := Lib.hid (HR7.out.below hb8)
        clear hb8
        go_wp2_with fail
        refine (HJ.out _).mono ?_
        rintro e w9 ⟨rfl, hb9⟩
        have HB9 := Lib.hid (HB8.out.trans (hb9.mono HB8.out.size))
        have HR9 := Lib.hid (HR8.out.below hb9)
        clear hb9
        go_wp2_with fail
        refine (HV.out _ _ HR9.out).mono ?_
        rintro e w10 ⟨rfl, hb10⟩
        go_wp2_with fail
        go_ret
        exact ⟨by simp, HB9.out.trans (hb10.mono HB9.out.size)⟩
  · by_cases h1 : (xs.length : Int) < at0
    · have hkl : xs.length ≤ xs.length := Nat.le_refl _
      have HUA := Lib.hid (upd_append (xs := xs.take xs.length) (xs.drop xs.length) (hxB.take _))
      have HJA := Lib.hid (join_append (xs := xs.take xs.length) (ys := xs.drop xs.length) (hxB.take _) (hxB.drop _))
      rw [List.take_append_drop] at HUA HJA
      have hly1 : (xs.drop xs.length).length ≤ xs.length - xs.length := by rw [List.length_drop]; omega
      have hly2 : xs.length - xs.length ≤ (xs.drop xs.length).length := by rw [List.length_drop]; omega
      have hlx : (xs.take xs.length).length ≤ xs.length := by rw [List.length_take]; omega
      have HS := Lib.hid (short_any A1 xs.length c1 xs.length xs w1 HR1.out hn)
      rw [Int.toNat_natCast] at HS
      have HD : Hid (∀ (W : World) (B : Option Addr), RB W A1 xs.length xs → (xs.length < xs.length → B = A1.map (·.add xs.length)) → RB W B (xs.length - xs.length) (xs.drop xs.length)) := fun W B h hB => h.drop hkl hB
      have HY8 : Hid (IsB (xs.drop xs.length)) := hxB.drop _
      have HX8 : Hid (IsB (xs.take xs.length)) := hxB.take _
      generalize xs.take xs.length = X at *
      generalize xs.drop xs.length = Y at *
      go_wp2_with fail
      refine HS.out.mono ?_
      rintro e w2 ⟨v2, rfl, hown2, hb2⟩
      have HO2 := Lib.hid hown2
      obtain ⟨A2, c2, rfl, _⟩ := hown2.form
      have HB2 := Lib.hid (HB1.out.trans (hb2.mono HB1.out.size))
      have HR2 := Lib.hid (HR1.out.below hb2)
      clear hown2 hb2 HS
      have HC2 : Hid (∀ (B : Option Addr) (N c' : Nat), (xs.length < xs.length → B = A1.map (·.add xs.length)) → N = xs.length - xs.length → Calls Try.prog 12 #[.slice B N c'] w2 fun e w' => ∃ v, e = .returned v ∧ OwnU w' w2.heap.size v Y ∧ Below w2.heap.size w2 w') := fun B N c' hB hN => by
        subst hN
        exact copied_any B _ c' Y w2 (HD.out w2 B HR2.out hB) (by omega)
      by_cases hck : c1 = xs.length
      · go_wp2_with fail
        refine (HC2.out _ _ _ (fun h => by omega) (by omega)).mono ?_
        rintro e w3 ⟨v3, rfl, hown3, hb3⟩
        have HO3 := Lib.hid hown3
        obtain ⟨A3, c3, rfl, _⟩ := hown3.form
        have HB3 := Lib.hid (HB2.out.trans (hb3.mono HB2.out.size))
        have HR3 := Lib.hid (HR2.out.below hb3)
        have HO23 := Lib.hid (HO2.out.below hb3)
        clear hown3 hb3 HC2
        have HT := Lib.hid (fun c' => sum_any A1 xs.length c' xs w3 HR3.out (by omega))
        go_wp2_with fail
        refine (HT.out _).mono ?_
        rintro e w4 ⟨rfl, hb4⟩
        have HB4 := Lib.hid (HB3.out.trans (hb4.mono HB3.out.size))
        have HR4 := Lib.hid (HR3.out.below hb4)
        have HX4 := Lib.hid (HO23.out.below hb4).reads
        have HY4 := Lib.hid (HO3.out.below hb4).reads
        clear hb4 HT
        have HSX := Lib.hid (sum_any A2 X.length c2 X w4 HX4.out (by omega))
        go_wp2_with fail
        refine HSX.out.mono ?_
        rintro e w5 ⟨rfl, hb5⟩
        have HB5 := Lib.hid (HB4.out.trans (hb5.mono HB4.out.size))
        have HR5 := Lib.hid (HR4.out.below hb5)
        have HY5 := Lib.hid (HY4.out.below hb5)
        clear hb5 HSX
        have HSY := Lib.hid (sum_any A3 Y.length c3 Y w5 HY5.out (by omega))
        go_wp2_with fail
        refine HSY.out.mono ?_
        rintro e w6 ⟨rfl, hb6⟩
        have HB6 := Lib.hid (HB5.out.trans (hb6.mono HB5.out.size))
        have HR6 := Lib.hid (HR5.out.below hb6)
        have HY6 := Lib.hid (HY5.out.below hb6)
        clear hb6 HSY
        have hsx := updN_lt 0 X
        have hsy := updN_lt 0 Y
        go_wp2_with fail
        refine (known_any _).mono ?_
        rintro e w7 ⟨rfl, hb7⟩
        have HB7 := Lib.hid (HB6.out.trans (hb7.mono HB6.out.size))
        have HR7 := Lib.hid (HR6.out.below hb7)
        have HY7 := Lib.hid (HY6.out.below hb7)
        clear hb7
        have HU := Lib.hid (upd_any (updN 0 X) A3 Y.length c3 Y w7 hsx HY7.out (by omega))
        rw [HUA.out] at HU
        have HJ := Lib.hid (fun W => join_any (updN 0 X) (updN 0 Y) Y.length W hsx hsy (by omega))
        rw [HJA.out] at HJ
        have HV := Lib.hid (fun W c' h => upd_any 0 A1 xs.length c' xs W (by omega) h (by omega))
        generalize updN 0 X = sx at *
        generalize updN 0 Y = sy at *
        generalize updN 0 xs = st at *
        go_wp2_with fail
        refine HU.out.mono ?_
        rintro e w8 ⟨rfl, hb8⟩
        have HB8 := Lib.hid (HB7.out.trans (hb8.mono HB7.out.size))
        have HR8 := Lib.hid (HR7.out.below hb8)
        clear hb8
        go_wp2_with fail
        refine (HJ.out _).mono ?_
        rintro e w9 ⟨rfl, hb9⟩
        have HB9 := Lib.hid (HB8.out.trans (hb9.mono HB8.out.size))
        have HR9 := Lib.hid (HR8.out.below hb9)
        clear hb9
        go_wp2_with fail
        refine (HV.out _ _ HR9.out).mono ?_
        rintro e w10 ⟨rfl, hb10⟩
        go_wp2_with fail
        go_ret
        exact ⟨by simp, HB9.out.trans (hb10.mono HB9.out.size)⟩
      · rcases A1 with _ | ad
        · exact absurd (HA1.out rfl) (by omega)
        · go_wp2_with fail
          refine (HC2.out _ _ _ (fun _ => rfl) (by omega)).mono ?_
          rintro e w3 ⟨v3, rfl, hown3, hb3⟩
          have HO3 := Lib.hid hown3
          obtain ⟨A3, c3, rfl, _⟩ := hown3.form
          have HB3 := Lib.hid (HB2.out.trans (hb3.mono HB2.out.size))
          have HR3 := Lib.hid (HR2.out.below hb3)
          have HO23 := Lib.hid (HO2.out.below hb3)
          clear hown3 hb3 HC2
          have HT := Lib.hid (fun c' => sum_any (some ad) xs.length c' xs w3 HR3.out (by omega))
          go_wp2_with fail
          refine (HT.out _).mono ?_
          rintro e w4 ⟨rfl, hb4⟩
          have HB4 := Lib.hid (HB3.out.trans (hb4.mono HB3.out.size))
          have HR4 := Lib.hid (HR3.out.below hb4)
          have HX4 := Lib.hid (HO23.out.below hb4).reads
          have HY4 := Lib.hid (HO3.out.below hb4).reads
          clear hb4 HT
          have HSX := Lib.hid (sum_any A2 X.length c2 X w4 HX4.out (by omega))
          go_wp2_with fail
          refine HSX.out.mono ?_
          rintro e w5 ⟨rfl, hb5⟩
          have HB5 := Lib.hid (HB4.out.trans (hb5.mono HB4.out.size))
          have HR5 := Lib.hid (HR4.out.below hb5)
          have HY5 := Lib.hid (HY4.out.below hb5)
          clear hb5 HSX
          have HSY := Lib.hid (sum_any A3 Y.length c3 Y w5 HY5.out (by omega))
          go_wp2_with fail
          refine HSY.out.mono ?_
          rintro e w6 ⟨rfl, hb6⟩
          have HB6 := Lib.hid (HB5.out.trans (hb6.mono HB5.out.size))
          have HR6 := Lib.hid (HR5.out.below hb6)
          have HY6 := Lib.hid (HY5.out.below hb6)
          clear hb6 HSY
          have hsx := updN_lt 0 X
          have hsy := updN_lt 0 Y
          go_wp2_with fail
          refine (known_any _).mono ?_
          rintro e w7 ⟨rfl, hb7⟩
          have HB7 := Lib.hid (HB6.out.trans (hb7.mono HB6.out.size))
          have HR7 := Lib.hid (HR6.out.below hb7)
          have HY7 := Lib.hid (HY6.out.below hb7)
          clear hb7
          have HU := Lib.hid (upd_any (updN 0 X) A3 Y.length c3 Y w7 hsx HY7.out (by omega))
          rw [HUA.out] at HU
          have HJ := Lib.hid (fun W => join_any (updN 0 X) (updN 0 Y) Y.length W hsx hsy (by omega))
          rw [HJA.out] at HJ
          have HV := Lib.hid (fun W c' h => upd_any 0 (some ad) xs.length c' xs W (by omega) h (by omega))
          generalize updN 0 X = sx at *
          generalize updN 0 Y = sy at *
          generalize updN 0 xs = st at *
          go_wp2_with fail
          refine HU.out.mono ?_
          rintro e w8 ⟨rfl, hb8⟩
          have HB8 := Lib.hid (HB7.out.trans (hb8.mono HB7.out.size))
          have HR8 := Lib.hid (HR7.out.below hb8)
          clear hb8
          go_wp2_with fail
          refine (HJ.out _).mono ?_
          rintro e w9 ⟨rfl, hb9⟩
          have HB9 := Lib.hid (HB8.out.trans (hb9.mono HB8.out.size))
          have HR9 := Lib.hid (HR8.out.below hb9)
          clear hb9
          go_wp2_with fail
          refine (HV.out _ _ HR9.out).mono ?_
          rintro e w10 ⟨rfl, hb10⟩
          go_wp2_with fail
          go_ret
          exact ⟨by simp, HB9.out.trans (hb10.mono HB9.out.size)⟩
    · obtain ⟨k, rfl⟩ := Int.eq_ofNat_of_zero_le (show 0 ≤ at0 by omega)
      have hkl : k ≤ xs.length := by omega
      have HUA := Lib.hid (upd_append (xs := xs.take k) (xs.drop k) (hxB.take _))
      have HJA := Lib.hid (join_append (xs := xs.take k) (ys := xs.drop k) (hxB.take _) (hxB.drop _))
      rw [List.take_append_drop] at HUA HJA
      have hly1 : (xs.drop k).length ≤ xs.length - k := by rw [List.length_drop]; omega
      have hly2 : xs.length - k ≤ (xs.drop k).length := by rw [List.length_drop]; omega
      have hlx : (xs.take k).length ≤ k := by rw [List.length_take]; omega
      have HS := Lib.hid (short_any A1 xs.length c1 k xs w1 HR1.out hn)
      rw [Int.toNat_natCast] at HS
      have HD : Hid (∀ (W : World) (B : Option Addr), RB W A1 xs.length xs → (k < xs.length → B = A1.map (·.add k)) → RB W B (xs.length - k) (xs.drop k)) := fun W B h hB => h.drop hkl hB
      have HY8 : Hid (IsB (xs.drop k)) := hxB.drop _
      have HX8 : Hid (IsB (xs.take k)) := hxB.take _
      generalize xs.take k = X at *
      generalize xs.drop k = Y at *
      go_wp2_with fail
      refine HS.out.mono ?_
      rintro e w2 ⟨v2, rfl, hown2, hb2⟩
      have HO2 := Lib.hid hown2
      obtain ⟨A2, c2, rfl, _⟩ := hown2.form
      have HB2 := Lib.hid (HB1.out.trans (hb2.mono HB1.out.size))
      have HR2 := Lib.hid (HR1.out.below hb2)
      clear hown2 hb2 HS
      have HC2 : Hid (∀ (B : Option Addr) (N c' : Nat), (k < xs.length → B = A1.map (·.add k)) → N = xs.length - k → Calls Try.prog 12 #[.slice B N c'] w2 fun e w' => ∃ v, e = .returned v ∧ OwnU w' w2.heap.size v Y ∧ Below w2.heap.size w2 w') := fun B N c' hB hN => by
        subst hN
        exact copied_any B _ c' Y w2 (HD.out w2 B HR2.out hB) (by omega)
      by_cases hck : c1 = k
      · go_wp2_with fail
        refine (HC2.out _ _ _ (fun h => by omega) (by omega)).mono ?_
        rintro e w3 ⟨v3, rfl, hown3, hb3⟩
        have HO3 := Lib.hid hown3
        obtain ⟨A3, c3, rfl, _⟩ := hown3.form
        have HB3 := Lib.hid (HB2.out.trans (hb3.mono HB2.out.size))
        have HR3 := Lib.hid (HR2.out.below hb3)
        have HO23 := Lib.hid (HO2.out.below hb3)
        clear hown3 hb3 HC2
        have HT := Lib.hid (fun c' => sum_any A1 xs.length c' xs w3 HR3.out (by omega))
        go_wp2_with fail
        refine (HT.out _).mono ?_
        rintro e w4 ⟨rfl, hb4⟩
        have HB4 := Lib.hid (HB3.out.trans (hb4.mono HB3.out.size))
        have HR4 := Lib.hid (HR3.out.below hb4)
        have HX4 := Lib.hid (HO23.out.below hb4).reads
        have HY4 := Lib.hid (HO3.out.below hb4).reads
        clear hb4 HT
        have HSX := Lib.hid (sum_any A2 X.length c2 X w4 HX4.out (by omega))
        go_wp2_with fail
        refine HSX.out.mono ?_
        rintro e w5 ⟨rfl, hb5⟩
        have HB5 := Lib.hid (HB4.out.trans (hb5.mono HB4.out.size))
        have HR5 := Lib.hid (HR4.out.below hb5)
        have HY5 := Lib.hid (HY4.out.below hb5)
        clear hb5 HSX
        have HSY := Lib.hid (sum_any A3 Y.length c3 Y w5 HY5.out (by omega))
        go_wp2_with fail
        refine HSY.out.mono ?_
        rintro e w6 ⟨rfl, hb6⟩
        have HB6 := Lib.hid (HB5.out.trans (hb6.mono HB5.out.size))
        have HR6 := Lib.hid (HR5.out.below hb6)
        have HY6 := Lib.hid (HY5.out.below hb6)
        clear hb6 HSY
        have hsx := updN_lt 0 X
        have hsy := updN_lt 0 Y
        go_wp2_with fail
        refine (known_any _).mono ?_
        rintro e w7 ⟨rfl, hb7⟩
        have HB7 := Lib.hid (HB6.out.trans (hb7.mono HB6.out.size))
        have HR7 := Lib.hid (HR6.out.below hb7)
        have HY7 := Lib.hid (HY6.out.below hb7)
        clear hb7
        have HU := Lib.hid (upd_any (updN 0 X) A3 Y.length c3 Y w7 hsx HY7.out (by omega))
        rw [HUA.out] at HU
        have HJ := Lib.hid (fun W => join_any (updN 0 X) (updN 0 Y) Y.length W hsx hsy (by omega))
        rw [HJA.out] at HJ
        have HV := Lib.hid (fun W c' h => upd_any 0 A1 xs.length c' xs W (by omega) h (by omega))
        generalize updN 0 X = sx at *
        generalize updN 0 Y = sy at *
        generalize updN 0 xs = st at *
        go_wp2_with fail
        refine HU.out.mono ?_
        rintro e w8 ⟨rfl, hb8⟩
        have HB8 := Lib.hid (HB7.out.trans (hb8.mono HB7.out.size))
        have HR8 := Lib.hid (HR7.out.below hb8)
        clear hb8
        go_wp2_with fail
        refine (HJ.out _).mono ?_
        rintro e w9 ⟨rfl, hb9⟩
        have HB9 := Lib.hid (HB8.out.trans (hb9.mono HB8.out.size))
        have HR9 := Lib.hid (HR8.out.below hb9)
        clear hb9
        go_wp2_with fail
        refine (HV.out _ _ HR9.out).mono ?_
        rintro e w10 ⟨rfl, hb10⟩
        go_wp2_with fail
        go_ret
        exact ⟨by simp, HB9.out.trans (hb10.mono HB9.out.size)⟩
      · rcases A1 with _ | ad
        · exact absurd (HA1.out rfl) (by omega)
        · go_wp2_with fail
          refine (HC2.out _ _ _ (fun _ => rfl) (by omega)).mono ?_
          rintro e w3 ⟨v3, rfl, hown3, hb3⟩
          have HO3 := Lib.hid hown3
          obtain ⟨A3, c3, rfl, _⟩ := hown3.form
          have HB3 := Lib.hid (HB2.out.trans (hb3.mono HB2.out.size))
          have HR3 := Lib.hid (HR2.out.below hb3)
          have HO23 := Lib.hid (HO2.out.below hb3)
          clear hown3 hb3 HC2
          have HT := Lib.hid (fun c' => sum_any (some ad) xs.length c' xs w3 HR3.out (by omega))
          go_wp2_with fail
          refine (HT.out _).mono ?_
          rintro e w4 ⟨rfl, hb4⟩
          have HB4 := Lib.hid (HB3.out.trans (hb4.mono HB3.out.size))
          have HR4 := Lib.hid (HR3.out.below hb4)
          have HX4 := Lib.hid (HO23.out.below hb4).reads
          have HY4 := Lib.hid (HO3.out.below hb4).reads
          clear hb4 HT
          have HSX := Lib.hid (sum_any A2 X.length c2 X w4 HX4.out (by omega))
          go_wp2_with fail
          refine HSX.out.mono ?_
          rintro e w5 ⟨rfl, hb5⟩
          have HB5 := Lib.hid (HB4.out.trans (hb5.mono HB4.out.size))
          have HR5 := Lib.hid (HR4.out.below hb5)
          have HY5 := Lib.hid (HY4.out.below hb5)
          clear hb5 HSX
          have HSY := Lib.hid (sum_any A3 Y.length c3 Y w5 HY5.out (by omega))
          go_wp2_with fail
          refine HSY.out.mono ?_
          rintro e w6 ⟨rfl, hb6⟩
          have HB6 := Lib.hid (HB5.out.trans (hb6.mono HB5.out.size))
          have HR6 := Lib.hid (HR5.out.below hb6)
          have HY6 := Lib.hid (HY5.out.below hb6)
          clear hb6 HSY
          have hsx := updN_lt 0 X
          have hsy := updN_lt 0 Y
          go_wp2_with fail
          refine (known_any _).mono ?_
          rintro e w7 ⟨rfl, hb7⟩
          have HB7 := Lib.hid (HB6.out.trans (hb7.mono HB6.out.size))
          have HR7 := Lib.hid (HR6.out.below hb7)
          have HY7 := Lib.hid (HY6.out.below hb7)
          clear hb7
          have HU := Lib.hid (upd_any (updN 0 X) A3 Y.length c3 Y w7 hsx HY7.out (by omega))
          rw [HUA.out] at HU
          have HJ := Lib.hid (fun W => join_any (updN 0 X) (updN 0 Y) Y.length W hsx hsy (by omega))
          rw [HJA.out] at HJ
          have HV := Lib.hid (fun W c' h => upd_any 0 (some ad) xs.length c' xs W (by omega) h (by omega))
          generalize updN 0 X = sx at *
          generalize updN 0 Y = sy at *
          generalize updN 0 xs = st at *
          go_wp2_with fail
          refine HU.out.mono ?_
          rintro e w8 ⟨rfl, hb8⟩
          have HB8 := Lib.hid (HB7.out.trans (hb8.mono HB7.out.size))
          have HR8 := Lib.hid (HR7.out.below hb8)
          clear hb8
          go_wp2_with fail
          refine (HJ.out _).mono ?_
          rintro e w9 ⟨rfl, hb9⟩
          have HB9 := Lib.hid (HB8.out.trans (hb9.mono HB8.out.size))
          have HR9 := Lib.hid (HR8.out.below hb9)
          clear hb9
          go_wp2_with fail
          refine (HV.out _ _ HR9.out).mono ?_
          rintro e w10 ⟨rfl, hb10⟩
          go_wp2_with fail
          go_ret
          exact ⟨by simp, HB9.out.trans (hb10.mono HB9.out.size)⟩
end Go.Proofs.Ytadnckkipppbcaa
