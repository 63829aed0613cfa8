/- ledgerref5.UnpackSuper. -/
import Derived.Test.YtbjbpgbpefkbhaaDoorRefSuper
import Derived.Test.YtbjbpgbpefkbhaaDoorRefUnpack
import Derived.Test.YtbjbpgbpefkbhaaDoorUnpackSuper
namespace Go.Proofs.YtbjbpgbpefkbhaaDoor
open Go.RowKit
theorem take4_iff {xs : List Nat} (h : 4 ≤ xs.length) : xs.take 4 = [76, 68, 71, 49] ↔ xs.getD 0 0 = 76 ∧ xs.getD 1 0 = 68 ∧ xs.getD 2 0 = 71 ∧ xs.getD 3 0 = 49 := by
  rcases xs with _ | ⟨a, _ | ⟨b, _ | ⟨c, _ | ⟨d, r⟩⟩⟩⟩
  · simp at h
  · simp at h
  · simp at h
  · simp at h
  · simp
theorem cutZ_drop {xs : List Nat} {o n : Nat} (h : cutZ xs o n) (hl : o + n ≤ xs.length) {k : Nat} (hk : k < n) : xs.getD (o + k) 0 = 0 := by
  refine h _ ?_
  rw [show xs.getD (o + k) 0 = ((xs.drop o).take n).getD k 0 by simp [List.getD, hk]]
  exact getD_mem (by rw [List.length_take, List.length_drop]; omega)
/-- The fields as the document reads them. -/
def toldI (xs : List Nat) : Sup := ⟨xs.getD 4 0, readI ((xs.drop 8).take 8), readI ((xs.drop 16).take 4), readI ((xs.drop 20).take 4), readI ((xs.drop 24).take 4)⟩
theorem leVal_app (a b : List Nat) : leVal (a ++ b) = leVal a + 256 ^ a.length * leVal b := by
  induction a with
  | nil => simp [leVal]
  | cons x a ih =>
    rw [List.cons_append, leVal, leVal, ih, List.length_cons, Nat.pow_succ, Nat.mul_add, ← Nat.mul_assoc, Nat.mul_comm 256 (256 ^ a.length), Nat.add_assoc]
theorem told_same {xs : List Nat} (hB : IsB xs) (hl : xs.length = 256) : (toldI xs).Ok ↔ cutZ xs 15 1 ∧ (toldN xs).Ok := by
  have s4 : ∀ o, readI ((xs.drop o).take 4) = (cutV xs o 4 : Nat) := fun o => readI_small ((hB.drop o).take 4) (by rw [List.length_take]; omega)
  have e8 : (xs.drop 8).take 8 = (xs.drop 8).take 7 ++ [xs.getD 15 0] := by
    rw [take_succ_getD (xs := xs.drop 8) (k := 7) (by rw [List.length_drop]; omega)]
    simp [List.getD]
  have h7 : ((xs.drop 8).take 7).length = 7 := by simp [hl]
  have hv : leVal ((xs.drop 8).take 8) = cutV xs 8 7 + 72057594037927936 * xs.getD 15 0 := by
    rw [e8, leVal_app, h7]
    simp [leVal, cutV]
  have hd : leVal ((xs.drop 8).take 8) ≤ 255 + 256 * leVal (((xs.drop 8).take 8).drop 1) := by
    have h1 := leVal_step (xs := (xs.drop 8).take 8) (k := 0) (by simp [hl])
    have h2 : ((xs.drop 8).take 8).getD 0 0 < 256 := ((hB.drop 8).take 8) _ (getD_mem (by simp [hl]))
    rw [List.drop_zero, Nat.zero_add] at h1
    omega
  have hd2 : 256 * leVal (((xs.drop 8).take 8).drop 1) ≤ leVal ((xs.drop 8).take 8) := by
    have h1 := leVal_step (xs := (xs.drop 8).take 8) (k := 0) (by simp [hl])
    rw [List.drop_zero, Nat.zero_add] at h1
    omega
  have hz : cutZ xs 15 1 ↔ xs.getD 15 0 = 0 := by
    unfold cutZ
    rw [show (xs.drop 15).take 1 = [xs.getD 15 0] by rw [drop_getD (by omega)]; rfl]
    simp
  rw [hz]
  unfold toldI toldN
  rw [s4, s4, s4]
  unfold Sup.Ok
  dsimp only
  unfold readI
  by_cases hbig : 35184372088832 < leVal (((xs.drop 8).take 8).drop 1)
  · rw [if_pos hbig]
    omega
  · rw [if_neg hbig]
    omega
theorem told_eq {xs : List Nat} (hB : IsB xs) (hl : xs.length = 256) (h : (toldI xs).Ok) : toldI xs = toldN xs := by
  have hh := (told_same hB hl).1 h
  have s4 : ∀ o, readI ((xs.drop o).take 4) = (cutV xs o 4 : Nat) := fun o => readI_small ((hB.drop o).take 4) (by rw [List.length_take]; omega)
  have e8 : (xs.drop 8).take 8 = (xs.drop 8).take 7 ++ [xs.getD 15 0] := by
    rw [take_succ_getD (xs := xs.drop 8) (k := 7) (by rw [List.length_drop]; omega)]
    simp [List.getD]
  have hz : xs.getD 15 0 = 0 := cutZ_drop (o := 15) (k := 0) hh.1 (by omega) (by omega)
  have hv : leVal ((xs.drop 8).take 8) = cutV xs 8 7 := by
    rw [e8, leVal_app, hz]
    simp [leVal, cutV]
  have hr : readI ((xs.drop 8).take 8) = (cutV xs 8 7 : Nat) := by
    have h0 : 0 ≤ readI ((xs.drop 8).take 8) := h.2.1.1
    unfold readI at h0 ⊢
    split
    · rename_i hb
      rw [if_pos hb] at h0
      omega
    · rw [hv]
  unfold toldI toldN
  rw [s4, s4, s4, hr]
theorem read_call {xs : List Nat} (c : Nat) : ∃ F : Int → Int → Int, (∀ o k, F o k = readI ((xs.drop o.toNat).take k.toNat)) ∧ ∀ (A : Option Addr) (w : World) (oi k : Int), RB w A 256 xs → 0 ≤ oi → 1 ≤ k → oi + k ≤ 256 →
    Calls Tryd.prog 55 #[.slice A 256 c, .int .i64 oi, .int .i64 k] w fun e w' => e = .returned (.int .i64 (F oi k)) ∧ w' = w := by
  refine ⟨fun o k => readI ((xs.drop o.toNat).take k.toNat), fun _ _ => rfl, fun A w oi k hb h0 h1 h2 => ?_⟩
  obtain ⟨n, rfl⟩ := Int.eq_ofNat_of_zero_le (show 0 ≤ k by omega)
  obtain ⟨o, rfl⟩ := Int.eq_ofNat_of_zero_le h0
  exact read_any A 256 c o n xs w hb (by omega) (by omega) (by omega)
theorem ref_bad {xs : List Nat} (hB : IsB xs) (hl : xs.length = 256) (hw : wholeN (xs.take 64) = true) (h4 : xs.take 4 = [76, 68, 71, 49]) (h5 : cutZ xs 5 3) (h28 : cutZ xs 28 32) (h : ¬ (toldI xs).Ok) : unsupN xs = (Sup.zero, 53) := by
  by_cases h15 : cutZ xs 15 1
  · exact us_bad hl hw ⟨h4, h5, h28, h15⟩ fun k => h ((told_same hB hl).2 ⟨h15, k⟩)
  · exact us_form hl hw fun k => h15 k.2.2.2
theorem ref_good {xs : List Nat} (hB : IsB xs) (hl : xs.length = 256) (hw : wholeN (xs.take 64) = true) (h4 : xs.take 4 = [76, 68, 71, 49]) (h5 : cutZ xs 5 3) (h28 : cutZ xs 28 32) (h : (toldI xs).Ok) : unsupN xs = (toldI xs, 0) := by
  have hh := (told_same hB hl).1 h
  rw [told_eq hB hl h]
  exact us_ok hl hw ⟨h4, h5, h28, hh.1⟩ hh.2
set_option maxHeartbeats 1000000 in
theorem refUnpackSuper_any (A : Option Addr) (n c : Nat) (xs : List Nat) (w : World) (hx : RB w A n xs) (hnc : n ≤ c) (hn : n ≤ 140737488351232) (hd : DivT w) :
    Calls Tryd.prog 35 #[.slice A n c] w fun e w' => UnpackedS xs e ∧ Below w.heap.size w w' := by
  have hlen := hx.1
  have hB := hx.isB
  have HSB0 : Hid (BlkIs (w.alloc (.cells #[.int .i64 0, .int .i64 0, .int .i64 0, .int .i64 0, .int .i64 0] 23)) w.heap.size 23 (supA 0 0 0 0 0)) := BlkIs.new w _ _
  have HX := Lib.hid (hx.alloc (.cells #[.int .i64 0, .int .i64 0, .int .i64 0, .int .i64 0, .int .i64 0] 23))
  have HB0 := Lib.hid ((Below.refl w.heap.size w).alloc (Nat.le_refl _) (.cells #[.int .i64 0, .int .i64 0, .int .i64 0, .int .i64 0, .int .i64 0] 23))
  have HD := Lib.hid (hd.below HB0.out)
  clear hx hd
  by_cases hl : n = 256
  · subst hl
    have HL := Lib.hid hlen
    have HW := Lib.hid (refwhole_any A 64 c (xs.take 64) _ (HX.out.take (by omega)) (by omega) (by omega) HD.out)
    clear hlen
    go_enter Tryd.func35, Tryd.ntmps35
    go_wp2_with fail
    refine HW.out.mono ?_
    rintro e w1 ⟨rfl, hb1⟩
    have HB1 := Lib.hid (HB0.out.trans (hb1.mono (by simp)))
    have HX1 := Lib.hid (HX.out.below hb1)
    have HSB1 := Lib.hid (HSB0.out.below hb1)
    have hs := sup_at HSB1.out
    have hf := sup_froz HSB1.out
    clear hb1 HW HB0 HX HSB0 HD
    cases hw : wholeN (xs.take 64)
    · have HR := Lib.hid (us_sum HL.out hw)
      clear hw
      go_wp2_with fail
      (try simp only [Exit.inBlock, Exit.then])
      refine sup_ret (w := sup5 w1 w.heap.size 0 0 0 0 0) rfl rfl (sup5_is HSB1.out) rfl rfl ?_
      exact ⟨unpackedS_bad HR.out, sup5_below HB1.out (Nat.le_refl _)⟩
    · have HWT := Lib.hid hw
      obtain ⟨ad, rfl, hb, hc0⟩ := HX1.out.at_ (show 0 < 256 by omega)
      obtain ⟨_, e1, _, hc1⟩ := HX1.out.at_ (show 1 < 256 by omega)
      obtain ⟨_, e2, _, hc2⟩ := HX1.out.at_ (show 2 < 256 by omega)
      obtain ⟨_, e3, _, hc3⟩ := HX1.out.at_ (show 3 < 256 by omega)
      obtain ⟨_, e4, _, hc4⟩ := HX1.out.at_ (show 4 < 256 by omega)
      injection e1 with e1; subst e1
      injection e2 with e2; subst e2
      injection e3 with e3; subst e3
      injection e4 with e4; subst e4
      rw [add_zero'] at hc0
      replace hc1 := cell_add (by omega) hc1
      replace hc2 := cell_add (by omega) hc2
      replace hc3 := cell_add (by omega) hc3
      replace hc4 := cell_add (by omega) hc4
      have HT4 := Lib.hid (take4_iff (xs := xs) (by rw [HL.out]; omega))
      have hx4 := HX1.out.lt (show 4 < 256 by omega)
      have HTI : Hid (∀ F : Int → Int → Int, (∀ o k, F o k = readI ((xs.drop o.toNat).take k.toNat)) → toldI xs = ⟨(xs.getD 4 0 : Nat), F 8 8, F 16 4, F 20 4, F 24 4⟩) := fun F hF => by
        rw [hF, hF, hF, hF]
        rfl
      have HIB := Lib.hid hB
      clear hw hB
      generalize xs.getD 0 0 = b0 at *
      generalize xs.getD 1 0 = b1 at *
      generalize xs.getD 2 0 = b2 at *
      generalize xs.getD 3 0 = b3 at *
      generalize xs.getD 4 0 = f4 at *
      by_cases q0 : b0 = 76
      rotate_left
      · have HBAD : Hid (unsupN xs = (Sup.zero, 53)) := us_form HL.out HWT.out fun h => q0 (HT4.out.1 h.1).1
        have hne : ((b0 : Int) != 76) = true := by rw [bne_iff_ne]; omega
        clear q0
        go_wp2_with fail
        (try simp only [Exit.inBlock, Exit.then])
        refine sup_ret (w := sup5 w1 w.heap.size 0 0 0 0 0) rfl rfl (sup5_is HSB1.out) rfl rfl ?_
        exact ⟨unpackedS_bad HBAD.out, sup5_below HB1.out (Nat.le_refl _)⟩
      subst q0
      by_cases q1 : b1 = 68
      rotate_left
      · have HBAD : Hid (unsupN xs = (Sup.zero, 53)) := us_form HL.out HWT.out fun h => q1 (HT4.out.1 h.1).2.1
        have hne : ((b1 : Int) != 68) = true := by rw [bne_iff_ne]; omega
        clear q1
        go_wp2_with fail
        (try simp only [Exit.inBlock, Exit.then])
        refine sup_ret (w := sup5 w1 w.heap.size 0 0 0 0 0) rfl rfl (sup5_is HSB1.out) rfl rfl ?_
        exact ⟨unpackedS_bad HBAD.out, sup5_below HB1.out (Nat.le_refl _)⟩
      subst q1
      by_cases q2 : b2 = 71
      rotate_left
      · have HBAD : Hid (unsupN xs = (Sup.zero, 53)) := us_form HL.out HWT.out fun h => q2 (HT4.out.1 h.1).2.2.1
        have hne : ((b2 : Int) != 71) = true := by rw [bne_iff_ne]; omega
        clear q2
        go_wp2_with fail
        (try simp only [Exit.inBlock, Exit.then])
        refine sup_ret (w := sup5 w1 w.heap.size 0 0 0 0 0) rfl rfl (sup5_is HSB1.out) rfl rfl ?_
        exact ⟨unpackedS_bad HBAD.out, sup5_below HB1.out (Nat.le_refl _)⟩
      subst q2
      by_cases q3 : b3 = 49
      rotate_left
      · have HBAD : Hid (unsupN xs = (Sup.zero, 53)) := us_form HL.out HWT.out fun h => q3 (HT4.out.1 h.1).2.2.2
        have hne : ((b3 : Int) != 49) = true := by rw [bne_iff_ne]; omega
        clear q3
        go_wp2_with fail
        (try simp only [Exit.inBlock, Exit.then])
        refine sup_ret (w := sup5 w1 w.heap.size 0 0 0 0 0) rfl rfl (sup5_is HSB1.out) rfl rfl ?_
        exact ⟨unpackedS_bad HBAD.out, sup5_below HB1.out (Nat.le_refl _)⟩
      subst q3
      have HT5 : Hid (xs.take 4 = [76, 68, 71, 49]) := HT4.out.2 ⟨rfl, rfl, rfl, rfl⟩
      clear HT4
      go_wp2_with fail
      have hzz := zeros_any (some ad) 256 c 5 8 xs w1 HX1.out (by omega) (by omega) (by omega)
      refine hzz.mono ?_
      clear hzz
      rintro e wz ⟨rfl, hwz⟩
      rw [hwz]
      clear hwz
      rw [show (8 - 5 : Nat) = 3 from rfl]
      cases hz1 : allZ ((xs.drop 5).take 3)
      · have HBAD : Hid (unsupN xs = (Sup.zero, 53)) := us_form HL.out HWT.out fun h => by
          have := cutZ_bool.2 h.2.1
          rw [hz1] at this
          cases this
        clear hz1
        go_wp2_with fail
        (try simp only [Exit.inBlock, Exit.then])
        refine sup_ret (w := sup5 w1 w.heap.size 0 0 0 0 0) rfl rfl (sup5_is HSB1.out) rfl rfl ?_
        exact ⟨unpackedS_bad HBAD.out, sup5_below HB1.out (Nat.le_refl _)⟩
      have HZ1 := Lib.hid (cutZ_bool.1 hz1)
      clear hz1
      go_wp2_with fail
      have hzz := zeros_any (some ad) 256 c 28 60 xs w1 HX1.out (by omega) (by omega) (by omega)
      refine hzz.mono ?_
      clear hzz
      rintro e wz ⟨rfl, hwz⟩
      rw [hwz]
      clear hwz
      rw [show (60 - 28 : Nat) = 32 from rfl]
      cases hz2 : allZ ((xs.drop 28).take 32)
      · have HBAD : Hid (unsupN xs = (Sup.zero, 53)) := us_form HL.out HWT.out fun h => by
          have := cutZ_bool.2 h.2.2.1
          rw [hz2] at this
          cases this
        clear hz2
        go_wp2_with fail
        (try simp only [Exit.inBlock, Exit.then])
        refine sup_ret (w := sup5 w1 w.heap.size 0 0 0 0 0) rfl rfl (sup5_is HSB1.out) rfl rfl ?_
        exact ⟨unpackedS_bad HBAD.out, sup5_below HB1.out (Nat.le_refl _)⟩
      have HZ2 := Lib.hid (cutZ_bool.1 hz2)
      clear hz2
      go_wp2_with fail
      clear hs hf hc0 hc1 hc2 hc3
      obtain ⟨F, hF, hCG⟩ := read_call (xs := xs) c
      have HTO := Lib.hid (HTI.out F hF)
      have HCG := Lib.hid hCG
      clear hF hCG HTI
      rename_i KK hKK
      have HKK := Lib.hid hKK
      clear hKK
      go_region_held3 (fun w' => w'.cell? ⟨ad.block, ad.off + 4, none⟩ = some (.int .u8 (f4 : Int))) (first | exact hc4 | exact cell_alloc4 _ hc4) (first
        | (go_at_call 55; refine (HCG.out _ _ _ _ (by first | exact HX1.out | exact HX1.out.alloc _) (by omega) (by omega) (by omega)).mono ?_; rintro e w' ⟨rfl, rfl⟩))
      all_goals
        change KK _ _
        refine HKK.out _ _ ?_
        clear HKK
        have hwr : IntKind.i64.wrap (f4 : Int) = f4 := by rw [IntKind.wrap_i64]; omega
        simp only [hwr]
        have hend := sup_end (w0 := w) (w2 := w1) HB1.out HSB1.out (f4 : Int) (F 8 8) (F 16 4) (F 20 4) (F 24 4)
        have HB3 := Lib.hid hend.1
        have HSB3 := Lib.hid hend.2.1
        have HLS3 := Lib.hid hend.2.2
        have hgs : w.heap.size < w1.heap.size := BlkIs.lt HSB1.out
        clear hend hwr HSB1 HB1 hc4
        generalize (w1.alloc (.cells #[.int .i64 (f4 : Int), .int .i64 (F 8 8), .int .i64 (F 16 4), .int .i64 (F 20 4), .int .i64 (F 24 4)] 23)).drew = w3 at *
        generalize w1.heap.size = gs at *
        generalize F 8 8 = f8 at *
        generalize F 16 4 = f16 at *
        generalize F 20 4 = f20 at *
        generalize F 24 4 = f24 at *
        have HV : Hid (∀ w, Calls Tryd.prog 29 #[.agg #[.int .i64 f4, .int .i64 f8, .int .i64 f16, .int .i64 f20, .int .i64 f24]] w fun e w' => e = .returned (.bool (decide (Sup.Ok ⟨f4, f8, f16, f20, f24⟩))) ∧ Below w.heap.size w w') := refValid_any ⟨f4, f8, f16, f20, f24⟩
        rw [← HTO.out] at HV
        have hl3 := sup_at HLS3.out
        go_wp2_with fail
        refine (HV.out _).mono ?_
        rintro e w4 ⟨rfl, hb4⟩
        have HB4 := Lib.hid (HB3.out.trans (hb4.mono HB3.out.size))
        have HSB4 := Lib.hid (BlkIs.below HSB3.out hb4)
        have hl4 := sup_at (BlkIs.below HLS3.out hb4)
        have hs4 := sup_at HSB4.out
        have hf4 := sup_froz HSB4.out
        clear hl3 hb4 HV
        cases hok : decide (toldI xs).Ok
        · have HBAD := Lib.hid (ref_bad HIB.out HL.out HWT.out HT5.out HZ1.out HZ2.out (of_decide_eq_false hok))
          clear hok
          go_wp2_with fail
          (try simp only [Exit.inBlock, Exit.then])
          refine sup_ret (w := sup5 w4 w.heap.size 0 0 0 0 0) rfl rfl (sup5_is HSB4.out) rfl rfl ?_
          exact ⟨unpackedS_bad HBAD.out, sup5_below HB4.out (Nat.le_refl _)⟩
        · have HGOOD := Lib.hid (ref_good HIB.out HL.out HWT.out HT5.out HZ1.out HZ2.out (of_decide_eq_true hok))
          clear hok
          go_wp2_with fail
          (try simp only [Exit.inBlock, Exit.then])
          refine sup_ret (w := sup5 w4 w.heap.size f4 f8 f16 f20 f24) rfl rfl (sup5_is HSB4.out) rfl rfl ?_
          exact ⟨unpackedS_good HGOOD.out HTO.out, sup5_below HB4.out (Nat.le_refl _)⟩
  · have HR := Lib.hid (us_len (xs := xs) (by omega))
    have hne : ((n : Int) != 256) = true := by rw [bne_iff_ne]; omega
    clear hl hlen
    go_enter Tryd.func35, Tryd.ntmps35
    go_wp2_with fail
    (try simp only [Exit.inBlock, Exit.then])
    refine sup_ret rfl rfl HSB0.out rfl rfl ?_
    exact ⟨unpackedS_bad HR.out, HB0.out⟩
end Go.Proofs.YtbjbpgbpefkbhaaDoor
