/- ledgerlaw5.FrameBack: the walk. -/
import Derived.Test.YtbjbpgbpefkbhaaKnown5
import Derived.Test.YtbjbpgbpefkbhaaUnpack
import Derived.Test.YtbjbpgbpefkbhaaSame
import Derived.BigQuiet
namespace Go.Proofs.Ytbjbpgbpefkbhaa
open Go.RowKit
theorem packed_bad {kind page : Int} {load : List Nat} (h : ¬ (KindOk kind ∧ PlaceOk page)) : (packN kind page load).1 = [] ∧ (packN kind page load).2 ≠ 0 := by
  by_cases hk : KindOk kind
  · rw [packN_place hk fun hp => h ⟨hk, hp⟩]; exact ⟨rfl, by omega⟩
  · rw [packN_kind hk]; exact ⟨rfl, by omega⟩
set_option maxHeartbeats 1000000 in
theorem frameBack_walk (kind page : Int) (A : Option Addr) (n c : Nat) (other : Int) (xs : List Nat) (w : World) (hx : RB w A n xs) (hnc : n ≤ c) (hn : n ≤ 140737488355328) :
    Calls Try.prog 6 #[.int .i64 kind, .int .i64 page, .slice A n c, .int .i64 other] w fun e w' => e = .returned (.bool true) ∧ Below w.heap.size w w' := by
  have HS := Lib.hid (short_any A n c 246 xs w hx hn (by omega) hnc)
  have hT : (xs.take 246).length ≤ 246 := by rw [List.length_take]; omega
  clear hx
  generalize xs.take 246 = t at *
  go_enter Try.func6, Try.ntmps6
  go_wp2_with fail
  refine HS.out.mono ?_
  rintro e w1 ⟨v1, rfl, hown1, hb1⟩
  have HB1 := Lib.hid hb1
  have HO1 := Lib.hid hown1
  clear HS hb1 hown1
  go_wp2_with fail
  refine (knownF_any w1).mono ?_
  rintro e w2 ⟨rfl, hb2⟩
  have HB2 := Lib.hid (HB1.out.trans (hb2.mono HB1.out.size))
  have hown2 := HO1.out.below hb2
  obtain ⟨A1, c1, rfl, hr2, _, hA1, hc1⟩ := hown2.form
  have HR2 := Lib.hid hr2
  clear HB1 HO1 hb2 hown2 hr2
  by_cases hkp : KindOk kind ∧ PlaceOk page
  · obtain ⟨hk, hp⟩ := hkp
    have HPK := Lib.hid (packN_ok hk hp hT)
    unfold KindOk at hk
    unfold PlaceOk at hp
    obtain ⟨kn, rfl⟩ := Int.eq_ofNat_of_zero_le (show 0 ≤ kind by omega)
    obtain ⟨pn, rfl⟩ := Int.eq_ofNat_of_zero_le (show 0 ≤ page by omega)
    simp only [Int.toNat_natCast] at HPK
    have HUK := Lib.hid (un_pack (kind := kn) (page := pn) (load := t) (by omega) (by unfold PlaceOk; omega) hT)
    have HUO := Lib.hid (fun (q : Int) hq => un_other (kind := kn) (page := pn) (load := t) (q := q) (by omega) (by omega) hT hq)
    have HPL := Lib.hid (pageN_length (kind := kn) (page := pn) hT)
    go_wp2_with fail
    refine (copied_any A1 t.length c1 t w2 HR2.out (by omega)).mono ?_
    rintro e w3 ⟨v3, rfl, hown3, hb3⟩
    have HB3 := Lib.hid (HB2.out.trans (hb3.mono HB2.out.size))
    have HR3 := Lib.hid (HR2.out.below hb3)
    obtain ⟨A3, c3, rfl, hr3, _, _, _⟩ := hown3.form
    have HS3 := Lib.hid hr3
    clear hb3 hown3 hr3 HB2 HR2
    go_wp2_with fail
    refine (pack_any (kn : Int) (pn : Int) A3 t.length c3 t w3 HS3.out (by omega)).mono ?_
    rintro e w4 ⟨⟨v4, rfl, hown4⟩, hb4⟩
    have HB4 := Lib.hid (HB3.out.trans (hb4.mono HB3.out.size))
    have HR4 := Lib.hid (HR3.out.below hb4)
    rw [HPK.out] at hown4 ⊢
    generalize pageN kn pn t = pg at *
    obtain ⟨A4, c4, rfl, hr4, _, _, hc4⟩ := hown4.form
    rw [HPL.out] at hr4 hc4 ⊢
    have HS4 := Lib.hid hr4
    clear hb4 hown4 hr4 HB3 HR3 HS3 HPK
    go_wp2_with fail
    refine (unpack_any (pn : Int) A4 256 c4 pg w4 HS4.out hc4 (by omega)).mono ?_
    rintro e w5 ⟨⟨v5, rfl, hown5⟩, hb5⟩
    have HB5 := Lib.hid (HB4.out.trans (hb5.mono HB4.out.size))
    have HR5 := Lib.hid (HR4.out.below hb5)
    have HS5 := Lib.hid (HS4.out.below hb5)
    rw [HUK.out] at hown5 ⊢
    obtain ⟨A5, c5, rfl, hr5, _, _, hc5⟩ := hown5.form
    have HT5 := Lib.hid hr5
    clear hb5 hown5 hr5 HB4 HR4 HS4 HUK
    go_wp2_with fail
    refine (same_true HR5.out HT5.out (by omega) rfl).mono ?_
    rintro e w6 ⟨rfl, q, hw6⟩
    have HB6 : Hid (Below w.heap.size w w6) := by rw [hw6]; exact drewN_below HB5.out q
    have HS6 : Hid (RB w6 A4 256 pg) := by rw [hw6]; exact HS5.out.below (drewN_below (Below.refl _ _) q)
    clear hw6 HB5 HS5 HR5 HT5
    by_cases ho : other = pn
    · subst ho
      go_wp2_with fail
      go_ret
      exact ⟨rfl, HB6.out⟩
    · have HU2 := Lib.hid (HUO.out other ho)
      clear HUO
      go_wp2_with fail
      refine (unpack_any other A4 256 c4 pg w6 HS6.out hc4 (by omega)).mono ?_
      rintro e w7 ⟨⟨v7, rfl, hown7⟩, hb7⟩
      have HB7 := Lib.hid (HB6.out.trans (hb7.mono HB6.out.size))
      rw [HU2.out] at hown7 ⊢
      obtain ⟨A7, c7, rfl, _⟩ := hown7.form
      simp only [List.length_nil]
      clear hown7 hb7 HB6 HU2
      go_wp2_with fail
      go_ret
      exact ⟨rfl, HB7.out⟩
  · have HBD := Lib.hid (packed_bad (load := t) hkp)
    have hkp' : ¬ (1 ≤ kind ∧ kind ≤ 3 ∧ 2 ≤ page ∧ page ≤ 4095) := fun h => hkp (by unfold KindOk PlaceOk; omega)
    clear hkp
    go_wp2_with fail
    all_goals
      refine (pack_any kind page A1 t.length c1 t w2 HR2.out (by omega)).mono ?_
      rintro e w3 ⟨⟨v3, rfl, hown3⟩, hb3⟩
      have HB3 := Lib.hid (HB2.out.trans (hb3.mono HB2.out.size))
      rw [HBD.out.1] at hown3
      obtain ⟨A3, c3, rfl, _⟩ := hown3.form
      have hne : (((packN kind page t).2 : Nat) : Int) ≠ 0 := by have := HBD.out.2; omega
      clear hown3 HBD hb3 hkp'
      generalize (packN kind page t).2 = er at *
      have hne' : ((er : Int) != 0) = true := by rw [bne_iff_ne]; exact hne
      simp only [List.length_nil]
      go_wp2_with fail
      go_ret
      exact ⟨rfl, HB3.out⟩
end Go.Proofs.Ytbjbpgbpefkbhaa
