/- ledgerlaw5.FrameBursts: the walk. -/
import Derived.Test.YtbjbpgbpefkbhaaPack
import Derived.Test.YtbjbpgbpefkbhaaUnpack
import Derived.Test.YtbjbpgbpefkbhaaTurned
import Derived.Test.YtbjbpgbpefkbhaaPairs
namespace Go.Proofs.Ytbjbpgbpefkbhaa
open Go.RowKit
theorem burst_page {kn pn : Nat} {t : List Nat} (hk : kn < 256) (hp : PlaceOk pn) (ht : t.length ≤ 246) (hB : IsB t) (k : Int) (hk2 : k < 2048) (pat : Nat) :
    (turnL (pageN kn pn t) k pat 2048 32).2 = 0 ∨ unpackN pn (turnL (pageN kn pn t) k pat 2048 32).1 = (0, [], 52) := by
  have hl := pageN_length (kind := kn) (page := pn) ht
  have e : turnL (pageN kn pn t) k pat 2048 32 = turnedTo (pageN kn pn t) k pat 32 := by
    have := turnL_all (pageN kn pn t) k pat 32
    rwa [hl] at this
  rw [e]
  rcases bursts_law (xs := pageN kn pn t) (pageN_isB hk ht hB) (by omega) (sealN_whole' _) k (by rw [hl]; exact hk2) pat with h | h
  · exact .inl h
  · exact .inr (un_sum hp (by rw [turnedTo_length, hl]) h)
set_option maxHeartbeats 2000000 in
theorem frameBursts_walk (kind page : Int) (A : Option Addr) (n c : Nat) (k : Int) (pat : Nat) (xs : List Nat) (w : World) (hx : RB w A n xs) (hnc : n ≤ c) (hn : n ≤ 140737488355328) (hp : pat < 4294967296) :
    Calls Try.prog 8 #[.int .i64 kind, .int .i64 page, .slice A n c, .int .i64 k, .int .u32 pat] w fun e w' => e = .returned (.bool true) ∧ Below w.heap.size w w' := by
  have hT : (xs.take 246).length ≤ 246 := by rw [List.length_take]; omega
  have hTB : IsB (xs.take 246) := hx.isB.take _
  have HX := Lib.hid hx
  clear hx
  go_enter Try.func8, Try.ntmps8
  go_wp2_with fail
  refine (whole_range kind 1 3 w (by omega) (by omega) (by omega)).mono ?_
  rintro e w0 ⟨⟨kr, rfl, hk1, hk2⟩, rfl⟩
  obtain ⟨kn, rfl⟩ := Int.eq_ofNat_of_zero_le (show 0 ≤ kr by omega)
  go_wp2_with fail
  refine (whole_range page 2 4095 w0 (by omega) (by omega) (by omega)).mono ?_
  rintro e w0 ⟨⟨pr, rfl, hp1, hp2⟩, rfl⟩
  obtain ⟨pn, rfl⟩ := Int.eq_ofNat_of_zero_le (show 0 ≤ pr by omega)
  have hPK := packN_ok (kind := kn) (page := pn) (by unfold KindOk; omega) (by unfold PlaceOk; omega) hT
  simp only [Int.toNat_natCast] at hPK
  have HPK := Lib.hid hPK
  have HPL := Lib.hid (pageN_length (kind := kn) (page := pn) hT)
  have HBU := Lib.hid (fun k hk => burst_page (kn := kn) (pn := pn) (t := xs.take 246) (by omega) (by unfold PlaceOk; omega) hT hTB k hk pat)
  clear hPK
  go_wp2_with fail
  refine (short_any A n c 246 xs w0 HX.out hn (by omega) hnc).mono ?_
  rintro e w1 ⟨v1, rfl, hown1, hb1⟩
  generalize xs.take 246 = t at *
  obtain ⟨A1, c1, rfl, hr1, _, _, _⟩ := hown1.form
  have HR1 := Lib.hid hr1
  have HB1 := Lib.hid hb1
  clear hb1 hown1 hr1 HX
  go_wp2_with fail
  refine (pack_any (kn : Int) (pn : Int) A1 t.length c1 t w1 HR1.out (by omega)).mono ?_
  rintro e w2 ⟨⟨v2, rfl, hown2⟩, hb2⟩
  have HB2 := Lib.hid (HB1.out.trans (hb2.mono HB1.out.size))
  rw [HPK.out] at hown2 ⊢
  generalize pageN kn pn t = pg at *
  obtain ⟨A2, c2, rfl, hr2, _, _, hc2⟩ := hown2.form
  rw [HPL.out] at hr2 hc2 ⊢
  have HR2 := Lib.hid hr2
  clear hb2 hown2 hr2 HB1 HR1 HPK
  have finish : ∀ (k' : Int), -31 ≤ k' → k' < 2048 → Hid (Calls Try.prog 17 #[.slice A2 256 c2, .int .i64 k', .int .u32 pat, .int .i64 2048] w2 fun e w' => IsTurned w2.heap.size pg k' pat 2048 e w' ∧ Below w2.heap.size w2 w') :=
    fun k' h1 h2 => turned_any A2 256 c2 k' pat 2048 pg w2 HR2.out (by omega) (by omega) (by omega) hp
  by_cases hk : -31 ≤ k ∧ k < 2048
  · obtain ⟨hk1, hk2⟩ := hk
    have HT := finish k hk1 hk2
    have HQ := Lib.hid (HBU.out k hk2)
    clear finish HBU
    go_wp2_with fail
    refine HT.out.mono ?_
    rintro e w3 ⟨⟨v3, rfl, hown3⟩, hb3⟩
    have HB3 := Lib.hid (HB2.out.trans (hb3.mono HB2.out.size))
    have hl3 := turnL_length pg k pat 2048 32
    rw [HPL.out] at hl3
    generalize (turnL pg k pat 2048 32).1 = u at *
    generalize (turnL pg k pat 2048 32).2 = m at *
    obtain ⟨A3, c3, rfl, hr3, _, _, hc3⟩ := hown3.form
    rw [hl3] at hr3 hc3 ⊢
    have HR3 := Lib.hid hr3
    clear hb3 hown3 hr3 hl3 HB2 HT HR2
    by_cases h0 : m = 0
    · subst h0
      go_wp2_with fail
      go_ret
      exact ⟨rfl, HB3.out⟩
    · have HU := Lib.hid (HQ.out.resolve_left h0)
      have ht : ((m : Int) == 0) = false := by rw [beq_eq_false_iff_ne]; omega
      clear h0 HQ
      go_wp2_with fail
      refine (unpack_any (pn : Int) A3 256 c3 u w3 HR3.out hc3 (by omega)).mono ?_
      rintro e w4 ⟨⟨v4, rfl, hown4⟩, hb4⟩
      have HB4 := Lib.hid (HB3.out.trans (hb4.mono HB3.out.size))
      rw [HU.out] at hown4 ⊢
      obtain ⟨A4, c4, rfl, _⟩ := hown4.form
      simp only [List.length_nil]
      clear hown4 hb4 HB3 HU
      go_wp2_with fail
      go_ret
      exact ⟨rfl, HB4.out⟩
  · have HT := finish 2000 (by omega) (by omega)
    have HQ := Lib.hid (HBU.out 2000 (by omega))
    clear finish HBU
    have hk' : k < -31 ∨ 2048 ≤ k := by omega
    clear hk
    go_wp2_with fail
    all_goals
      refine HT.out.mono ?_
      rintro e w3 ⟨⟨v3, rfl, hown3⟩, hb3⟩
      have HB3 := Lib.hid (HB2.out.trans (hb3.mono HB2.out.size))
      have hl3 := turnL_length pg 2000 pat 2048 32
      rw [HPL.out] at hl3
      generalize (turnL pg 2000 pat 2048 32).1 = u at *
      generalize (turnL pg 2000 pat 2048 32).2 = m at *
      obtain ⟨A3, c3, rfl, hr3, _, _, hc3⟩ := hown3.form
      rw [hl3] at hr3 hc3 ⊢
      have HR3 := Lib.hid hr3
      clear hb3 hown3 hr3 hl3 HB2 HT HR2
      by_cases h0 : m = 0
      · subst h0
        go_wp2_with fail
        go_ret
        exact ⟨rfl, HB3.out⟩
      · have HU := Lib.hid (HQ.out.resolve_left h0)
        have ht : ((m : Int) == 0) = false := by rw [beq_eq_false_iff_ne]; omega
        clear h0 HQ
        go_wp2_with fail
        refine (unpack_any (pn : Int) A3 256 c3 u w3 HR3.out hc3 (by omega)).mono ?_
        rintro e w4 ⟨⟨v4, rfl, hown4⟩, hb4⟩
        have HB4 := Lib.hid (HB3.out.trans (hb4.mono HB3.out.size))
        rw [HU.out] at hown4 ⊢
        obtain ⟨A4, c4, rfl, _⟩ := hown4.form
        simp only [List.length_nil]
        clear hown4 hb4 HB3 HU
        go_wp2_with fail
        go_ret
        exact ⟨rfl, HB4.out⟩
end Go.Proofs.Ytbjbpgbpefkbhaa
