/- ledgerlaw2.CrcBursts: the walk. -/
import Derived.Test.YtadnckkipppbcaaLib2
import Derived.Test.YtadnckkipppbcaaTurned
import Derived.Test.YtadnckkipppbcaaSeal
import Derived.Test.YtadnckkipppbcaaWhole
import Derived.Test.YtadnckkipppbcaaPairs
namespace Go.Proofs.Ytadnckkipppbcaa
open Go.RowKit
set_option maxHeartbeats 1000000 in
theorem bursts_walk (A : Option Addr) (n c : Nat) (k : Int) (pat : Nat) (xs : List Nat) (w : World) (hx : RB w A n xs) (hn : n ≤ 140737488355328) (hp : pat < 4294967296) :
    Calls Try.prog 4 #[.slice A n c, .int .i64 k, .int .u32 pat] w fun e w' => e = .returned (.bool true) ∧ Below w.heap.size w w' := by
  have HS := Lib.hid (short_any A n c 19996 xs w hx hn)
  have hT : (xs.take (19996 : Int).toNat).length ≤ 19996 := by rw [List.length_take]; omega
  have hTB : IsB (xs.take (19996 : Int).toNat) := hx.isB.take _
  clear hx
  generalize xs.take (19996 : Int).toNat = t at *
  have hw := sealN_whole t
  have hls := sealN_length t
  have hSB : IsB (sealN t) := sealN_isB hTB
  have HP := Lib.hid (fun k hk => bursts_law (xs := sealN t) hSB (by omega) hw k hk pat)
  go_enter Try.func4, Try.ntmps4
  go_wp2_with fail
  refine HS.out.mono ?_
  rintro e w1 ⟨v1, rfl, hown1, hb1⟩
  obtain ⟨A1, c1, rfl, hr1, _, hA1, hc1⟩ := hown1.form
  have HQ := Lib.hid (seal_any A1 t.length c1 t w1 hr1 hA1 (by omega))
  clear hown1 hr1 hA1 hc1 HS
  generalize sealN t = s at *
  have hne : ((s.length : Int) != (t.length : Int) + 4) = false := by rw [bne_eq_false_iff_eq, hls]; simp
  have hsl : s.length ≤ 20000 := by omega
  have hst : t.length + 4 ≤ s.length := by omega
  have hst' : s.length ≤ t.length + 4 := by omega
  have HW := Lib.hid hw
  clear hls hw
  go_wp2_with fail
  refine HQ.out.mono ?_
  rintro e w2 ⟨v2, rfl, hown2, hb2⟩
  obtain ⟨A2, c2, rfl, hr2, _, hA2, hc2⟩ := hown2.form
  have HV := Lib.hid (whole_true hr2 hc2 (by omega) HW.out)
  have HB2 := Lib.hid (hb1.trans (hb2.mono hb1.size))
  have HO2 := Lib.hid hown2
  clear hb1 hb2 hown2 hr2 hA2 HQ
  go_wp2_with fail
  refine HV.out.mono ?_
  rintro e w3 ⟨rfl, hb3⟩
  have HR3 : Hid (RB w3 A2 s.length s) := (HO2.out.below hb3).reads
  have HB3 := Lib.hid (HB2.out.trans (hb3.mono HB2.out.size))
  clear hb3 HO2 HB2 HV
  by_cases h1 : k < -31
  · go_wp2_with fail
    refine (turned_any A2 s.length c2 (8 * (t.length : Int) - 16) pat s w3 HR3.out (by omega) (by omega) (by omega) hp).mono ?_
    rintro e w4 ⟨⟨v4, rfl, hown4⟩, hb4⟩
    have HP2 := Lib.hid (HP.out (8 * (t.length : Int) - 16) (by omega))
    have HB4 := Lib.hid (HB3.out.trans (hb4.mono HB3.out.size))
    have hl4 := turnedTo_length s (8 * (t.length : Int) - 16) pat 32
    obtain ⟨A4, c4, rfl, hr4, _, hA4, hc4⟩ := hown4.form
    rw [hl4] at hr4 hc4
    by_cases h0 : (turnedTo s (8 * (t.length : Int) - 16) pat 32).2 = 0
    · have ht : (((turnedTo s (8 * (t.length : Int) - 16) pat 32).2 : Nat) : Int) = 0 := by rw [h0]; rfl
      clear h0 hown4 hr4 hl4 hc4 hA4
      generalize (turnedTo s (8 * (t.length : Int) - 16) pat 32).2 = m at *
      go_wp2_with fail
      go_ret
      exact ⟨rfl, HB4.out⟩
    · have HZ := Lib.hid (whole_false hr4 hc4 (by omega) (HP2.out.resolve_left h0))
      have ht : ((((turnedTo s (8 * (t.length : Int) - 16) pat 32).2 : Nat) : Int) == 0) = false := by rw [beq_eq_false_iff_ne]; omega
      have HL := Lib.hid hl4
      clear h0 hown4 hr4 hl4 hc4 hA4
      generalize (turnedTo s (8 * (t.length : Int) - 16) pat 32).2 = m at *
      go_wp2_with fail
      rw [HL.out]
      refine HZ.out.mono ?_
      rintro e w5 ⟨rfl, hb5⟩
      go_wp2_with fail
      go_ret
      exact ⟨rfl, HB4.out.trans (hb5.mono HB4.out.size)⟩
  · by_cases h2 : 8 * (s.length : Int) ≤ k
    · go_wp2_with fail
      refine (turned_any A2 s.length c2 (8 * (t.length : Int) - 16) pat s w3 HR3.out (by omega) (by omega) (by omega) hp).mono ?_
      rintro e w4 ⟨⟨v4, rfl, hown4⟩, hb4⟩
      have HP2 := Lib.hid (HP.out (8 * (t.length : Int) - 16) (by omega))
      have HB4 := Lib.hid (HB3.out.trans (hb4.mono HB3.out.size))
      have hl4 := turnedTo_length s (8 * (t.length : Int) - 16) pat 32
      obtain ⟨A4, c4, rfl, hr4, _, hA4, hc4⟩ := hown4.form
      rw [hl4] at hr4 hc4
      by_cases h0 : (turnedTo s (8 * (t.length : Int) - 16) pat 32).2 = 0
      · have ht : (((turnedTo s (8 * (t.length : Int) - 16) pat 32).2 : Nat) : Int) = 0 := by rw [h0]; rfl
        clear h0 hown4 hr4 hl4 hc4 hA4
        generalize (turnedTo s (8 * (t.length : Int) - 16) pat 32).2 = m at *
        go_wp2_with fail
        go_ret
        exact ⟨rfl, HB4.out⟩
      · have HZ := Lib.hid (whole_false hr4 hc4 (by omega) (HP2.out.resolve_left h0))
        have ht : ((((turnedTo s (8 * (t.length : Int) - 16) pat 32).2 : Nat) : Int) == 0) = false := by rw [beq_eq_false_iff_ne]; omega
        have HL := Lib.hid hl4
        clear h0 hown4 hr4 hl4 hc4 hA4
        generalize (turnedTo s (8 * (t.length : Int) - 16) pat 32).2 = m at *
        go_wp2_with fail
        rw [HL.out]
        refine HZ.out.mono ?_
        rintro e w5 ⟨rfl, hb5⟩
        go_wp2_with fail
        go_ret
        exact ⟨rfl, HB4.out.trans (hb5.mono HB4.out.size)⟩
    · go_wp2_with fail
      refine (turned_any A2 s.length c2 (k) pat s w3 HR3.out (by omega) (by omega) (by omega) hp).mono ?_
      rintro e w4 ⟨⟨v4, rfl, hown4⟩, hb4⟩
      have HP2 := Lib.hid (HP.out (k) (by omega))
      have HB4 := Lib.hid (HB3.out.trans (hb4.mono HB3.out.size))
      have hl4 := turnedTo_length s (k) pat 32
      obtain ⟨A4, c4, rfl, hr4, _, hA4, hc4⟩ := hown4.form
      rw [hl4] at hr4 hc4
      by_cases h0 : (turnedTo s (k) pat 32).2 = 0
      · have ht : (((turnedTo s (k) pat 32).2 : Nat) : Int) = 0 := by rw [h0]; rfl
        clear h0 hown4 hr4 hl4 hc4 hA4
        generalize (turnedTo s (k) pat 32).2 = m at *
        go_wp2_with fail
        go_ret
        exact ⟨rfl, HB4.out⟩
      · have HZ := Lib.hid (whole_false hr4 hc4 (by omega) (HP2.out.resolve_left h0))
        have ht : ((((turnedTo s (k) pat 32).2 : Nat) : Int) == 0) = false := by rw [beq_eq_false_iff_ne]; omega
        have HL := Lib.hid hl4
        clear h0 hown4 hr4 hl4 hc4 hA4
        generalize (turnedTo s (k) pat 32).2 = m at *
        go_wp2_with fail
        rw [HL.out]
        refine HZ.out.mono ?_
        rintro e w5 ⟨rfl, hb5⟩
        go_wp2_with fail
        go_ret
        exact ⟨rfl, HB4.out.trans (hb5.mono HB4.out.size)⟩
end Go.Proofs.Ytadnckkipppbcaa
