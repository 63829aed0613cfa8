/- ledgerref5.Unpack. -/
import Derived.Test.YtbjbpgbpefkbhaaDoorRefPack
import Derived.Test.YtbjbpgbpefkbhaaDoorUnpack
namespace Go.Proofs.YtbjbpgbpefkbhaaDoor
open Go.RowKit
theorem readI_small {ys : List Nat} (hB : IsB ys) (h : ys.length ≤ 6) : readI ys = (leVal ys : Nat) := by
  unfold readI
  refine if_neg ?_
  have h1 := leVal_lt (hB.drop 1)
  have h2 : 256 ^ (ys.drop 1).length ≤ 256 ^ 5 := Nat.pow_le_pow_right (by omega) (by rw [List.length_drop]; omega)
  omega
set_option maxHeartbeats 1000000 in
theorem refUnpack_any (page : Int) (A : Option Addr) (n c : Nat) (xs : List Nat) (w : World) (hx : RB w A n xs) (hnc : n ≤ c) (hn : n ≤ 140737488351232) (hd : DivT w) :
    Calls Tryd.prog 37 #[.int .i64 page, .slice A n c] w fun e w' => Unpacked w.heap.size page xs e w' ∧ Below w.heap.size w w' := by
  have HX := Lib.hid hx
  have HW := Lib.hid (fun h : n ≤ 4096 => refwhole_any A n c xs w hx hnc (by omega) hd)
  have hlen := hx.1
  have hB := hx.isB
  clear hx hd
  by_cases hp : PlaceOk page
  · have HPO := Lib.hid hp
    unfold PlaceOk at hp
    by_cases hl : n = 256
    · subst hl
      go_enter Tryd.func37, Tryd.ntmps37
      go_wp2_with fail
      refine (HW.out (by decide)).mono ?_
      rintro e w1 ⟨rfl, hb1⟩
      have HB1 := Lib.hid hb1
      have HX1 := Lib.hid (HX.out.below hb1)
      clear hb1 HW HX
      cases hw : wholeN xs
      · have HR := Lib.hid (un_sum HPO.out hlen hw)
        clear hw hlen
        go_wp2_with fail
        go_ret3
        exact ⟨unpacked_bad HR.out, HB1.out⟩
      · have HWT := Lib.hid hw
        have HL := Lib.hid hlen
        obtain ⟨ad, rfl, hb, hc0⟩ := HX1.out.at_ (show 0 < 256 by omega)
        obtain ⟨_, e1, _, hc1⟩ := HX1.out.at_ (show 1 < 256 by omega)
        injection e1 with e1
        subst e1
        replace hc1 := cell_add (by omega) hc1
        rw [add_zero'] at hc0
        have hk8 := HX1.out.lt (show 0 < 256 by omega)
        have hn8 := HX1.out.lt (show 1 < 256 by omega)
        have HF := Lib.hid (fields_of HPO.out HL.out HWT.out)
        have HRD : Hid (readI ((xs.drop 2).take 4) = (numN xs : Nat)) := readI_small ((hB.drop 2).take 4) (by rw [List.length_take]; omega)
        have HG := read_any (some ad) 256 c 2 4 xs w1 HX1.out (by omega) (by omega) (by omega)
        rw [HRD.out] at HG
        have HG' := Lib.hid HG
        clear hw hlen HG hB
        generalize xs.getD 0 0 = kb at *
        generalize xs.getD 1 0 = nb at *
        by_cases hk : 1 ≤ (kb : Int) ∧ (kb : Int) ≤ 3
        · have HKO : Hid (KindOk kb) := hk
          by_cases h246 : nb ≤ 246
          · go_wp2_with fail
            refine HG'.out.mono ?_
            rintro e w2 ⟨rfl, hw2⟩
            rw [hw2]
            clear hw2 HG' hc0 hc1
            by_cases hq : (numN xs : Int) = page
            · have HZ := Lib.hid (And.intro (HF.out.2.2.2.1 HKO.out h246 hq) (HF.out.2.2.2.2 HKO.out h246 hq))
              have hq' : ((numN xs : Int) != page) = false := by rw [hq]; simp
              clear hq
              generalize numN xs = q at *
              go_wp2_with fail
              have hzz := zeros_any (some ad) 256 c (6 + nb) 252 xs w1 HX1.out (by omega) (by omega) (by omega)
              rw [show ((6 + nb : Nat) : Int) = 6 + (nb : Int) by omega] at hzz
              refine hzz.mono ?_
              clear hzz
              rintro e w3 ⟨rfl, hw3⟩
              rw [hw3]
              clear hw3
              cases hz : allZ ((xs.drop (6 + nb)).take (252 - (6 + nb)))
              · have HR := Lib.hid (HZ.out.1 hz)
                clear hz
                go_wp2_with fail
                go_ret3
                exact ⟨unpacked_bad HR.out, HB1.out⟩
              · have HR := Lib.hid (HZ.out.2 hz)
                have HC := Lib.hid (rb_cut HX1.out (k := 6) (m := nb) (by omega) (by omega))
                clear hz
                go_wp2_with fail
                have hff := filled_any (some ⟨ad.block, ad.off + 6, none⟩) nb (c - 6) nb _ w1 HC.out (by omega)
                rw [filN_self HC.out.1] at hff
                first
                  | refine hff.mono ?_
                  | (rw [Nat.add_sub_cancel_left]; refine hff.mono ?_)
                clear hff
                rintro e w4 ⟨v4, rfl, hown4, hb4⟩
                have HO4 := Lib.hid (hown4.mono HB1.out.size)
                have HB4 := Lib.hid (HB1.out.trans (hb4.mono HB1.out.size))
                clear hown4 hb4
                go_wp2_with fail
                go_ret3
                exact ⟨unpacked_good HR.out (by simpa using HO4.out), HB4.out⟩
            · have HR := Lib.hid (HF.out.2.2.1 HKO.out h246 hq)
              have hq' : ((numN xs : Int) != page) = true := by rw [bne_iff_ne]; exact hq
              clear hq
              generalize numN xs = q at *
              go_wp2_with fail
              go_ret3
              exact ⟨unpacked_bad HR.out, HB1.out⟩
          · have HR := Lib.hid (HF.out.2.1 HKO.out (by omega))
            go_wp2_with fail
            go_ret3
            exact ⟨unpacked_bad HR.out, HB1.out⟩
        · have HR := Lib.hid (HF.out.1 hk)
          have hk' : (kb : Int) < 1 ∨ 3 < (kb : Int) := by omega
          clear hk
          go_wp2_with fail
          all_goals
            go_ret3
            exact ⟨unpacked_bad HR.out, HB1.out⟩
    · have HR := Lib.hid ((un_len_any (page := page) (xs := xs) (by omega)).2 HPO.out)
      have hne : ((n : Int) != 256) = true := by rw [bne_iff_ne]; omega
      clear hl hlen
      go_enter Tryd.func37, Tryd.ntmps37
      go_wp2_with fail
      go_ret3
      exact ⟨unpacked_bad HR.out, Below.refl _ _⟩
  · have HR := Lib.hid (un_place (xs := xs) hp)
    have hp' : page < 2 ∨ 4096 ≤ page := by unfold PlaceOk at hp; omega
    clear hp hlen
    go_enter Tryd.func37, Tryd.ntmps37
    go_wp2_with fail
    all_goals
      go_ret3
      exact ⟨unpacked_bad HR.out, Below.refl _ _⟩
end Go.Proofs.YtbjbpgbpefkbhaaDoor
