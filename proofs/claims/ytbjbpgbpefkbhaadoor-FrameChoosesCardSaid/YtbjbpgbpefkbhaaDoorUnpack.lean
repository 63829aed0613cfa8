/- frame.Unpack. -/
import Derived.Test.YtbjbpgbpefkbhaaDoorLow
import Derived.Test.YtbjbpgbpefkbhaaDoorWhole
import Derived.Deep.QuietTactic
namespace Go.Proofs.YtbjbpgbpefkbhaaDoor
open Go.RowKit
def Unpacked (base : Nat) (page : Int) (xs : List Nat) (e : Ending) (w' : World) : Prop :=
  ∃ v, e = .returned (.tuple #[.int .i64 ((unpackN page xs).1 : Nat), v, .int .i64 ((unpackN page xs).2.2 : Nat)]) ∧ OwnU w' base v (unpackN page xs).2.1
theorem unpacked_bad {base k : Nat} {page : Int} {xs : List Nat} {w' : World} (h : unpackN page xs = (0, [], k)) : Unpacked base page xs (.returned (.tuple #[.int .i64 0, .slice none 0 0, .int .i64 k])) w' := by
  unfold Unpacked
  rw [h]
  exact ⟨_, rfl, Own.nil _ _ _⟩
theorem unpacked_good {base kb : Nat} {page : Int} {xs l : List Nat} {w' : World} {v : Value} (h : unpackN page xs = (kb, l, 0)) (ho : OwnU w' base v ([] ++ l)) : Unpacked base page xs (.returned (.tuple #[.int .i64 kb, v, .int .i64 0])) w' := by
  unfold Unpacked
  rw [h]
  exact ⟨_, rfl, ho⟩
/-- What the walk is told of a whole page's fields. -/
def Fields (page : Int) (xs : List Nat) (kb nb : Nat) : Prop :=
  (¬ KindOk kb → unpackN page xs = (0, [], 50)) ∧ (KindOk kb → 246 < nb → unpackN page xs = (0, [], 51)) ∧
  (KindOk kb → nb ≤ 246 → (numN xs : Int) ≠ page → unpackN page xs = (0, [], 54)) ∧ (KindOk kb → nb ≤ 246 → (numN xs : Int) = page → allZ ((xs.drop (6 + nb)).take (252 - (6 + nb))) = false → unpackN page xs = (0, [], 53)) ∧
  (KindOk kb → nb ≤ 246 → (numN xs : Int) = page → allZ ((xs.drop (6 + nb)).take (252 - (6 + nb))) = true → unpackN page xs = (kb, (xs.drop 6).take nb, 0))
theorem fields_of {page : Int} {xs : List Nat} (hp : PlaceOk page) (hl : xs.length = 256) (hw : wholeN xs = true) : Fields page xs (xs.getD 0 0) (xs.getD 1 0) := by
  have c : ∀ {k : Nat}, KindOk k → 1 ≤ k ∧ k ≤ 3 := fun h => by unfold KindOk at h; omega
  refine ⟨fun h => un_kind hp hl hw fun k => h (by unfold KindOk; omega), fun h1 h2 => un_load hp hl hw (c h1) h2, fun h1 h2 h3 => un_num hp hl hw (c h1) h2 h3, fun h1 h2 h3 h4 => un_rest hp hl hw (c h1) h2 h3 fun k => ?_, fun h1 h2 h3 h4 => ?_⟩
  rotate_left
  · rw [show 252 - (6 + xs.getD 1 0) = 246 - xs.getD 1 0 by omega] at h4
    exact un_ok hp hl hw (c h1) h2 h3 (allZ_iff.1 h4)
  unfold restZ at k
  rw [show 252 - (6 + xs.getD 1 0) = 246 - xs.getD 1 0 by omega] at h4
  rw [allZ_iff.2 k] at h4
  cases h4
theorem un_len_any {page : Int} {xs : List Nat} (h : xs.length ≠ 256) : (¬ PlaceOk page → unpackN page xs = (0, [], 54)) ∧ (PlaceOk page → unpackN page xs = (0, [], 53)) := ⟨un_place, fun hp => un_len hp h⟩
theorem rb_off {w : World} {ad : Addr} {n k : Nat} {xs : List Nat} (h : RB w (some ad) n xs) (hk : k ≠ 0) (hn : k ≤ n) : RB w (some ⟨ad.block, ad.off + k, none⟩) (n - k) (xs.drop k) :=
  h.drop hn fun _ => by simp [Addr.add, hk]
theorem rb_cut {w : World} {ad : Addr} {n k m : Nat} {xs : List Nat} (h : RB w (some ad) n xs) (hk : k ≠ 0) (hn : k + m ≤ n) : RB w (some ⟨ad.block, ad.off + k, none⟩) m ((xs.drop k).take m) :=
  (rb_off h hk (by omega)).take (by omega)
theorem rb_cutA {w : World} {ad : Addr} {n k m : Nat} {xs : List Nat} (h : RB w (some ad) n xs) (hn : k + m ≤ n) : RB w (some (ad.add k)) m ((xs.drop k).take m) :=
  (h.drop (by omega) fun _ => rfl).take (by omega)
theorem add_zero' (ad : Addr) : ad.add 0 = ad := by unfold Addr.add; rw [if_pos rfl]
set_option maxHeartbeats 1000000 in
theorem unpack_any (page : Int) (A : Option Addr) (n c : Nat) (xs : List Nat) (w : World) (hx : RB w A n xs) (hnc : n ≤ c) (hn : n ≤ 281474976710656) :
    Calls Tryd.prog 36 #[.int .i64 page, .slice A n c] w fun e w' => Unpacked w.heap.size page xs e w' ∧ Below w.heap.size w w' := by
  have HX := Lib.hid hx
  have HP := Lib.hid (place_any page w)
  have HW := Lib.hid (whole_any A n c xs w hx hnc hn)
  have hlen := hx.1
  clear hx
  by_cases hl : n = 256
  · subst hl
    go_enter Tryd.func36, Tryd.ntmps36
    go_wp2_with fail
    refine HP.out.mono ?_
    rintro e w' ⟨rfl, rfl⟩
    cases hp : decide (PlaceOk page)
    · have HR := Lib.hid (un_place (xs := xs) (of_decide_eq_false hp))
      clear hp hlen
      go_wp2_with fail
      go_ret3
      exact ⟨unpacked_bad HR.out, Below.refl _ _⟩
    · have HPO := Lib.hid (of_decide_eq_true hp)
      clear hp
      go_wp2_with fail
      refine HW.out.mono ?_
      rintro e w1 ⟨rfl, hb1⟩
      have HB1 := Lib.hid hb1
      have HX1 := Lib.hid (HX.out.below hb1)
      clear hb1 HW HP
      cases hw : wholeN xs
      · have HR := Lib.hid (un_sum HPO.out hlen hw)
        clear hw hlen
        go_wp2_with fail
        go_ret3
        exact ⟨unpacked_bad HR.out, HB1.out⟩
      · have HWT := Lib.hid hw
        have HL := Lib.hid hlen
        obtain ⟨ad, rfl, hb, hc0⟩ := HX1.out.at_ (show 0 < 256 by omega)
        obtain ⟨_, e1, _, hc1⟩ := HX1.out.at_ (show 1 < 256 by omega)
        injection e1 with e1
        subst e1
        replace hc1 := cell_add (by omega) hc1
        rw [add_zero'] at hc0
        have hk8 := HX1.out.lt (show 0 < 256 by omega)
        have hn8 := HX1.out.lt (show 1 < 256 by omega)
        have HK := Lib.hid (kindOf_any ((xs.getD 0 0 : Nat) : Int))
        have HF := Lib.hid (fields_of HPO.out HL.out HWT.out)
        clear hw hlen
        generalize xs.getD 0 0 = kb at *
        generalize xs.getD 1 0 = nb at *
        go_wp2_with fail
        go_quiet (fail)
        go_wp2_with fail
        have HB2 := Lib.hid (drewN_below HB1.out nq)
        have HX2 := Lib.hid (HX1.out.below (drewN_below (Below.refl w1.heap.size w1) nq))
        clear HX1 HB1 hc0 hc1 hb HX
        generalize w1.drewN nq = w2 at *
        refine (HK.out w2).mono ?_
        rintro e w3 ⟨rfl, rfl⟩
        cases hk : decide (KindOk (kb : Int))
        · have HR := Lib.hid (HF.out.1 (of_decide_eq_false hk))
          clear hk
          go_wp2_with fail
          go_ret3
          exact ⟨unpacked_bad HR.out, HB2.out⟩
        · have HKO := Lib.hid (of_decide_eq_true hk)
          clear hk HK
          by_cases h246 : 246 < nb
          · have HR := Lib.hid (HF.out.2.1 HKO.out h246)
            go_wp2_with fail
            go_ret3
            exact ⟨unpacked_bad HR.out, HB2.out⟩
          · have h246' : nb ≤ 246 := by omega
            clear h246
            have HG := Lib.hid (get_any (some ⟨ad.block, ad.off + 2, none⟩) 254 (c - 2) 4 (xs.drop 2) w3 (rb_off HX2.out (by omega) (by omega)) (by omega) (by omega))
            have HN : Hid (leVal ((xs.drop 2).take 4) = numN xs) := rfl
            rw [HN.out] at HG
            go_wp2_with fail
            refine HG.out.mono ?_
            rintro e w4 ⟨rfl, rfl⟩
            clear HG
            by_cases hq : (numN xs : Int) = page
            · have HZ := Lib.hid (And.intro (HF.out.2.2.2.1 HKO.out h246' hq) (HF.out.2.2.2.2 HKO.out h246' hq))
              have hq' : ((numN xs : Int) != page) = false := by rw [hq]; simp
              clear hq HN
              generalize numN xs = q at *
              go_wp2_with fail
              refine (allZero_any (some (ad.add (6 + nb))) (252 - (6 + nb)) (c - (6 + nb)) ((xs.drop (6 + nb)).take (252 - (6 + nb))) w4 (rb_cutA HX2.out (by omega)) (by omega)).mono ?_
              rintro e w5 ⟨rfl, rfl⟩
              cases hz : allZ ((xs.drop (6 + nb)).take (252 - (6 + nb)))
              · have HR := Lib.hid (HZ.out.1 hz)
                clear hz
                go_wp2_with fail
                go_ret3
                exact ⟨unpacked_bad HR.out, HB2.out⟩
              · have HR := Lib.hid (HZ.out.2 hz)
                have HC := Lib.hid (rb_cut HX2.out (k := 6) (m := nb) (by omega) (by omega))
                clear hz
                go_wp2_with (at_builtin; refine appendRB und_bytes info_byte w5 rfl (.const (.slice none 0 0)) (.tmp 50) rfl w'.heap.size _ [] (Own.nil _ _ _) _ _ _ _ (by first | exact HC.out | (rw [Nat.add_sub_cancel_left]; exact HC.out)) (fun h => by cases h) rfl rfl (by simp; omega) HB2.out.size ?_; intro v6 w6 hown6 hg6)
                have HO6 := Lib.hid hown6
                have HB6 := Lib.hid (HB2.out.grown hg6 HB2.out.size (fun k hk => by cases hk))
                clear hown6 hg6
                go_wp2_with fail
                go_ret3
                exact ⟨unpacked_good HR.out HO6.out, HB6.out⟩
            · have HR := Lib.hid (HF.out.2.2.1 HKO.out h246' hq)
              have hq' : ((numN xs : Int) != page) = true := by rw [bne_iff_ne]; exact hq
              clear hq HN
              generalize numN xs = q at *
              go_wp2_with fail
              go_ret3
              exact ⟨unpacked_bad HR.out, HB2.out⟩
  · have hne : ((n : Int) != 256) = true := by rw [bne_iff_ne]; omega
    have HR := Lib.hid (un_len_any (page := page) (xs := xs) (by omega))
    clear hl hlen
    go_enter Tryd.func36, Tryd.ntmps36
    go_wp2_with fail
    refine HP.out.mono ?_
    rintro e w' ⟨rfl, rfl⟩
    cases hp : decide (PlaceOk page)
    · have HR2 := Lib.hid (HR.out.1 (of_decide_eq_false hp))
      clear hp
      go_wp2_with fail
      go_ret3
      exact ⟨unpacked_bad HR2.out, Below.refl _ _⟩
    · have HR2 := Lib.hid (HR.out.2 (of_decide_eq_true hp))
      clear hp
      go_wp2_with fail
      go_ret3
      exact ⟨unpacked_bad HR2.out, Below.refl _ _⟩
end Go.Proofs.YtbjbpgbpefkbhaaDoor
