/- frame.Choose. -/
import Derived.Test.YtbjbpgbpefkbhaaDoorEmpty
namespace Go.Proofs.YtbjbpgbpefkbhaaDoor
open Go.RowKit
theorem us_good {xs : List Nat} (h : (unsupN xs).2 = 0) : (unsupN xs).1.Ok := by
  rcases us_cases (xs := xs) with ⟨_, h2⟩ | ⟨hl, hw, hf, ho⟩
  · exact absurd h h2
  · rw [us_ok hl hw hf ho]; exact ho
theorem choose_both {xs ys : List Nat} (h1 : (unsupN xs).2 = 0) (h2 : (unsupN ys).2 = 0) : chooseN xs ys = newerN (unsupN xs).1 (unsupN ys).1 := if_pos ⟨h1, h2⟩
theorem choose_bad {xs ys : List Nat} (h : ¬ ((unsupN xs).2 = 0 ∧ (unsupN ys).2 = 0)) (h2 : ¬ (emptyN ys = true ∧ (emptyN xs = true ∨ (unsupN xs).2 = 0 ∧ (unsupN xs).1.gen = 0))) : chooseN xs ys = (Sup.zero, 4) := by
  unfold chooseN
  rw [if_neg h, if_neg h2]
theorem choose_blank {xs ys : List Nat} (h : ¬ ((unsupN xs).2 = 0 ∧ (unsupN ys).2 = 0)) (h2 : emptyN ys = true ∧ (emptyN xs = true ∨ (unsupN xs).2 = 0 ∧ (unsupN xs).1.gen = 0)) : chooseN xs ys = (Sup.zero, 55) := by
  unfold chooseN
  rw [if_neg h, if_pos h2]
theorem chosen_err {s : Sup × Nat} {k : Nat} (h : s = (Sup.zero, k)) : Chosen s (.returned (.tuple #[.agg (supA 0 0 0 0 0), .int .i64 k])) := by
  subst h
  rfl
set_option maxHeartbeats 2000000 in
theorem choose_any (A B : Option Addr) (n c m d : Nat) (xs ys : List Nat) (w : World) (hx : RB w A n xs) (hy : RB w B m ys) (hnc : n ≤ c) (hmd : m ≤ d) :
    Calls Tryd.prog 38 #[.slice A n c, .slice B m d] w fun e w' => Chosen (chooseN xs ys) e ∧ Below w.heap.size w w' := by
  obtain ⟨a1, a2, a3, a4, a5, ea, hU⟩ : ∃ a1 a2 a3 a4 a5, ∃ ea : Nat, unsupN xs = (⟨a1, a2, a3, a4, a5⟩, ea) := ⟨_, _, _, _, _, _, rfl⟩
  obtain ⟨b1, b2, b3, b4, b5, eb, hV⟩ : ∃ b1 b2 b3 b4 b5, ∃ eb : Nat, unsupN ys = (⟨b1, b2, b3, b4, b5⟩, eb) := ⟨_, _, _, _, _, _, rfl⟩
  have HX := Lib.hid hx
  have HY := Lib.hid hy
  have HUA : Hid (∀ w, RB w A n xs → Calls Tryd.prog 34 #[.slice A n c] w fun e w' => e = .returned (.tuple #[.agg #[.int .i64 a1, .int .i64 a2, .int .i64 a3, .int .i64 a4, .int .i64 a5], .int .i64 ea]) ∧ Below w.heap.size w w') := fun w hx => by
    have h := unpackSuper_any A n c xs w hx hnc
    unfold UnpackedS at h
    rw [hU] at h
    exact h
  have HUB : Hid (∀ w, RB w B m ys → Calls Tryd.prog 34 #[.slice B m d] w fun e w' => e = .returned (.tuple #[.agg #[.int .i64 b1, .int .i64 b2, .int .i64 b3, .int .i64 b4, .int .i64 b5], .int .i64 eb]) ∧ Below w.heap.size w w') := fun w hx => by
    have h := unpackSuper_any B m d ys w hx hmd
    unfold UnpackedS at h
    rw [hV] at h
    exact h
  have HB0 := Lib.hid ((Below.refl w.heap.size w).alloc (Nat.le_refl _) (.cells #[.int .i64 0, .int .i64 0, .int .i64 0, .int .i64 0, .int .i64 0] 23))
  have HSB0 : Hid (BlkIs (w.alloc (.cells #[.int .i64 0, .int .i64 0, .int .i64 0, .int .i64 0, .int .i64 0] 23)) w.heap.size 23 (supA 0 0 0 0 0)) := BlkIs.new w _ _
  have HXU := Lib.hid hU
  have HXV := Lib.hid hV
  clear hx hy hU hV
  go_enter Tryd.func38, Tryd.ntmps38
  go_wp2_with fail
  refine (HUA.out _ (HX.out.below HB0.out)).mono ?_
  rintro e w1 ⟨rfl, hb1⟩
  have HB1 := Lib.hid (HB0.out.trans (hb1.mono HB0.out.size))
  have HSB1 := Lib.hid (BlkIs.below HSB0.out hb1)
  clear hb1 HUA HSB0 HB0
  have HW1 := Lib.hid (HB1.out.alloc HB1.out.size (.cells (supA a1 a2 a3 a4 a5) 23))
  have HSW1 := Lib.hid (BlkIs.alloc HSB1.out (.cells (supA a1 a2 a3 a4 a5) 23))
  have HXS1 := Lib.hid (BlkIs.new w1 23 (supA a1 a2 a3 a4 a5))
  have hgx : w.heap.size ≤ w1.heap.size := HB1.out.size
  unfold supA at HW1
  clear HB1 HSB1
  go_wp2_with fail
  refine (HUB.out _ (HY.out.below HW1.out)).mono ?_
  rintro e w2 ⟨rfl, hb2⟩
  have HB2a := Lib.hid (HW1.out.trans (hb2.mono HW1.out.size))
  have HSB2a := Lib.hid (BlkIs.below HSW1.out hb2)
  have HXS2a := Lib.hid (BlkIs.below HXS1.out hb2)
  generalize w1.heap.size = gx at *
  have HB2 : Hid (Below w.heap.size w (w2.alloc (.cells #[.int .i64 b1, .int .i64 b2, .int .i64 b3, .int .i64 b4, .int .i64 b5] 23))) := HB2a.out.alloc HB2a.out.size _
  have HSB2 : Hid (BlkIs (w2.alloc (.cells #[.int .i64 b1, .int .i64 b2, .int .i64 b3, .int .i64 b4, .int .i64 b5] 23)) w.heap.size 23 (supA 0 0 0 0 0)) := BlkIs.alloc HSB2a.out _
  have HXS2 : Hid (BlkIs (w2.alloc (.cells #[.int .i64 b1, .int .i64 b2, .int .i64 b3, .int .i64 b4, .int .i64 b5] 23)) gx 23 (supA a1 a2 a3 a4 a5)) := BlkIs.alloc HXS2a.out _
  have HYS2 : Hid (BlkIs (w2.alloc (.cells #[.int .i64 b1, .int .i64 b2, .int .i64 b3, .int .i64 b4, .int .i64 b5] 23)) w2.heap.size 23 (supA b1 b2 b3 b4 b5)) := BlkIs.new w2 _ _
  have HX2 := Lib.hid (HX.out.below HB2.out)
  have HY2 := Lib.hid (HY.out.below HB2.out)
  have hx2 := sup_at HXS2.out
  have hy2 := sup_at HYS2.out
  clear hb2 HUB HW1 HSW1 HXS1 HB2a HSB2a HXS2a
  by_cases h0 : ea = 0 ∧ eb = 0
  · obtain ⟨rfl, rfl⟩ := h0
    have hoa : Sup.Ok ⟨a1, a2, a3, a4, a5⟩ := by
      have h := us_good (xs := xs) (by rw [HXU.out])
      rwa [HXU.out] at h
    have hob : Sup.Ok ⟨b1, b2, b3, b4, b5⟩ := by
      have h := us_good (xs := ys) (by rw [HXV.out])
      rwa [HXV.out] at h
    have hch : chooseN xs ys = newerN ⟨a1, a2, a3, a4, a5⟩ ⟨b1, b2, b3, b4, b5⟩ := by
      have h := choose_both (xs := xs) (ys := ys) (by rw [HXU.out]) (by rw [HXV.out])
      rwa [HXU.out, HXV.out] at h
    have HCH := Lib.hid hch
    have HN : Hid (∀ w, Calls Tryd.prog 56 #[.agg #[.int .i64 a1, .int .i64 a2, .int .i64 a3, .int .i64 a4, .int .i64 a5], .agg #[.int .i64 b1, .int .i64 b2, .int .i64 b3, .int .i64 b4, .int .i64 b5]] w fun e w' => Chosen (newerN ⟨a1, a2, a3, a4, a5⟩ ⟨b1, b2, b3, b4, b5⟩) e ∧ Below w.heap.size w w') := fun w => newer_any ⟨a1, a2, a3, a4, a5⟩ ⟨b1, b2, b3, b4, b5⟩ w hoa hob
    clear hoa hob hch HXU HXV
    go_wp2_with fail
    refine (HN.out _).mono ?_
    rintro e w3 ⟨he3, hb3⟩
    unfold Chosen at he3
    rw [← HCH.out] at he3
    obtain ⟨c1, c2, c3, c4, c5, ec, hC⟩ : ∃ c1 c2 c3 c4 c5, ∃ ec : Nat, chooseN xs ys = (⟨c1, c2, c3, c4, c5⟩, ec) := ⟨_, _, _, _, _, _, rfl⟩
    rw [hC] at he3
    subst he3
    have HC := Lib.hid hC
    have HB3 := Lib.hid (HB2.out.trans (hb3.mono HB2.out.size))
    have HSB3 := Lib.hid (BlkIs.below HSB2.out hb3)
    have hs3 := sup_at HSB3.out
    have hf3 := sup_froz HSB3.out
    clear hb3 HN hC hx2 hy2
    unfold supV
    dsimp only
    go_wp2_with fail
    (try simp only [Exit.inBlock, Exit.then])
    refine sup_ret (w := sup5 w3 w.heap.size c1 c2 c3 c4 c5) rfl rfl (sup5_is HSB3.out) rfl rfl ?_
    exact ⟨by rw [HC.out]; rfl, sup5_below HB3.out (Nat.le_refl _)⟩
  · have HNB : Hid (¬ ((unsupN xs).2 = 0 ∧ (unsupN ys).2 = 0)) := by
      show ¬ ((unsupN xs).2 = 0 ∧ (unsupN ys).2 = 0)
      rw [HXU.out, HXV.out]
      exact h0
    have HEB := Lib.hid (fun w h => empty_any B m d ys w h hmd)
    have HEA := Lib.hid (fun w h => empty_any A n c xs w h hnc)
    have HTA : Hid ((unsupN xs).2 = ea ∧ (unsupN xs).1.gen = a2) := by
      show (unsupN xs).2 = ea ∧ (unsupN xs).1.gen = a2
      rw [HXU.out]
      exact ⟨rfl, rfl⟩
    have hcase : (ea = 0 ∧ ¬ eb = 0) ∨ ¬ ea = 0 := by omega
    clear h0 HXU HXV
    rcases hcase with ⟨rfl, hb0⟩ | ha0
    · have tb : ((eb : Int) == 0) = false := by rw [beq_eq_false_iff_ne]; omega
      go_wp2_with fail
      refine (HEB.out _ HY2.out).mono ?_
      rintro e w3 ⟨rfl, hw3⟩
      rw [hw3]
      clear hw3
      cases hey : emptyN ys
      · have HR := Lib.hid (choose_bad HNB.out (by rw [hey]; simp))
        clear hey
        have hs2 := sup_at HSB2.out
        have hf2 := sup_froz HSB2.out
        go_wp2_with fail
        (try simp only [Exit.inBlock, Exit.then])
        refine sup_ret (w := sup5 (w2.alloc (.cells #[.int .i64 b1, .int .i64 b2, .int .i64 b3, .int .i64 b4, .int .i64 b5] 23)) w.heap.size 0 0 0 0 0) rfl rfl (sup5_is HSB2.out) rfl rfl ?_
        exact ⟨chosen_err HR.out, sup5_below HB2.out (Nat.le_refl _)⟩
      · by_cases hg : a2 = 0
        · have HR := Lib.hid (choose_blank HNB.out ⟨hey, .inr ⟨HTA.out.1, by rw [HTA.out.2]; exact hg⟩⟩)
          subst hg
          clear hey
          have hs2 := sup_at HSB2.out
          have hf2 := sup_froz HSB2.out
          go_wp2_with fail
          (try simp only [Exit.inBlock, Exit.then])
          refine sup_ret (w := sup5 (w2.alloc (.cells #[.int .i64 b1, .int .i64 b2, .int .i64 b3, .int .i64 b4, .int .i64 b5] 23)) w.heap.size 0 0 0 0 0) rfl rfl (sup5_is HSB2.out) rfl rfl ?_
          exact ⟨chosen_err HR.out, sup5_below HB2.out (Nat.le_refl _)⟩
        · have tg : (a2 == 0) = false := by rw [beq_eq_false_iff_ne]; exact hg
          go_wp2_with fail
          refine (HEA.out _ HX2.out).mono ?_
          rintro e w3 ⟨rfl, hw3⟩
          rw [hw3]
          clear hw3
          cases hex : emptyN xs
          · have HR := Lib.hid (choose_bad HNB.out (by rw [hex, HTA.out.2]; simp [hg]))
            clear hey hex
            have hs2 := sup_at HSB2.out
            have hf2 := sup_froz HSB2.out
            go_wp2_with fail
            (try simp only [Exit.inBlock, Exit.then])
            refine sup_ret (w := sup5 (w2.alloc (.cells #[.int .i64 b1, .int .i64 b2, .int .i64 b3, .int .i64 b4, .int .i64 b5] 23)) w.heap.size 0 0 0 0 0) rfl rfl (sup5_is HSB2.out) rfl rfl ?_
            exact ⟨chosen_err HR.out, sup5_below HB2.out (Nat.le_refl _)⟩
          · have HR := Lib.hid (choose_blank HNB.out ⟨hey, .inl hex⟩)
            clear hey hex
            have hs2 := sup_at HSB2.out
            have hf2 := sup_froz HSB2.out
            go_wp2_with fail
            (try simp only [Exit.inBlock, Exit.then])
            refine sup_ret (w := sup5 (w2.alloc (.cells #[.int .i64 b1, .int .i64 b2, .int .i64 b3, .int .i64 b4, .int .i64 b5] 23)) w.heap.size 0 0 0 0 0) rfl rfl (sup5_is HSB2.out) rfl rfl ?_
            exact ⟨chosen_err HR.out, sup5_below HB2.out (Nat.le_refl _)⟩
    · have ta : ((ea : Int) == 0) = false := by rw [beq_eq_false_iff_ne]; omega
      go_wp2_with fail
      refine (HEB.out _ HY2.out).mono ?_
      rintro e w3 ⟨rfl, hw3⟩
      rw [hw3]
      clear hw3
      cases hey : emptyN ys
      · have HR := Lib.hid (choose_bad HNB.out (by rw [hey]; simp))
        clear hey
        have hs2 := sup_at HSB2.out
        have hf2 := sup_froz HSB2.out
        go_wp2_with fail
        (try simp only [Exit.inBlock, Exit.then])
        refine sup_ret (w := sup5 (w2.alloc (.cells #[.int .i64 b1, .int .i64 b2, .int .i64 b3, .int .i64 b4, .int .i64 b5] 23)) w.heap.size 0 0 0 0 0) rfl rfl (sup5_is HSB2.out) rfl rfl ?_
        exact ⟨chosen_err HR.out, sup5_below HB2.out (Nat.le_refl _)⟩
      · go_wp2_with fail
        refine (HEA.out _ HX2.out).mono ?_
        rintro e w3 ⟨rfl, hw3⟩
        rw [hw3]
        clear hw3
        cases hex : emptyN xs
        · have HR := Lib.hid (choose_bad HNB.out (by rw [hex, HTA.out.1]; simp [ha0]))
          clear hey hex
          have hs2 := sup_at HSB2.out
          have hf2 := sup_froz HSB2.out
          go_wp2_with fail
          (try simp only [Exit.inBlock, Exit.then])
          refine sup_ret (w := sup5 (w2.alloc (.cells #[.int .i64 b1, .int .i64 b2, .int .i64 b3, .int .i64 b4, .int .i64 b5] 23)) w.heap.size 0 0 0 0 0) rfl rfl (sup5_is HSB2.out) rfl rfl ?_
          exact ⟨chosen_err HR.out, sup5_below HB2.out (Nat.le_refl _)⟩
        · have HR := Lib.hid (choose_blank HNB.out ⟨hey, .inl hex⟩)
          clear hey hex
          have hs2 := sup_at HSB2.out
          have hf2 := sup_froz HSB2.out
          go_wp2_with fail
          (try simp only [Exit.inBlock, Exit.then])
          refine sup_ret (w := sup5 (w2.alloc (.cells #[.int .i64 b1, .int .i64 b2, .int .i64 b3, .int .i64 b4, .int .i64 b5] 23)) w.heap.size 0 0 0 0 0) rfl rfl (sup5_is HSB2.out) rfl rfl ?_
          exact ⟨chosen_err HR.out, sup5_below HB2.out (Nat.le_refl _)⟩
end Go.Proofs.YtbjbpgbpefkbhaaDoor
