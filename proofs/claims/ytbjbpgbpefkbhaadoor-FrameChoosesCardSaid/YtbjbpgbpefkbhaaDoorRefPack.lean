/- ledgerref5.read, Page, Pack. -/
import Derived.Test.YtbjbpgbpefkbhaaDoorRef5
import Derived.Test.YtbjbpgbpefkbhaaDoorRefSeal
import Derived.Test.YtbjbpgbpefkbhaaDoorRefWhole
namespace Go.Proofs.YtbjbpgbpefkbhaaDoor
open Go.RowKit
/-- What the document's reading of n bytes tells: -1 where it is too great. -/
def readI (ys : List Nat) : Int := if 35184372088832 < leVal (ys.drop 1) then -1 else (leVal ys : Nat)
theorem leVal_mono {ys : List Nat} {j : Nat} : leVal (ys.drop (j + 1)) ≤ leVal (ys.drop j) := by
  rcases Nat.lt_or_ge j ys.length with h | h
  · rw [leVal_step h]; omega
  · rw [List.drop_of_length_le (by omega), List.drop_of_length_le h]; exact Nat.le_refl _
theorem leVal_anti {ys : List Nat} : ∀ {j : Nat}, 1 ≤ j → leVal (ys.drop j) ≤ leVal (ys.drop 1)
  | 1, _ => Nat.le_refl _
  | j + 2, _ => Nat.le_trans leVal_mono (leVal_anti (j := j + 1) (by omega))
set_option maxHeartbeats 400000 in
theorem read_any (A : Option Addr) (m c at_ n : Nat) (xs : List Nat) (w : World) (hx : RB w A m xs) (hn : at_ + n ≤ m) (h1 : 1 ≤ n) (hm : m ≤ 140737488355328) :
    Calls Tryd.prog 55 #[.slice A m c, .int .i64 at_, .int .i64 n] w fun e w' => e = .returned (.int .i64 (readI ((xs.drop at_).take n))) ∧ w' = w := by
  have hlen := hx.1
  have HX := Lib.hid hx
  have hyl : ((xs.drop at_).take n).length = n := by rw [List.length_take, List.length_drop]; omega
  have HG : Hid (∀ k, k < n → ((xs.drop at_).take n).getD k 0 = xs.getD (at_ + k) 0) := fun k hk => by
    simp [List.getD, hk]
  have HYL := Lib.hid hyl
  generalize (xs.drop at_).take n = ys at *
  clear hx hlen hyl
  go_enter Tryd.func55, Tryd.ntmps55
  go_wp2
  go_loop [7, 8] (fun v i => ∃ j : Nat, j ≤ n ∧ i = .int .i64 ((j : Int) - 1) ∧ v = .int .i64 (leVal (ys.drop j) : Nat) ∧ (0 < j ∨ leVal (ys.drop 1) ≤ 35184372088832)) (fun _ i => (intOf i + 1).toNat)
  case atStart => exact ⟨n, by omega, rfl, by rw [List.drop_of_length_le (by rw [HYL.out]; exact Nat.le_refl _)]; rfl, .inl (by omega)⟩
  case round =>
    obtain ⟨j, hj, rfl, rfl, hbig⟩ := hrel
    rcases j with _ | k
    · have HR : Hid (readI ys = (leVal (ys.drop 0) : Nat)) := by
        show readI ys = _
        unfold readI
        rw [if_neg (by omega), List.drop_zero]
      clear hbig
      go_wp2
      go_ret
      exact ⟨by rw [HR.out]; rfl, rfl⟩
    · obtain ⟨ad, rfl, hb, hc⟩ := HX.out.at_ (show at_ + k < m by omega)
      have hx8 := HX.out.lt (show at_ + k < m by omega)
      have hstep := leVal_step (xs := ys) (k := k) (by rw [HYL.out]; omega)
      rw [HG.out k (by omega)] at hstep
      have HS := Lib.hid hstep
      have hanti := leVal_anti (ys := ys) (j := k + 1) (by omega)
      by_cases hv : 35184372088832 < leVal (ys.drop (k + 1))
      · have HR : Hid (readI ys = -1) := if_pos (by omega)
        clear hstep hanti hbig
        generalize leVal (ys.drop (k + 1)) = v at *
        go_wp2
        go_ret
        exact ⟨by rw [HR.out]; rfl, rfl⟩
      · have hnext : 0 < k ∨ leVal (ys.drop 1) ≤ 35184372088832 := by
          rcases k with _ | k
          · exact .inr (by rw [Nat.zero_add] at hv; omega)
          · exact .inl (by omega)
        clear hstep hanti hbig
        generalize leVal (ys.drop (k + 1)) = v at *
        generalize xs.getD (at_ + k) 0 = x at *
        go_wp2
        go_round
        case rel => exact ⟨k, by omega, rfl, by rw [HS.out]; go_num, hnext⟩
        case measure => simp [intOf]
theorem fil_body {kn pn : Nat} {xs : List Nat} (h : xs.length ≤ 246) : filN (([kn, xs.length] ++ leN pn 4) ++ xs) 252 = bodyN kn pn xs := by
  unfold filN
  have hl : (([kn, xs.length] ++ leN pn 4) ++ xs).length = 6 + xs.length := by simp [leN_length]; omega
  rw [hl, List.take_of_length_le (by omega), show 252 - (6 + xs.length) = 246 - xs.length by omega]
  simp only [List.append_assoc]
  rfl
set_option maxHeartbeats 400000 in
theorem refPage_any (kn pn : Nat) (A : Option Addr) (n c : Nat) (xs : List Nat) (w : World) (hx : RB w A n xs) (hn : n ≤ 246) (hk : kn < 256) (hp : pn < 4096) (hd : DivT w) :
    Calls Tryd.prog 49 #[.int .i64 kn, .int .i64 pn, .slice A n c] w fun e w' => ∃ v, e = .returned v ∧ OwnU w' w.heap.size v (pageN kn pn xs) ∧ Below w.heap.size w w' := by
  have hlen := hx.1
  have HX := Lib.hid hx
  have HD := Lib.hid hd
  have HFB : Hid (filN (([kn, n] ++ leN pn 4) ++ xs) 252 = bodyN kn pn xs) := by
    show filN (([kn, n] ++ leN pn 4) ++ xs) 252 = _
    have h := fil_body (kn := kn) (pn := pn) (xs := xs) (by omega)
    rwa [hlen] at h
  have HXL := Lib.hid hlen
  have HRN : Hid (RB (w.alloc (.cells #[.int .u8 (kn : Int), .int .u8 (n : Int)] 5)) (some ⟨w.heap.size, 0, none⟩) 2 [kn, n]) :=
    RB_new w 5 _ _ [kn, n] (fun x hx => by simp at hx; omega) rfl
  have HB0 := Lib.hid ((Below.refl w.heap.size w).alloc (Nat.le_refl _) (.cells #[.int .u8 (kn : Int), .int .u8 (n : Int)] 5))
  clear hx hd hlen
  go_enter Tryd.func49, Tryd.ntmps49
  go_wp2_with fail
  refine (laid_any pn 4 _ (by omega) (by omega)).mono ?_
  rintro e w1 ⟨v1, rfl, hown1, hb1⟩
  have HB1 := Lib.hid (HB0.out.trans (hb1.mono HB0.out.size))
  have HR1 := Lib.hid (HRN.out.below hb1)
  obtain ⟨A1, c1, rfl, hr1, _, _, _⟩ := hown1.form
  rw [leN_length] at hr1 ⊢
  have HS1 := Lib.hid hr1
  clear hown1 hb1 hr1 HRN HB0
  go_wp2_with fail
  refine (joined_any (some ⟨w.heap.size, 0, none⟩) A1 2 2 4 c1 [kn, n] (leN pn 4) w1 HR1.out HS1.out (by omega)).mono ?_
  rintro e w2 ⟨v2, rfl, hown2, hb2⟩
  have HB2 := Lib.hid (HB1.out.trans (hb2.mono HB1.out.size))
  obtain ⟨A2, c2, rfl, hr2, _, _, _⟩ := hown2.form
  have hl6 : ([kn, n] ++ leN pn 4).length = 6 := by simp [leN_length]
  rw [hl6] at hr2 ⊢
  have HS2 := Lib.hid hr2
  clear hown2 hb2 hr2 HB1 HR1 HS1 hl6
  generalize [kn, n] ++ leN pn 4 = h6 at *
  go_wp2_with fail
  refine (joined_any A2 A 6 c2 n c h6 xs w2 HS2.out (HX.out.below HB2.out) (by omega)).mono ?_
  rintro e w3 ⟨v3, rfl, hown3, hb3⟩
  have HB3 := Lib.hid (HB2.out.trans (hb3.mono HB2.out.size))
  obtain ⟨A3, c3, rfl, hr3, _, _, _⟩ := hown3.form
  have HS3 := Lib.hid hr3
  have hl3 : (h6 ++ xs).length = 6 + n := by rw [List.length_append, HS2.out.1, HXL.out]
  rw [hl3] at HS3 ⊢
  clear hown3 hb3 hr3 HB2 HS2 hl3
  generalize h6 ++ xs = hx3 at *
  go_wp2_with fail
  refine (filled_any A3 (6 + n) c3 252 hx3 w3 HS3.out (by omega)).mono ?_
  rintro e w4 ⟨v4, rfl, hown4, hb4⟩
  have HB4 := Lib.hid (HB3.out.trans (hb4.mono HB3.out.size))
  rw [HFB.out] at hown4
  obtain ⟨A4, c4, rfl, hr4, _, hA4, hc4⟩ := hown4.form
  rw [bodyN_length (by rw [HXL.out]; exact hn)] at hr4 hc4 ⊢
  have HS4 := Lib.hid hr4
  have HP : Hid (pageN kn pn xs = sealN (bodyN kn pn xs)) := rfl
  clear hown4 hb4 hr4 HB3 HS3 HFB
  generalize bodyN kn pn xs = bd at *
  go_wp2_with fail
  refine (refseal_any A4 252 c4 bd w4 HS4.out (by omega) (HD.out.below HB4.out)).mono ?_
  rintro e w5 ⟨v5, rfl, hown5, hb5⟩
  have HB5 := Lib.hid (HB4.out.trans (hb5.mono HB4.out.size))
  have HO5 := Lib.hid (hown5.mono HB4.out.size)
  clear hown5 hb5
  go_wp2_with fail
  go_ret
  exact ⟨_, rfl, by rw [HP.out]; exact HO5.out, HB5.out⟩
set_option maxHeartbeats 400000 in
theorem refPack_any (kind page : Int) (A : Option Addr) (n c : Nat) (xs : List Nat) (w : World) (hx : RB w A n xs) (hn : n ≤ 140737488355328) (hd : DivT w) :
    Calls Tryd.prog 32 #[.int .i64 kind, .int .i64 page, .slice A n c] w fun e w' => Packed w.heap.size kind page xs e w' ∧ Below w.heap.size w w' := by
  have HX := Lib.hid hx
  have HD := Lib.hid hd
  have hlen := hx.1
  clear hx hd
  by_cases hk : KindOk kind
  · by_cases hp : PlaceOk page
    · by_cases hl : 246 < n
      · have HR := Lib.hid (packN_load hk hp (by omega : 246 < xs.length))
        unfold KindOk at hk
        unfold PlaceOk at hp
        clear hlen
        go_enter Tryd.func32, Tryd.ntmps32
        go_wp2_with fail
        go_ret2
        exact ⟨⟨_, by rw [HR.out]; rfl, by rw [HR.out]; exact Own.nil _ _ _⟩, Below.refl _ _⟩
      · have HR := Lib.hid (packN_ok hk hp (by omega : xs.length ≤ 246))
        unfold KindOk at hk
        unfold PlaceOk at hp
        obtain ⟨kn, rfl⟩ := Int.eq_ofNat_of_zero_le (show 0 ≤ kind by omega)
        obtain ⟨pn, rfl⟩ := Int.eq_ofNat_of_zero_le (show 0 ≤ page by omega)
        simp only [Int.toNat_natCast] at HR
        clear hlen
        go_enter Tryd.func32, Tryd.ntmps32
        go_wp2_with fail
        refine (refPage_any kn pn A n c xs w HX.out (by omega) (by omega) (by omega) HD.out).mono ?_
        rintro e w1 ⟨v, rfl, hown, hb⟩
        have HO := Lib.hid hown
        clear hown
        go_wp2_with fail
        go_ret2
        exact ⟨⟨_, by rw [HR.out]; rfl, by rw [HR.out]; exact HO.out⟩, hb⟩
    · have HR := Lib.hid (packN_place (load := xs) hk hp)
      have hp' : page < 2 ∨ 4096 ≤ page := by unfold PlaceOk at hp; omega
      unfold KindOk at hk
      clear hlen hp
      go_enter Tryd.func32, Tryd.ntmps32
      go_wp2_with fail
      all_goals
        go_ret2
        exact ⟨⟨_, by rw [HR.out]; rfl, by rw [HR.out]; exact Own.nil _ _ _⟩, Below.refl _ _⟩
  · have HR := Lib.hid (packN_kind (page := page) (load := xs) hk)
    have hk' : kind < 1 ∨ 3 < kind := by unfold KindOk at hk; omega
    clear hlen hk
    go_enter Tryd.func32, Tryd.ntmps32
    go_wp2_with fail
    all_goals
      go_ret2
      exact ⟨⟨_, by rw [HR.out]; rfl, by rw [HR.out]; exact Own.nil _ _ _⟩, Below.refl _ _⟩
end Go.Proofs.YtbjbpgbpefkbhaaDoor
