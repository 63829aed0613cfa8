/- ledgerlaw5.FrameSuperBack: the walk. -/
import Derived.Test.YtbjbpgbpefkbhaaKnownSup
import Derived.Test.YtbjbpgbpefkbhaaUnpackSuper
import Derived.Test.YtbjbpgbpefkbhaaSame
import Derived.BigQuiet
namespace Go.Proofs.Ytbjbpgbpefkbhaa
open Go.RowKit
theorem tail_step {T xs : List Nat} {k : Nat} (hT : T.length = 64) (h1 : k < xs.length) (h2 : k < 192) : (T ++ (xs.take k ++ zs (192 - k))).set (64 + k) (xs.getD k 0) = T ++ (xs.take (k + 1) ++ zs (192 - (k + 1))) := by
  rw [List.set_append_right _ _ (by omega), hT, show 64 + k - 64 = k by omega, List.set_append_right _ _ (by rw [List.length_take]; omega), List.length_take, show k - min k xs.length = 0 by omega,
    show 192 - k = (192 - (k + 1)) + 1 by omega, take_succ_getD h1, List.append_assoc]
  rfl
set_option maxRecDepth 100000 in
set_option maxHeartbeats 2000000 in
theorem frameSuperBack_walk (a b c d p : Int) (A1 A2 : Option Addr) (n1 c1 n2 c2 : Nat) (xs ys : List Nat) (w : World) (hx : RB w A1 n1 xs) (hy : RB w A2 n2 ys) (hn1 : n1 ≤ 140737488355328) (hn2 : n2 ≤ 140737488355328) :
    Calls Try.prog 4 #[.agg #[.int .i64 a, .int .i64 b, .int .i64 c, .int .i64 d, .int .i64 p], .slice A1 n1 c1, .slice A2 n2 c2] w fun e w' => e = .returned (.bool true) ∧ Below w.heap.size w w' := by
  have HX := Lib.hid hx
  have hlY := hy.1
  have hBY := hy.isB
  have HY := Lib.hid hy
  have HC : Hid (∀ w, Calls Try.prog 13 #[.agg #[.int .i64 a, .int .i64 b, .int .i64 c, .int .i64 d, .int .i64 p]] w fun e w' => PackedS w.heap.size ⟨a, b, c, d, p⟩ e w' ∧ Below w.heap.size w w') := packSuper_any ⟨a, b, c, d, p⟩
  have HSA0 : Hid (BlkIs (w.alloc (.cells #[.int .i64 a, .int .i64 b, .int .i64 c, .int .i64 d, .int .i64 p] 24)) w.heap.size 24 (supA a b c d p)) := BlkIs.new w _ _
  clear hx hy
  go_enter Try.func4, Try.ntmps4
  go_wp2_with fail
  refine (knownSup_any _).mono ?_
  rintro e w1 ⟨rfl, hb1⟩
  have HB1 := Lib.hid (((Below.refl w.heap.size w).alloc (Nat.le_refl _) _).trans (hb1.mono (by simp)))
  have HSA1 := Lib.hid (BlkIs.below HSA0.out hb1)
  have hs := sup_at HSA1.out
  clear hb1 HSA0
  go_wp2_with fail
  refine (HC.out _).mono ?_
  rintro e w2 ⟨⟨v2, rfl, hown2⟩, hb2⟩
  have HB2 := Lib.hid (HB1.out.trans (hb2.mono HB1.out.size))
  have HSA2 := Lib.hid (BlkIs.below HSA1.out hb2)
  have HSA1S := Lib.hid (BlkIs.lt HSA1.out)
  clear hb2 HB1 HSA1 hs
  by_cases hok : Sup.Ok ⟨a, b, c, d, p⟩
  · rw [packSN_ok hok] at hown2 ⊢
    have HOK := Lib.hid hok
    obtain ⟨g, c3, rfl, hbg, hgs, hfr, hcell⟩ := hown2.shape (by rw [superN_length]; omega)
    have HO2 := Lib.hid hown2
    have HTL := Lib.hid (sectN_length ⟨a, b, c, d, p⟩)
    have HEQ : Hid (superN ⟨a, b, c, d, p⟩ = sectN ⟨a, b, c, d, p⟩ ++ zs 192) := rfl
    rw [superN_length] at HO2 ⊢
    rw [HEQ.out] at HO2
    have HUS := Lib.hid (fun (tl : List Nat) ht => us_super hok (tl := tl) ht)
    clear hown2 hok hfr hcell HEQ
    generalize sectN ⟨a, b, c, d, p⟩ = T at *
    have hgw : w.heap.size < g := by have := HSA1S.out; omega
    go_wp2_with fail
    go_loopw [9] (fun i wr => ∃ k : Nat, k ≤ 192 ∧ k ≤ n1 ∧ i = .int .i64 k ∧ Hid (OwnU wr w1.heap.size (.slice (some ⟨g, 0, none⟩) 256 c3) (T ++ (xs.take k ++ zs (192 - k)))) ∧ Hid (w2.grownBy wr (some g))) (fun i _ => 192 - (intOf i).toNat)
    case atStart => exact ⟨0, by omega, by omega, rfl, HO2.out, World.grownBy.refl _ _⟩
    case round =>
      clear HO2
      obtain ⟨k, hk, hk1, rfl, HO, HG⟩ := hrel
      have HBr := Lib.hid (HB2.out.grown HG.out HB2.out.size (fun k hk => by injection hk with hk; omega))
      by_cases hlt : k < n1 ∧ k < 192
      · obtain ⟨hlt1, hlt2⟩ := hlt
        obtain ⟨ad, rfl, hb, hcx⟩ := (HX.out.below HBr.out).at_ hlt1
        have hx8 := HX.out.lt hlt1
        have hll : (T ++ (xs.take k ++ zs (192 - k))).length = 256 := by
          have h1 := HX.out.1
          rw [List.length_append, List.length_append, HTL.out, List.length_take, zs_length]
          omega
        obtain ⟨g', c4, e', _, _, hfr, hcell⟩ := HO.out.shape (by omega)
        injection e' with e1 e2 e3
        clear e2
        injection e1 with e1
        injection e1 with e1 _ _
        subst e1 e3
        have hcg := hcell (64 + k) (by omega)
        have hfg := hfr (64 + k)
        have hset := HO.out
        unfold OwnU at hset
        rw [← hll] at hset
        have hset2 := hset.set (64 + k) (xs.getD k 0) hx8
        rw [tail_step HTL.out (by rw [HX.out.1]; exact hlt1) hlt2, hll] at hset2
        have HS := Lib.hid hset2
        have HG2 := Lib.hid (grown_trans HG.out (grown_setCell wr (g := g) (64 + k) (.int .u8 ((xs.getD k 0 : Nat) : Int))))
        generalize (T ++ (xs.take k ++ zs (192 - k))).getD (64 + k) 0 = z at *
        clear hcell hfr hset hset2 hll
        generalize xs.getD k 0 = y at *
        go_wp2
        go_roundw
        case rel => exact ⟨k + 1, by omega, by omega, by go_num, HS.out, HG2.out⟩
        case measure => simp [intOf]; omega
      · have hU := HUS.out (xs.take k ++ zs (192 - k)) (by rw [List.length_append, List.length_take, zs_length, HX.out.1]; omega)
        have hlt' : n1 ≤ k ∨ 192 ≤ k := by omega
        have HU := Lib.hid hU
        have hR := (Own.reads' HO.out).2.1
        have hcc := (Own.reads' HO.out).2.2.1
        have hl256 : (T ++ (xs.take k ++ zs (192 - k))).length = 256 := by
          have h1 := HX.out.1
          rw [List.length_append, List.length_append, HTL.out, List.length_take, zs_length]
          omega
        rw [hl256] at hR hcc
        have HR := Lib.hid hR
        have HSAr := Lib.hid (BlkIs.grown HSA2.out HG.out (fun h => by injection h with h; omega))
        clear hlt hU hR hl256 HO HG HUS
        generalize T ++ (xs.take k ++ zs (192 - k)) = pg at *
        go_wp2_with fail
        all_goals
          refine (unpackSuper_any (some ⟨g, 0, none⟩) 256 c3 pg wr HR.out hcc).mono ?_
          rintro e w3 ⟨he3, hb3⟩
          unfold UnpackedS at he3
          rw [HU.out] at he3
          subst he3
          have HB3 := Lib.hid (HBr.out.trans (hb3.mono HBr.out.size))
          have hs3 := sup_at (BlkIs.alloc (BlkIs.below HSAr.out hb3) (.cells #[.int .i64 a, .int .i64 b, .int .i64 c, .int .i64 d, .int .i64 p] 24))
          have HB4 := Lib.hid (HB3.out.alloc HB3.out.size (.cells #[.int .i64 a, .int .i64 b, .int .i64 c, .int .i64 d, .int .i64 p] 24))
          clear hb3 HU HR HBr HSAr
          clear HB3 HC HSA2 HOK HX
          unfold supV
          dsimp only
          go_wp2_with fail
          refine (copied_any A2 n2 c2 ys _ (HY.out.below HB4.out) hn2).mono ?_
          rintro e z1 ⟨u1, rfl, hz1, hd1⟩
          have HD1 := Lib.hid (HB4.out.trans (hd1.mono HB4.out.size))
          obtain ⟨AR, cR, rfl, hr1, _, _, hcR⟩ := hz1.form
          rw [hlY] at hr1 hcR ⊢
          have HR1 := Lib.hid hr1
          clear hd1 hz1 hr1 HB4
          go_wp2_with fail
          refine (copied_any AR n2 cR ys _ HR1.out hn2).mono ?_
          rintro e z2 ⟨u2, rfl, hz2, hd2⟩
          have HD2 := Lib.hid (HD1.out.trans (hd2.mono HD1.out.size))
          have HR2 := Lib.hid (HR1.out.below hd2)
          obtain ⟨AS, cS, rfl, hr2, _, _, hcS⟩ := hz2.form
          rw [hlY] at hr2 hcS ⊢
          have HS2 := Lib.hid hr2
          clear hd2 hz2 hr2 HD1 HR1
          go_wp2_with fail
          refine (unpackSuper_any AS n2 cS ys _ HS2.out hcS).mono ?_
          rintro e z3 ⟨he3, hd3⟩
          unfold UnpackedS at he3
          have HD3 := Lib.hid (HD2.out.trans (hd3.mono HD2.out.size))
          have HR3 := Lib.hid (HR2.out.below hd3)
          clear hd3 HD2 HR2 HS2
          rcases us_cases (xs := ys) with ⟨eu, hne⟩ | ⟨hl, hw, hf, ho⟩
          · rw [eu] at he3
            subst he3
            have hne' : ((((unsupN ys).2 : Nat) : Int) != 0) = true := by rw [bne_iff_ne]; omega
            clear eu hne
            generalize (unsupN ys).2 = er at *
            unfold supV Sup.zero
            dsimp only
            go_wp2_with fail
            go_ret
            exact ⟨rfl, HD3.out.alloc HD3.out.size _⟩
          · have HU := us_ok hl hw hf ho
            have HSO := Lib.hid (us_only hBY hl hw hf ho)
            have HPK := Lib.hid (packSN_ok ho)
            rw [HU] at he3
            subst he3
            clear HU hw hf
            obtain ⟨a', b', c', d', p', ht⟩ : ∃ a' b' c' d' p', toldN ys = ⟨a', b', c', d', p'⟩ := ⟨_, _, _, _, _, rfl⟩
            rw [ht] at HSO HPK ⊢
            clear ht ho
            have HC' : Hid (∀ w, Calls Try.prog 13 #[.agg #[.int .i64 a', .int .i64 b', .int .i64 c', .int .i64 d', .int .i64 p']] w fun e w' => PackedS w.heap.size ⟨a', b', c', d', p'⟩ e w' ∧ Below w.heap.size w w') := packSuper_any ⟨a', b', c', d', p'⟩
            unfold supV
            dsimp only
            go_wp2_with fail
            refine (HC'.out _).mono ?_
            rintro e z4 ⟨⟨u4, rfl, hz4⟩, hd4⟩
            have HD4 := Lib.hid ((HD3.out.alloc HD3.out.size _).trans (hd4.mono (by have := HD3.out.size; simp; omega)))
            have HR4 := Lib.hid ((HR3.out.alloc _).below hd4)
            rw [HPK.out] at hz4 ⊢
            obtain ⟨AT, cT, rfl, hr4, _, _, hcT⟩ := hz4.form
            rw [superN_length] at hr4 hcT ⊢
            have hcut : RB z4 AT 64 (ys.take 64) := by
              have h := hr4.take (k := 64) (by omega)
              rwa [superN, List.take_left' (sectN_length _), HSO.out] at h
            have HCT := Lib.hid hcut
            obtain rfl : n2 = 256 := by rw [← hl, hlY]
            have HCR := Lib.hid (HR4.out.take (k := 64) (by omega))
            clear hd4 hz4 hr4 hcut HD3 HR3 HR4 HSO HPK HC' hl hlY
            go_wp2_with fail
            go_quiet (refine Calls.quiet_of (same_true (HCT.out.below (drewN_below (Below.refl _ _) _)) (HCR.out.below (drewN_below (Below.refl _ _) _)) (by omega) rfl))
            go_wp2
            go_ret
            exact ⟨rfl, drewN_below HD4.out _⟩
  · rw [packSN_bad hok] at hown2 ⊢
    obtain ⟨A', c', rfl, _⟩ := hown2.form
    clear hown2 hok HC HSA2
    go_wp2_with fail
    refine (copied_any A2 n2 c2 ys _ (HY.out.below HB2.out) hn2).mono ?_
    rintro e z1 ⟨u1, rfl, hz1, hd1⟩
    have HD1 := Lib.hid (HB2.out.trans (hd1.mono HB2.out.size))
    obtain ⟨AR, cR, rfl, hr1, _, _, hcR⟩ := hz1.form
    rw [hlY] at hr1 hcR ⊢
    have HR1 := Lib.hid hr1
    clear hd1 hz1 hr1 HB2
    go_wp2_with fail
    refine (copied_any AR n2 cR ys _ HR1.out hn2).mono ?_
    rintro e z2 ⟨u2, rfl, hz2, hd2⟩
    have HD2 := Lib.hid (HD1.out.trans (hd2.mono HD1.out.size))
    have HR2 := Lib.hid (HR1.out.below hd2)
    obtain ⟨AS, cS, rfl, hr2, _, _, hcS⟩ := hz2.form
    rw [hlY] at hr2 hcS ⊢
    have HS2 := Lib.hid hr2
    clear hd2 hz2 hr2 HD1 HR1
    go_wp2_with fail
    refine (unpackSuper_any AS n2 cS ys _ HS2.out hcS).mono ?_
    rintro e z3 ⟨he3, hd3⟩
    unfold UnpackedS at he3
    have HD3 := Lib.hid (HD2.out.trans (hd3.mono HD2.out.size))
    have HR3 := Lib.hid (HR2.out.below hd3)
    clear hd3 HD2 HR2 HS2
    rcases us_cases (xs := ys) with ⟨eu, hne⟩ | ⟨hl, hw, hf, ho⟩
    · rw [eu] at he3
      subst he3
      have hne' : ((((unsupN ys).2 : Nat) : Int) != 0) = true := by rw [bne_iff_ne]; omega
      clear eu hne
      generalize (unsupN ys).2 = er at *
      unfold supV Sup.zero
      dsimp only
      go_wp2_with fail
      go_ret
      exact ⟨rfl, HD3.out.alloc HD3.out.size _⟩
    · have HU := us_ok hl hw hf ho
      have HSO := Lib.hid (us_only hBY hl hw hf ho)
      have HPK := Lib.hid (packSN_ok ho)
      rw [HU] at he3
      subst he3
      clear HU hw hf
      obtain ⟨a', b', c', d', p', ht⟩ : ∃ a' b' c' d' p', toldN ys = ⟨a', b', c', d', p'⟩ := ⟨_, _, _, _, _, rfl⟩
      rw [ht] at HSO HPK ⊢
      clear ht ho
      have HC' : Hid (∀ w, Calls Try.prog 13 #[.agg #[.int .i64 a', .int .i64 b', .int .i64 c', .int .i64 d', .int .i64 p']] w fun e w' => PackedS w.heap.size ⟨a', b', c', d', p'⟩ e w' ∧ Below w.heap.size w w') := packSuper_any ⟨a', b', c', d', p'⟩
      unfold supV
      dsimp only
      go_wp2_with fail
      refine (HC'.out _).mono ?_
      rintro e z4 ⟨⟨u4, rfl, hz4⟩, hd4⟩
      have HD4 := Lib.hid ((HD3.out.alloc HD3.out.size _).trans (hd4.mono (by have := HD3.out.size; simp; omega)))
      have HR4 := Lib.hid ((HR3.out.alloc _).below hd4)
      rw [HPK.out] at hz4 ⊢
      obtain ⟨AT, cT, rfl, hr4, _, _, hcT⟩ := hz4.form
      rw [superN_length] at hr4 hcT ⊢
      have hcut : RB z4 AT 64 (ys.take 64) := by
        have h := hr4.take (k := 64) (by omega)
        rwa [superN, List.take_left' (sectN_length _), HSO.out] at h
      have HCT := Lib.hid hcut
      obtain rfl : n2 = 256 := by rw [← hl, hlY]
      have HCR := Lib.hid (HR4.out.take (k := 64) (by omega))
      clear hd4 hz4 hr4 hcut HD3 HR3 HR4 HSO HPK HC' hl hlY
      go_wp2_with fail
      go_quiet (refine Calls.quiet_of (same_true (HCT.out.below (drewN_below (Below.refl _ _) _)) (HCR.out.below (drewN_below (Below.refl _ _) _)) (by omega) rfl))
      go_wp2
      go_ret
      exact ⟨rfl, drewN_below HD4.out _⟩
end Go.Proofs.Ytbjbpgbpefkbhaa
