/- ledgerlaw3.BatchFresh: the walk. -/
import Derived.Test.YtkpbeibcfaenhaaKg
namespace Go.Proofs.Ytkpbeibcfaenhaa
open Go.RowKit
/-- The lists of changes that came in. -/
def LstsAt (w : World) (P : Option Addr) (M : Nat) (NN : Nat → Nat) (XX : Nat → Nat → Chg) : Prop :=
  ∀ i, i < M → ∃ ad A C, P = some ad ∧ ad.block < w.heap.size ∧ w.cell? (ad.add i) = some (.slice A (NN i) C) ∧ ChsAt w A (NN i) (XX i) ∧ NN i ≤ C ∧ NN i ≤ 1048576 ∧ ∀ k, k < NN i → (XX i k).val.length ≤ 1048576
theorem Ph.begin_ {w w1 : World} {gb : Nat} (hb : BlkIs w1 gb 61 #[.slice none 0 0, .slice none 0 0, .slice none 0 0, .slice none 0 0]) (hbel : Below w.heap.size w w1) (hg : w.heap.size ≤ gb) : Ph w w1 gb [] [] [] (fun _ => True) := by
  refine ⟨fun _ => .slice none 0 0, [], [], fun _ => False, ?_⟩
  have hx : ∀ j, xsK [] [] [] [] j = [] := fun j => by unfold xsK; split <;> (try split) <;> (try split) <;> (try split) <;> rfl
  refine { heads := ⟨hb, (fun j _ => by rw [hx]; exact World.ownsRow_nil _ _ _ _), (fun i j _ _ _ B hB => by cases hB), (fun j _ h => by cases h), hg⟩, objs := Obs.nil _ _, inR := fun o ho => by simp at ho, rlt := fun B h => h.elim, sp := fun B _ h => h, lenB := rfl, lenC := rfl, eqB := fun i o u h => by simp at h, eqC := fun i o u h => by simp at h, dep := fun _ _ _ => trivial, bel := hbel }
theorem Ph.more {w0 w w' : World} {gb : Nat} {KL LL pd new : List Ob} {E : World → Prop} (h : Ph w0 w gb KL LL pd E) (hb : Below w.heap.size w w') (ho : Obs w' w.heap.size new) : Ph w0 w' gb KL LL (new ++ pd) E :=
  ((h.grow hb ho (E' := fun _ => True) (fun _ _ _ => trivial)).perm List.perm_append_comm).imp fun _ h => h.1
theorem Ph.moreE {w0 w w' : World} {gb : Nat} {KL LL pd new : List Ob} {E E' : World → Prop} (h : Ph w0 w gb KL LL pd E) (hb : Below w.heap.size w w') (ho : Obs w' w.heap.size new) (hE : Dep (fun B => w.heap.size ≤ B ∧ B < w'.heap.size) w' E') : Ph w0 w' gb KL LL (new ++ pd) fun w => E w ∧ E' w :=
  (h.grow hb ho hE).perm List.perm_append_comm
theorem perm_three {α : Type} (a b c z : List α) : (a ++ (b ++ (c ++ z))).Perm (c ++ (b ++ (a ++ z))) :=
  ((List.perm_append_comm_assoc b c z).append_left a).trans ((List.perm_append_comm_assoc a c (b ++ z)).trans ((List.perm_append_comm_assoc a b z).append_left c))
theorem none_build : buildE (fun _ => default) 0 = 0 ∧ rawOf (fun _ => default) 0 = [0, 0] := by
  constructor
  · rfl
  · rfl
set_option maxRecDepth 100000 in
set_option maxHeartbeats 8000000 in
theorem batchFresh_walk (P : Option Addr) (M c : Nat) (NN : Nat → Nat) (XX : Nat → Nat → Chg) (w : World) (hx : LstsAt w P M NN XX) (hM : M ≤ 1048576) :
    Calls Try.prog 9 #[.slice P M c] w fun e w' => e = .returned (.bool true) ∧ Below w.heap.size w w' := by
  have HX := Lib.hid hx
  clear hx
  go_enter Try.func9, Try.ntmps9
  go_wp2_with ((with_reducible refine stopAt (o := ⟨some 28, _, _, _, _, _⟩) ?_); refine boxNew (o := ⟨some 28, _, _, _, _, _⟩) (by rfl) 61 (.tmp 27) rfl _ rfl ?_; intro w1 HB1 HW1 HS1)
  have HP1 := Lib.hid (Ph.begin_ HB1.out HW1.out (Nat.le_refl _))
  clear HB1 HW1 HS1
  obtain ⟨gb, hgb⟩ : ∃ gb, w.heap.size = gb := ⟨_, rfl⟩
  have HGB := Lib.hid hgb
  have HP : Hid (Ph w w1 gb [] [] [] (fun _ => True)) := by rw [← hgb]; exact HP1.out
  rw [hgb]
  clear HP1 hgb
  go_loopw [4] (fun i wr => ∃ (k : Nat) (KL : List Ob), k ≤ 2 ∧ i = .int .i64 k ∧ Hid (KL.length = k) ∧ Hid (Ph w wr gb KL [] [] (fun _ => True))) (fun i _ => 2 - (intOf i).toNat)
  case atStart => exact ⟨0, [], by omega, rfl, rfl, HP.out⟩
  case round =>
    clear HP
    obtain ⟨k, KL, hk, rfl, HKL, HP⟩ := hrel
    obtain ⟨w2, rfl⟩ : ∃ w2, w2 = wr := ⟨_, rfl⟩
    by_cases hlt : k < 2
    · have hlt' : (k : Int) < 2 := by omega
      go_wp2_with fail
      refine (build_any none 0 0 (fun _ => default) w2 ⟨Nat.zero_le _, fun k hk => by omega⟩).mono ?_
      intro e w3 hp
      obtain ⟨Ar, cr, rfl, hor, hb3⟩ := build_own hp
      rw [none_build.1, none_build.2] at *
      have HOR := Lib.hid hor
      have HP3 := Lib.hid (HP.out.grow hb3 (own_obs hor) (E' := fun _ => True) (fun _ _ _ => trivial))
      obtain ⟨gr, cr', er, _, _, _, hcr⟩ := hor.shape (by simp)
      obtain ⟨e1, _, e3⟩ := slice_inj er
      subst e1 e3
      have b0 := hcr 0 (by simp)
      have b1 := hcr 1 (by simp)
      clear hp hor hb3 hcr er HP
      go_wp2_with fail
      refine (keepB_any w w3 gb KL [] [] (fun _ => True ∧ True) _ [0, 0] HP3.out (fun x hx => by simp at hx; omega) (by simp) (by have := HKL.out; omega)).mono ?_
      rintro e w4 ⟨rfl, hp4⟩
      have HP4 : Hid (Ph w w4 gb (KL ++ [byO (.slice (some ⟨gr, 0, none⟩) [0, 0].length cr) [0, 0]]) [] [] (fun _ => True)) := hp4.imp fun _ _ => trivial
      clear hp4 HP3 HOR b0 b1
      go_wp2_with fail
      go_roundw
      case rel => exact ⟨k + 1, _, by omega, by go_num, (by show _ = _; rw [List.length_append, HKL.out]; rfl), HP4.out⟩
      case measure => simp [intOf]; omega
    · have hnlt : ¬ (k : Int) < 2 := by omega
      have HK2 : Hid (KL.length ≤ 2 + 0 * 4194304) := by have := HKL.out; show _ ≤ _; omega
      clear HKL
      go_wp2_with fail
      go_loopw [7] (fun i wr => ∃ (k : Nat) (KL LL pd : List Ob), k ≤ M ∧ k ≤ 12 ∧ i = .int .i64 k ∧ Hid (KL.length ≤ 2 + k * 4194304) ∧ Hid (LL.length ≤ k * 8) ∧ Hid (Ph w wr gb KL LL pd (fun _ => True))) (fun i _ => 12 - (intOf i).toNat)
      case atStart => exact ⟨0, KL, [], [], by omega, by omega, rfl, HK2.out, Nat.le_refl _, HP.out⟩
      case round =>
        clear HP HK2 hlt hnlt
        obtain ⟨i, KL, LL, pd, hiM, hi12, rfl, HKL, HLL, HP⟩ := hrel
        obtain ⟨w3, rfl⟩ : ∃ w3, w3 = wr := ⟨_, rfl⟩
        by_cases hlt : i < M ∧ i < 12
        · have hlt1 : (i : Int) < M := by omega
          have hlt2 : (i : Int) < 12 := by omega
          obtain ⟨nx, hnx, hnxM, hmod⟩ : ∃ nx : Nat, nx = (i + 1) % M ∧ nx < M ∧ ((i : Int) + 1).tmod (M : Int) = (nx : Int) := ⟨(i + 1) % M, rfl, Nat.mod_lt _ (by omega), by rw [Int.tmod_eq_emod_of_nonneg (by omega), Int.natCast_emod]; rfl⟩
          have hM0 : (M : Int) ≠ 0 := by omega
          have hnxM' : (nx : Int) < M := by omega
          obtain ⟨ad, A1, C1, rfl, hb1, hc1, hx1, hn1, hN1, hv1⟩ := HX.out i hlt.1
          obtain ⟨ad', A2, C2, e', hb2, hc2, hx2, hn2, hN2, hv2⟩ := HX.out nx hnxM
          injection e' with e'
          subst e'
          have HXA : Hid (∀ W, Below w.heap.size w W → W.cell? (ad.add i) = some (.slice A1 (NN i) C1) ∧ W.cell? (ad.add nx) = some (.slice A2 (NN nx) C2) ∧ ChsAt W A1 (NN i) (XX i) ∧ ChsAt W A2 (NN nx) (XX nx)) := fun W hW => ⟨cell_later hb1 hW hc1, cell_later hb1 hW hc2, hx1.below hW, hx2.below hW⟩
          have HV1 := Lib.hid hv1
          have HV2 := Lib.hid hv2
          clear hc1 hc2 hx1 hx2 hb1 hb2 hnx hv1 hv2
          generalize NN i = N at *
          generalize XX i = X at *
          generalize NN nx = N2 at *
          generalize XX nx = Y at *
          have hq := HXA.out w3 HP.out.bel
          have c1 := hq.1
          have c2 := hq.2.1
          have HRM := Lib.hid (roomyChanges_any A1 N C1 X w3 hq.2.2.1 (by omega) (fun k hk => by have := HV1.out k hk; omega))
          clear hq
          go_wp2_with fail
          refine HRM.out.mono ?_
          rintro e w4 ⟨g1, V1, D1, G1, rfl, hr1, hd1, hb4⟩
          obtain ⟨cs1, hcs1⟩ := hr1.objs
          have HP4 := Lib.hid (HP.out.moreE hb4 hcs1 hr1.dep)
          have hq := HXA.out w4 HP4.out.bel
          have c3 := hq.1
          have c4 := hq.2.1
          have HRM2 := Lib.hid (roomyChanges_any A2 N2 C2 Y w4 hq.2.2.2 (by omega) (fun k hk => by have := HV2.out k hk; omega))
          clear hq HRM hcs1 hr1 hb4 HP c1 c2
          have hc12 : (N : Int) ≤ (N : Int) + 2 := by omega
          go_wp2_with fail
          refine HRM2.out.mono ?_
          rintro e w5 ⟨g2, V2, D2, G2, rfl, hr2, hd2, hb5⟩
          obtain ⟨cs2, hcs2⟩ := hr2.objs
          have HP5 : Hid (Ph w w5 gb KL LL (rooOs N g1 cs1 X G1 ++ (rooOs N2 g2 cs2 Y G2 ++ pd)) (fun W => Roo W w3.heap.size w4.heap.size g1 N X G1 V1 ∧ Roo W w4.heap.size w5.heap.size g2 N2 Y G2 V2)) := ((HP4.out.moreE hb5 hcs2 hr2.dep).imp fun _ h => ⟨h.1.2, h.2⟩).perm (List.perm_append_comm_assoc _ _ _)
          have HXA5 : Hid (∀ W, Below w.heap.size w W → W.cell? (ad.add i) = some (.slice A1 N C1) ∧ ChsAt W A1 N X ∧ ChsAt W A2 N2 Y) := fun W hW => ⟨(HXA.out W hW).1, (HXA.out W hW).2.2⟩
          have c5 := (HXA5.out w5 HP5.out.bel).1
          clear hcs2 hr2 hb5 HRM2 HP4 c3 c4
          generalize w3.heap.size = s3 at *
          generalize w4.heap.size = s4 at *
          generalize w5.heap.size = s5 at *
          have hn1' : N ≤ N + 2 := by omega
          have hn2' : N2 ≤ N2 + 2 := by omega
          have hc22 : (N2 : Int) ≤ (N2 : Int) + 2 := by omega
          go_wp2_with fail
          go_loopw [15] (fun q wr => ∃ (k : Nat) (KL1 LL1 : List Ob), k ≤ 2 ∧ q = .int .i64 k ∧ Hid (KL1.length ≤ KL.length + k * 8192) ∧ Hid (LL1.length ≤ LL.length + k * 3) ∧ Hid (Ph w wr gb KL1 LL1 (rooOs N g1 cs1 X G1 ++ (rooOs N2 g2 cs2 Y G2 ++ pd)) (fun W => Roo W s3 s4 g1 N X G1 V1 ∧ Roo W s4 s5 g2 N2 Y G2 V2))) (fun q _ => 2 - (intOf q).toNat)
          case atStart => exact ⟨0, KL, LL, by omega, rfl, (by show _ ≤ _; omega), (by show _ ≤ _; omega), HP5.out⟩
          case round =>
            clear HP5 c5 hlt2 hmod hM0 hnxM' hM HGB HX
            obtain ⟨k, KL1, LL1, hk2, rfl, HKL1, HLL1, HP⟩ := hrel
            obtain ⟨w5, rfl⟩ : ∃ w5, w5 = wr := ⟨_, rfl⟩
            obtain ⟨PD, hPD⟩ : ∃ PD, rooOs N g1 cs1 X G1 ++ (rooOs N2 g2 cs2 Y G2 ++ pd) = PD := ⟨_, rfl⟩
            have HPD := Lib.hid hPD
            by_cases hlk : k < 2
            · have hlk' : (k : Int) < 2 := by omega
              have HP0 : Hid (Ph w w5 gb KL1 LL1 PD (fun W => Roo W s3 s4 g1 N X G1 V1 ∧ Roo W s4 s5 g2 N2 Y G2 V2)) := by rw [← hPD]; exact HP.out
              have hkX : ∀ i, i < N → (X i).key.length = 32 := fun i hi => (HP0.out.now.1.key i hi).2
              have HKX := Lib.hid hkX
              have HBD := Lib.hid (build_any (some ⟨g1, 0, none⟩) N (N + 2) X w5 HP0.out.now.1.front)
              clear HP hPD hkX
              go_wp2_with fail
              refine HBD.out.mono ?_
              intro e w6 hp6
              obtain ⟨Ar, cr, rfl, hor, hb6⟩ := build_own hp6
              have hlr := raw_length (X := X) (N := N) HKX.out
              obtain ⟨raw, hraw⟩ : ∃ raw, rawOf X N = raw := ⟨_, rfl⟩
              have HRAW := Lib.hid hraw
              rw [hraw] at hor hlr ⊢
              have HOR := Lib.hid hor
              have HIB := Lib.hid hor.isB
              have HP6 := Lib.hid (HP0.out.more hb6 (own_obs hor))
              have HNM := Lib.hid (normK_any (some ⟨g1, 0, none⟩) N (N + 2) X w6 HP6.out.now.1.front (by omega) (fun k hk => by have := HV1.out k hk; omega))
              clear hp6 hor hb6 hraw HP0 HBD
              go_wp2_with fail
              refine HNM.out.mono ?_
              intro e w7 hp7
              obtain ⟨vN, nN, rfl, ⟨XN, AN, CN, haN, hgN, ⟨aN, dN, rfl⟩, hnN⟩, hwN, hb7⟩ := norm_ret hp7 (fun k hk => by have := HV1.out k hk; omega)
              have HGN := Lib.hid hgN
              have HWN := Lib.hid hwN
              have HP7 := Lib.hid (HP6.out.more hb7 haN.all)
              have HOR7 := Lib.hid (HOR.out.below hb7)
              have HFD := Lib.hid (foldK_any (some ⟨g1, 0, none⟩) (some ⟨g2, 0, none⟩) N N2 (N + 2) (N2 + 2) X Y w7 HP7.out.now.1.front HP7.out.now.2.front (by omega) (by omega) (fun k hk => by have := HV1.out k hk; omega) (fun k hk => by have := HV2.out k hk; omega))
              clear hp7 haN hgN hwN hb7 HP6 HOR HNM
              go_wp2_with fail
              refine HFD.out.mono ?_
              intro e w8 hp8
              obtain ⟨vF, nF, rfl, ⟨XF, AF, CF, haF, hgF, ⟨aF, dF, rfl⟩, hnF⟩, hb8⟩ := fold_ret hp8 (fun k hk => by have := HV1.out k hk; omega) (fun k hk => by have := HV2.out k hk; omega)
              have HGF := Lib.hid hgF
              have HP8 := Lib.hid (HP7.out.more hb8 haF.all)
              have HOR8 := Lib.hid (HOR7.out.below hb8)
              have HPR := Lib.hid (parseK_any Ar raw.length cr raw w8 HOR8.out.reads HOR8.out.room)
              clear hp8 haF hgF hb8 HP7 HOR7 HFD
              generalize foldE X N Y N2 = eF at *
              go_wp2_with fail
              refine HPR.out.mono ?_
              intro e w9 hp9
              obtain ⟨vT, nT, rfl, ⟨XT, AT', CT, haT, hgT, ⟨aT, dT, rfl⟩, hnT⟩, hwT, hb9⟩ := parse_ret hp9 hlr
              have HGT := Lib.hid hgT
              have HP9 := Lib.hid (HP8.out.more hb9 haT.all)
              have hq := HXA5.out w9 HP9.out.bel
              have c9 := hq.1
              have HRI := Lib.hid (right_any A1 N C1 64 X w9 hq.2.1 (by omega))
              have HWT := Lib.hid hwT
              have HYES : Hid (rightB X N 64 = true → buildE X N = 0 ∧ wrongN X N 4096 = 0 ∧ (parseE raw).1 = 0 ∧ nN = N ∧ nT = N) := fun h => by
                obtain ⟨h1, h2, h3, h4⟩ := right_all h HP9.out.now.1.key HP9.out.now.1.isB
                rw [HRAW.out] at h3 h4
                exact ⟨h1, h2, h3, HWN.out h2, (hwT h3).trans h4⟩
              clear hp9 haT hgT hwT hb9 HP8 HOR8 HPR hq
              generalize buildE X N = eB at *
              generalize wrongN X N 4096 = eN at *
              generalize (parseE raw).2 = eP at *
              generalize (parseE raw).1 = eT' at *
              go_wp2_with fail
              refine HRI.out.mono ?_
              rintro e w10 ⟨rfl, q10, hq10⟩
              have HPA : Hid (Ph w w10 gb KL1 LL1 (roO (.slice aN nN dN) nN (flat XN AN CN nN) :: (vaOs XN AN CN nN ++ (roO (.slice aF nF dF) nF (flat XF AF CF nF) :: (vaOs XF AF CF nF ++ (roO (.slice aT nT dT) nT (flat XT AT' CT nT) :: (vaOs XT AT' CT nT ++ (byO (.slice Ar raw.length cr) raw :: PD))))))) (fun W => Roo W s3 s4 g1 N X G1 V1 ∧ Roo W s4 s5 g2 N2 Y G2 V2)) := by
                rw [hq10]
                exact (HP9.out.below (drewN_below (Below.refl _ _) q10)).perm (by simpa using perm_three (roO (.slice aT nT dT) nT (flat XT AT' CT nT) :: vaOs XT AT' CT nT) (roO (.slice aF nF dF) nF (flat XF AF CF nF) :: vaOs XF AF CF nF) (roO (.slice aN nN dN) nN (flat XN AN CN nN) :: vaOs XN AN CN nN) (byO (.slice Ar raw.length cr) raw :: PD))
              clear hq10 HP9 HRI c9
              have HCA : rightB X N 64 = false ∨ (rightB X N 64 = true ∧ eB = 0 ∧ eN = 0 ∧ eT' = 0 ∧ nN = N ∧ nT = N) := by
                cases h : rightB X N 64
                · exact .inl rfl
                · exact .inr ⟨rfl, HYES.out h⟩
              clear HYES HWN HWT
              rcases HCA with hR | ⟨hR, rfl, rfl, rfl, rfl, rfl⟩
              all_goals
                rw [hR]
                clear hR
                go_wp2_with fail
                refine (keepC_any w w10 gb KL1 LL1 _ _ _ _ XN AN CN HPA.out HGN.out (by have := HKL1.out; have := HKL.out; omega) (by have := HLL1.out; have := HLL.out; omega)).mono ?_
                rintro e w11 ⟨rfl, hp11⟩
                have HPB := Lib.hid hp11
                clear hp11 HPA
                go_wp2_with fail
                refine (keepC_any w w11 gb _ _ _ _ _ _ XF AF CF HPB.out HGF.out (by rw [List.length_append, vaOs_length]; have := HKL1.out; have := HKL.out; omega) (by rw [List.length_append]; simp only [List.length_cons, List.length_nil]; have := HLL1.out; have := HLL.out; omega)).mono ?_
                rintro e w12 ⟨rfl, hp12⟩
                have HPC := Lib.hid hp12
                clear hp12 HPB
                go_wp2_with fail
                refine (keepC_any w w12 gb _ _ _ _ _ _ XT AT' CT HPC.out HGT.out (by simp only [List.length_append, vaOs_length]; have := HKL1.out; have := HKL.out; omega) (by simp only [List.length_append, List.length_cons, List.length_nil]; have := HLL1.out; have := HLL.out; omega)).mono ?_
                rintro e w13 ⟨rfl, hp13⟩
                have HPD' := Lib.hid hp13
                clear hp13 HPC
                go_wp2_with fail
                refine (keepB_any w w13 gb _ _ _ _ _ raw HPD'.out HIB.out (by omega) (by simp only [List.length_append, vaOs_length]; have := HKL1.out; have := HKL.out; omega)).mono ?_
                rintro e w14 ⟨rfl, hp14⟩
                have HPE := Lib.hid hp14
                clear hp14 HPD'
                go_wp2_with fail
                have HPE2 := HPE.out
                rw [← HPD.out] at HPE2
                clear HPE
                go_roundw
                case rel => exact ⟨k + 1, _, _, by omega, by go_num, (by show _ ≤ _; simp only [List.length_append, vaOs_length, List.length_cons, List.length_nil]; have := HKL1.out; omega), (by show _ ≤ _; simp only [List.length_append, List.length_cons, List.length_nil]; have := HLL1.out; omega), HPE2⟩
                case measure => simp [intOf]; omega
            · have hnlk : ¬ (k : Int) < 2 := by omega
              have hq := HXA5.out w5 HP.out.bel
              have c5 := hq.1
              have HR1 := Lib.hid (rooIs_true s3 s4 g1 N D1 C1 X X G1 A1 V1 w5 HP.out.now.1 hq.2.1 (fun _ _ => rfl))
              clear hq hPD HPD
              go_wp2_with fail
              refine HR1.out.mono ?_
              rintro e w6 ⟨rfl, hb6⟩
              have HP6 := Lib.hid (HP.out.below hb6)
              have HR2 := Lib.hid (rooIs_true s4 s5 g2 N2 D2 C2 Y Y G2 A2 V2 w6 HP6.out.now.2 (HXA5.out w6 HP6.out.bel).2.2 (fun _ _ => rfl))
              clear hb6 HR1 c5 HP
              go_wp2_with fail
              refine HR2.out.mono ?_
              rintro e w7 ⟨rfl, hb7⟩
              have HP7 : Hid (Ph w w7 gb KL1 LL1 (roO (.slice (some ⟨g1, 0, none⟩) (N + 2) (N + 2)) (N + 2) cs1 :: (rvOs X G1 N ++ (rooOs N2 g2 cs2 Y G2 ++ pd))) (fun W => Roo W s3 s4 g1 N X G1 V1 ∧ Roo W s4 s5 g2 N2 Y G2 V2)) := HP6.out.below hb7
              clear hb7 HR2 HP6
              have hrl1 : ∀ i, i < N + 2 → (rooX N X i).val.length ≤ 140737488355328 := fun i hi => Nat.le_trans (rooX_len (B := 1048576) HV1.out (by omega) i hi) (by omega)
              have hrl2 : ∀ i, i < N2 + 2 → (rooX N2 Y i).val.length ≤ 140737488355328 := fun i hi => Nat.le_trans (rooX_len (B := 1048576) HV2.out (by omega) i hi) (by omega)
              have HL1 := Lib.hid (listC_any w w7 gb KL1 LL1 _ _ _ (N + 2) cs1 (rooX N X) HP7.out (fun R hE _ => hE.imp fun _ h => h.1.chsV) (by omega) hrl1 (by have := HLL1.out; have := HLL.out; omega))
              go_wp2_with fail
              refine HL1.out.mono ?_
              rintro e w8 ⟨rfl, hp8⟩
              have HP8 : Hid (Ph w w8 gb KL1 (LL1 ++ [roO (.slice (some ⟨g1, 0, none⟩) (N + 2) (N + 2)) (N + 2) cs1]) (roO (.slice (some ⟨g2, 0, none⟩) (N2 + 2) (N2 + 2)) (N2 + 2) cs2 :: (rvOs X G1 N ++ (rvOs Y G2 N2 ++ pd))) (fun W => Roo W s3 s4 g1 N X G1 V1 ∧ Roo W s4 s5 g2 N2 Y G2 V2)) := hp8.perm List.perm_middle
              have HL2 := Lib.hid (listC_any w w8 gb KL1 _ _ _ _ (N2 + 2) cs2 (rooX N2 Y) HP8.out (fun R hE _ => hE.imp fun _ h => h.2.chsV) (by omega) hrl2 (by rw [List.length_append]; simp only [List.length_cons, List.length_nil]; have := HLL1.out; have := HLL.out; omega))
              clear hp8 HP7 HL1 hrl1 hrl2
              go_wp2_with fail
              refine HL2.out.mono ?_
              rintro e w9 ⟨rfl, hp9⟩
              obtain ⟨LL2, hLL2⟩ : ∃ LL2, LL1 ++ [roO (.slice (some ⟨g1, 0, none⟩) (N + 2) (N + 2)) (N + 2) cs1] ++ [roO (.slice (some ⟨g2, 0, none⟩) (N2 + 2) (N2 + 2)) (N2 + 2) cs2] = LL2 := ⟨_, rfl⟩
              have HLL2 : Hid (LL2.length ≤ LL.length + 8) := by
                show _ ≤ _
                rw [← hLL2]
                simp only [List.length_append, List.length_cons, List.length_nil]
                have := HLL1.out
                omega
              rw [hLL2] at hp9
              obtain ⟨EE, hEE, hp9⟩ : ∃ EE : World → Prop, (∀ W, EE W → Roo W s3 s4 g1 N X G1 V1 ∧ Roo W s4 s5 g2 N2 Y G2 V2) ∧ Ph w w9 gb KL1 LL2 (rvOs X G1 N ++ (rvOs Y G2 N2 ++ pd)) EE := ⟨_, fun _ h => h, hp9⟩
              have HEE := Lib.hid hEE
              have HP9 := Lib.hid hp9
              have HKL2 : Hid (KL1.length ≤ KL.length + 16384) := by
                show _ ≤ _
                have := HKL1.out
                omega
              clear hp9 hEE hLL2 HP8 HL2 HLL1 HKL1 hk2
              go_wp2_with fail
              go_loopw [25] (fun q wr => ∃ (m : Nat) (KL2 : List Ob), m ≤ N ∧ q = .int .i64 m ∧ Hid (KL2.length ≤ KL.length + 16384 + m) ∧ Hid (Ph w wr gb KL2 LL2 ((rvOs X G1 N).drop m ++ (rvOs Y G2 N2 ++ pd)) EE)) (fun q _ => N - (intOf q).toNat)
              case atStart => exact ⟨0, KL1, by omega, rfl, HKL2.out, HP9.out⟩
              case round =>
                clear HP9 HKL2
                obtain ⟨m, KL2, hm, rfl, HKL2, HP⟩ := hrel
                obtain ⟨w9, rfl⟩ : ∃ w9, w9 = wr := ⟨_, rfl⟩
                by_cases hlm : m < N
                · have hlm' : (m : Int) < N := by omega
                  obtain ⟨b, rfl, _, _, _, _, hcb⟩ := (HEE.out _ HP.out.now).1.vals m hlm
                  have HPm : Hid (Ph w w9.drew gb KL2 LL2 (byO (.slice (some ⟨G1 m, 0, none⟩) ((X m).val.length + 100) ((X m).val.length + 100)) (rooN (X m).val) :: ((rvOs X G1 N).drop (m + 1) ++ (rvOs Y G2 N2 ++ pd))) EE) := by
                    have h1 := HP.out
                    rw [rvOs_drop hlm] at h1
                    exact h1.below (drewN_below (Below.refl _ _) 1)
                  have HKB := Lib.hid (keepB_any w w9.drew gb KL2 LL2 _ _ _ _ HPm.out (rooN_isB ((HEE.out _ HP.out.now).1.isB m hlm)) (by rw [rooN_length]; have := HV1.out m hlm; omega) (by have := HKL2.out; have := HKL.out; omega))
                  have hcb2 : w9.drew.cell? ⟨b, m, none⟩ = some (.slice (some ⟨G1 m, 0, none⟩) ((X m).val.length + 100) ((X m).val.length + 100)) := hcb
                  clear hcb HP HPm
                  go_wp2_with fail
                  rename_i KK hKK
                  have HKK := Lib.hid hKK
                  clear hKK
                  refine wp_region_upTo (S := fun w' => w'.cell? ⟨b, m, none⟩ = some (.slice (some ⟨G1 m, 0, none⟩) ((X m).val.length + 100) ((X m).val.length + 100))) 7 (by kernel_rfl) hcb2 fun hH => ?_
                  refine wpAnyU_take (i := 0) (oi := ⟨some 201, _, _, _, _, _⟩) [1, 2, 7] rfl (by kernel_rfl) (by kernel_rfl) (by kernel_rfl) (fun _ _ _ h => h) (by kernel_rfl) (by kernel_rfl) (by kernel_rfl) (Or.inl ⟨by rfl, fun w hw => by (try dsimp only at hw); go_simp; with_reducible rfl⟩) (by assumption) ?_
                  try simp only [Act.put, List.setIfInBounds_toArray, List.set_cons_zero, List.set_cons_succ]
                  refine wpAnyU_take (i := 1) (oi := ⟨some 202, _, _, _, _, _⟩) [2, 7] rfl (by kernel_rfl) (by kernel_rfl) (by kernel_rfl) (fun _ _ _ h => h) (by kernel_rfl) (by kernel_rfl) (by kernel_rfl) (Or.inl ⟨by rfl, fun w hw => by (try dsimp only at hw); go_simp; with_reducible rfl⟩) (by assumption) ?_
                  try simp only [Act.put, List.setIfInBounds_toArray, List.set_cons_zero, List.set_cons_succ]
                  refine wpAnyU_take (i := 2) (oi := ⟨some 203, _, _, _, _, _⟩) [7] rfl (by kernel_rfl) (by kernel_rfl) (by kernel_rfl) (fun _ _ _ h => h) (by kernel_rfl) (by kernel_rfl) (by kernel_rfl) (Or.inl ⟨by rfl, fun w hw => by (try dsimp only at hw); go_simp; with_reducible rfl⟩) (by assumption) ?_
                  try simp only [Act.put, List.setIfInBounds_toArray, List.set_cons_zero, List.set_cons_succ]
                  refine wpAnyU_take (i := 3) (oi := ⟨some 204, _, _, _, _, _⟩) [5, 6, 7] rfl (by kernel_rfl) (by kernel_rfl) (by kernel_rfl) (fun _ _ _ h => h) (by kernel_rfl) (by kernel_rfl) (by kernel_rfl) (Or.inl ⟨by rfl, fun w hw => by (try dsimp only at hw); go_simp; with_reducible rfl⟩) (by assumption) ?_
                  try simp only [Act.put, List.setIfInBounds_toArray, List.set_cons_zero, List.set_cons_succ]
                  refine wpAnyU_take (i := 4) (oi := ⟨some 205, _, _, _, _, _⟩) [5, 6, 7] rfl (by kernel_rfl) (by kernel_rfl) (by kernel_rfl) (fun _ _ _ h => h) (by kernel_rfl) (by kernel_rfl) (by kernel_rfl) (Or.inl ⟨by rfl, fun w hw => by (try dsimp only at hw); go_simp; with_reducible rfl⟩) (by assumption) ?_
                  try simp only [Act.put, List.setIfInBounds_toArray, List.set_cons_zero, List.set_cons_succ]
                  refine wpAnyU_take (i := 5) (oi := ⟨some 206, _, _, _, _, _⟩) [6, 7] rfl (by kernel_rfl) (by kernel_rfl) (by kernel_rfl) (fun _ _ _ h => h) (by kernel_rfl) (by kernel_rfl) (by kernel_rfl) (Or.inl ⟨by rfl, fun w hw => by (try dsimp only at hw); go_simp; with_reducible rfl⟩) (by assumption) ?_
                  try simp only [Act.put, List.setIfInBounds_toArray, List.set_cons_zero, List.set_cons_succ]
                  refine wpAnyU_take (i := 6) (oi := ⟨some 207, _, _, _, _, _⟩) [7] rfl (by kernel_rfl) (by kernel_rfl) (by kernel_rfl) (fun _ _ _ h => h) (by kernel_rfl) (by kernel_rfl) (by kernel_rfl) (Or.inl ⟨by rfl, fun w hw => by (try dsimp only at hw); go_simp; with_reducible rfl⟩) (by assumption) ?_
                  try simp only [Act.put, List.setIfInBounds_toArray, List.set_cons_zero, List.set_cons_succ]
                  refine wpAnyU_one (i := 7) (by kernel_rfl) rfl (fun K hK => ?_)
                  go_simp
                  refine HKB.out.mono ?_
                  rintro e w10 ⟨rfl, hp10⟩
                  have HP10 := Lib.hid hp10
                  refine hK.out _ _ (fun h => by cases h) ?_
                  refine wpAnyU_done (by kernel_rfl) ?_ _
                  clear hK hp10 HKB hcb2 hH
                  change KK _ _
                  refine HKK.out _ _ ?_
                  clear HKK KK
                  go_wp2_with fail
                  have hlen : (KL2 ++ [byO (.slice (some ⟨G1 m, 0, none⟩) ((X m).val.length + 100) ((X m).val.length + 100)) (rooN (X m).val)]).length ≤ KL.length + 16384 + (m + 1) := by
                    rw [List.length_append]
                    simp only [List.length_cons, List.length_nil]
                    have := HKL2.out
                    omega
                  go_roundw
                  case rel => exact ⟨m + 1, _, by omega, by go_num, hlen, HP10.out⟩
                  case measure => simp [intOf]; omega
                · have hnlm : ¬ (m : Int) < N := by omega
                  have HP10 : Hid (Ph w w9 gb KL2 LL2 (rvOs Y G2 N2 ++ pd) EE) := by
                    have h1 := HP.out
                    rwa [List.drop_of_length_le (by rw [rvOs_length]; omega), List.nil_append] at h1
                  have HKL3 : Hid (KL2.length ≤ KL.length + 16384 + 1048576) := by
                    show _ ≤ _
                    have := HKL2.out
                    omega
                  clear HP HKL2
                  go_wp2_with fail
                  go_loopw [26] (fun q wr => ∃ (m : Nat) (KL3 : List Ob), m ≤ N2 ∧ q = .int .i64 m ∧ Hid (KL3.length ≤ KL.length + 16384 + 1048576 + m) ∧ Hid (Ph w wr gb KL3 LL2 ((rvOs Y G2 N2).drop m ++ pd) EE)) (fun q _ => N2 - (intOf q).toNat)
                  case atStart => exact ⟨0, KL2, by omega, rfl, HKL3.out, HP10.out⟩
                  case round =>
                    clear HP10 HKL3
                    obtain ⟨m, KL3, hm, rfl, HKL3, HP⟩ := hrel
                    obtain ⟨w9, rfl⟩ : ∃ w9, w9 = wr := ⟨_, rfl⟩
                    by_cases hlm : m < N2
                    · have hlm' : (m : Int) < N2 := by omega
                      obtain ⟨b, rfl, _, _, _, _, hcb⟩ := (HEE.out _ HP.out.now).2.vals m hlm
                      have HPm : Hid (Ph w w9.drew gb KL3 LL2 (byO (.slice (some ⟨G2 m, 0, none⟩) ((Y m).val.length + 100) ((Y m).val.length + 100)) (rooN (Y m).val) :: ((rvOs Y G2 N2).drop (m + 1) ++ pd)) EE) := by
                        have h1 := HP.out
                        rw [rvOs_drop hlm] at h1
                        exact h1.below (drewN_below (Below.refl _ _) 1)
                      have HKB := Lib.hid (keepB_any w w9.drew gb KL3 LL2 _ _ _ _ HPm.out (rooN_isB ((HEE.out _ HP.out.now).2.isB m hlm)) (by rw [rooN_length]; have := HV2.out m hlm; omega) (by have := HKL3.out; have := HKL.out; omega))
                      have hcb2 : w9.drew.cell? ⟨b, m, none⟩ = some (.slice (some ⟨G2 m, 0, none⟩) ((Y m).val.length + 100) ((Y m).val.length + 100)) := hcb
                      clear hcb HP HPm
                      go_wp2_with fail
                      rename_i KK hKK
                      have HKK := Lib.hid hKK
                      clear hKK
                      refine wp_region_upTo (S := fun w' => w'.cell? ⟨b, m, none⟩ = some (.slice (some ⟨G2 m, 0, none⟩) ((Y m).val.length + 100) ((Y m).val.length + 100))) 7 (by kernel_rfl) hcb2 fun hH => ?_
                      refine wpAnyU_take (i := 0) (oi := ⟨some 215, _, _, _, _, _⟩) [1, 2, 7] rfl (by kernel_rfl) (by kernel_rfl) (by kernel_rfl) (fun _ _ _ h => h) (by kernel_rfl) (by kernel_rfl) (by kernel_rfl) (Or.inl ⟨by rfl, fun w hw => by (try dsimp only at hw); go_simp; with_reducible rfl⟩) (by assumption) ?_
                      try simp only [Act.put, List.setIfInBounds_toArray, List.set_cons_zero, List.set_cons_succ]
                      refine wpAnyU_take (i := 1) (oi := ⟨some 216, _, _, _, _, _⟩) [2, 7] rfl (by kernel_rfl) (by kernel_rfl) (by kernel_rfl) (fun _ _ _ h => h) (by kernel_rfl) (by kernel_rfl) (by kernel_rfl) (Or.inl ⟨by rfl, fun w hw => by (try dsimp only at hw); go_simp; with_reducible rfl⟩) (by assumption) ?_
                      try simp only [Act.put, List.setIfInBounds_toArray, List.set_cons_zero, List.set_cons_succ]
                      refine wpAnyU_take (i := 2) (oi := ⟨some 217, _, _, _, _, _⟩) [7] rfl (by kernel_rfl) (by kernel_rfl) (by kernel_rfl) (fun _ _ _ h => h) (by kernel_rfl) (by kernel_rfl) (by kernel_rfl) (Or.inl ⟨by rfl, fun w hw => by (try dsimp only at hw); go_simp; with_reducible rfl⟩) (by assumption) ?_
                      try simp only [Act.put, List.setIfInBounds_toArray, List.set_cons_zero, List.set_cons_succ]
                      refine wpAnyU_take (i := 3) (oi := ⟨some 218, _, _, _, _, _⟩) [5, 6, 7] rfl (by kernel_rfl) (by kernel_rfl) (by kernel_rfl) (fun _ _ _ h => h) (by kernel_rfl) (by kernel_rfl) (by kernel_rfl) (Or.inl ⟨by rfl, fun w hw => by (try dsimp only at hw); go_simp; with_reducible rfl⟩) (by assumption) ?_
                      try simp only [Act.put, List.setIfInBounds_toArray, List.set_cons_zero, List.set_cons_succ]
                      refine wpAnyU_take (i := 4) (oi := ⟨some 219, _, _, _, _, _⟩) [5, 6, 7] rfl (by kernel_rfl) (by kernel_rfl) (by kernel_rfl) (fun _ _ _ h => h) (by kernel_rfl) (by kernel_rfl) (by kernel_rfl) (Or.inl ⟨by rfl, fun w hw => by (try dsimp only at hw); go_simp; with_reducible rfl⟩) (by assumption) ?_
                      try simp only [Act.put, List.setIfInBounds_toArray, List.set_cons_zero, List.set_cons_succ]
                      refine wpAnyU_take (i := 5) (oi := ⟨some 220, _, _, _, _, _⟩) [6, 7] rfl (by kernel_rfl) (by kernel_rfl) (by kernel_rfl) (fun _ _ _ h => h) (by kernel_rfl) (by kernel_rfl) (by kernel_rfl) (Or.inl ⟨by rfl, fun w hw => by (try dsimp only at hw); go_simp; with_reducible rfl⟩) (by assumption) ?_
                      try simp only [Act.put, List.setIfInBounds_toArray, List.set_cons_zero, List.set_cons_succ]
                      refine wpAnyU_take (i := 6) (oi := ⟨some 221, _, _, _, _, _⟩) [7] rfl (by kernel_rfl) (by kernel_rfl) (by kernel_rfl) (fun _ _ _ h => h) (by kernel_rfl) (by kernel_rfl) (by kernel_rfl) (Or.inl ⟨by rfl, fun w hw => by (try dsimp only at hw); go_simp; with_reducible rfl⟩) (by assumption) ?_
                      try simp only [Act.put, List.setIfInBounds_toArray, List.set_cons_zero, List.set_cons_succ]
                      refine wpAnyU_one (i := 7) (by kernel_rfl) rfl (fun K hK => ?_)
                      go_simp
                      refine HKB.out.mono ?_
                      rintro e w10 ⟨rfl, hp10⟩
                      have HP11 := Lib.hid hp10
                      refine hK.out _ _ (fun h => by cases h) ?_
                      refine wpAnyU_done (by kernel_rfl) ?_ _
                      clear hK hp10 HKB hcb2 hH
                      change KK _ _
                      refine HKK.out _ _ ?_
                      clear HKK KK
                      go_wp2_with fail
                      have hlen : (KL3 ++ [byO (.slice (some ⟨G2 m, 0, none⟩) ((Y m).val.length + 100) ((Y m).val.length + 100)) (rooN (Y m).val)]).length ≤ KL.length + 16384 + 1048576 + (m + 1) := by
                        rw [List.length_append]
                        simp only [List.length_cons, List.length_nil]
                        have := HKL3.out
                        omega
                      go_roundw
                      case rel => exact ⟨m + 1, _, by omega, by go_num, hlen, HP11.out⟩
                      case measure => simp [intOf]; omega
                    · have hnlm2 : ¬ (m : Int) < N2 := by omega
                      have HP12 : Hid (Ph w w9 gb KL3 LL2 pd (fun _ => True)) := by
                        have h1 := HP.out
                        rw [List.drop_of_length_le (by rw [rvOs_length]; omega), List.nil_append] at h1
                        exact h1.imp fun _ _ => trivial
                      have HKe : Hid (KL3.length ≤ 2 + (i + 1) * 4194304) := by
                        show _ ≤ _
                        have := HKL3.out
                        have := HKL.out
                        omega
                      have HLe : Hid (LL2.length ≤ (i + 1) * 8) := by
                        show _ ≤ _
                        have := HLL2.out
                        have := HLL.out
                        omega
                      clear HP HKL3 HLL2 HKL HLL
                      go_wp2_with fail
                      go_roundw
                      case rel => exact ⟨i + 1, KL3, LL2, pd, by omega, by omega, by go_num, HKe.out, HLe.out, HP12.out⟩
                      case measure => simp [intOf]; omega
        · have HUN := Lib.hid (untouchedC_any w w3 gb KL LL pd _ HP.out (by have := HKL.out; omega) (by have := HLL.out; omega))
          have hor : (i : Int) < M ∧ ¬ (i : Int) < 12 ∨ ¬ (i : Int) < M := by omega
          rcases hor with ⟨hlt1, hlt2⟩ | hlt1
          all_goals
            clear hlt
            go_wp2_with fail
            refine HUN.out.mono ?_
            rintro e w4 ⟨rfl, q, hq⟩
            have HP4 : Hid (Ph w w4 gb KL LL pd (fun _ => True)) := by rw [hq]; exact HP.out.below (drewN_below (Below.refl _ _) q)
            have HLA := Lib.hid (HP4.out.last (by have := HKL.out; omega) (by have := HLL.out; omega))
            clear hq HP HUN HP4
            go_wp2_with fail
            refine HLA.out.mono ?_
            rintro e w5 ⟨rfl, hb⟩
            have HB := Lib.hid hb
            clear hb HLA
            go_wp2_with fail
            go_ret
            exact ⟨rfl, HB.out⟩
end Go.Proofs.Ytkpbeibcfaenhaa
