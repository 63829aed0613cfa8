/- batch.Fold. (printed by gen_fold.py) -/
import Derived.Test.YtkpbeibcfaenhaaGi
namespace Go.Proofs.Ytkpbeibcfaenhaa
open Go.RowKit
def lenV : Value → Nat
  | .slice _ n _ => n
  | _ => 0
theorem lst_cons (P : Nat → Chg) {p : Nat} (h : 0 < p) : lst P p = P 0 :: lst (fun k => P (1 + k)) (p - 1) := by
  have h1 := lst_add P 1 (p - 1)
  rw [show 1 + (p - 1) = p by omega] at h1
  rw [h1]
  simp [lst]
theorem nrm_wrong {X : Nat → Chg} {N : Nat} (h : wrongN X N 4096 = 0) : repN X N < 0 := (wrong_zero h).2
theorem chsat_good {w : World} {A : Option Addr} {N : Nat} {Z : Nat → Chg} (h : ChsAt w A N Z) : ∀ i, i < N → GoodK (Z i) := fun i hi => by
  obtain ⟨_, _, _, _, _, _, _, h1, h2, _⟩ := h.2 i hi
  exact ⟨h1, h2⟩
/-- How far the folding is: n changes are out, p and q are left. -/
structure FoldI (w0 : World) (F : List Chg) (n : Nat) (v : Value) (Z : Nat → Chg) (Ad : Nat → Option Addr) (Cp : Nat → Nat) (P Q : Nat → Chg) (p q : Nat) (w : World) : Prop where
  below : Below w0.heap.size w0 w
  own : ChsOwn w w0.heap.size v n Z Ad Cp
  eq : lst Z n ++ foldL (lst P p) (lst Q q) = F
  few : n + p + q ≤ 9000
section
variable {w0 w w' : World} {F : List Chg} {n p q : Nat} {v v' : Value} {Z P Q : Nat → Chg} {Ad : Nat → Option Addr} {Cp : Nat → Nat}
theorem FoldI.later (h : FoldI w0 F n v Z Ad Cp P Q p q w) (hb : Below w.heap.size w w') : FoldI w0 F n v Z Ad Cp P Q p q w' :=
  { h with below := h.below.trans (hb.mono h.below.size), own := h.own.later hb }
/-- One more change goes out. -/
theorem FoldI.more (h : FoldI w0 F n v Z Ad Cp P Q p q w) {x : Chg} {A : Option Addr} {C : Nat} {P' Q' : Nat → Chg} {p' q' : Nat} (hk : IsB x.key ∧ x.key.length = 32) (hv : RB w0 A x.val.length x.val ∧ x.val.length ≤ C ∧ C ≤ maxLen ∧ (A = none → C = 0))
    (ho : w'.ownsRow w0.heap.size 45 34 v' (n + 1) (flat Z Ad Cp n ++ chC x A C)) (hg : w.grownBy w' v.ownBlock) (hl : Lies w v v') (he : foldL (lst P p) (lst Q q) = x :: foldL (lst P' p') (lst Q' q')) (hpq : p' + q' + 1 ≤ p + q) :
    FoldI w0 F (n + 1) v' (upd Z n x) (upd Ad n A) (upd Cp n C) P' Q' p' q' w' :=
  { below := h.below.grown hg h.below.size h.own.ge
    own := h.own.more hk ⟨hv.1.below h.below, hv.2⟩ (fun h0 ad e he => by
      obtain ⟨ad', e', hb, _⟩ := hv.1.2.2 h0
      rw [e] at e'
      injection e' with e'
      have := h.own.ge _ he.symm
      rw [← e'] at hb
      omega) ho hg hl
    eq := by rw [lst_upd, List.append_assoc, List.singleton_append, ← he, h.eq]
    few := by have := h.few; omega }
end
def FoldPost (X : Nat → Chg) (N : Nat) (Y : Nat → Chg) (M : Nat) (w : World) (e : Ending) (w' : World) : Prop :=
  ∃ v, e = .returned (.tuple #[v, .int .i64 (foldE X N Y M : Nat)]) ∧ Below w.heap.size w w' ∧ (foldE X N Y M = 0 → ∃ Z Ad Cp, ChsOwn w' w.heap.size v (foldO X N Y M).length Z Ad Cp ∧ lst Z (foldO X N Y M).length = foldO X N Y M) ∧ (foldE X N Y M ≠ 0 → v = .slice none 0 0)
theorem foldE_left {X Y : Nat → Chg} {N M : Nat} (h : wrongN X N 4096 ≠ 0) : foldE X N Y M = wrongN X N 4096 := if_neg h
theorem foldE_right {X Y : Nat → Chg} {N M : Nat} (h : wrongN X N 4096 = 0) (h2 : wrongN Y M 4096 ≠ 0) : foldE X N Y M = wrongN Y M 4096 := by unfold foldE; rw [if_pos h, if_neg h2]
theorem foldE_both {X Y : Nat → Chg} {N M : Nat} (h : wrongN X N 4096 = 0) (h2 : wrongN Y M 4096 = 0) : foldE X N Y M = if 64 < (foldL (nrm X N) (nrm Y M)).length then 31 else 0 := by unfold foldE; rw [if_pos h, if_pos h2]
theorem norm_open {X : Nat → Chg} {N : Nat} {w w' : World} {e : Ending} (h : NormPost X N w e w') (hg : ∀ i, i < N → GoodK (X i)) : ∃ A C Z, e = .returned (.tuple #[.slice A (normM X N) C, .int .i64 (wrongN X N 4096 : Nat)]) ∧ ChsAt w' A (normM X N) Z ∧ normM X N ≤ C ∧ (wrongN X N 4096 = 0 → normM X N = N ∧ lst Z N = nrm X N ∧ N ≤ 4096) ∧ Below w.heap.size w w' := by
  obtain ⟨A, C, Z, he, hc, hle, hk, hb⟩ := norm_form h
  exact ⟨A, C, Z, he, hc, hle, fun h0 => ⟨if_pos h0, norm_nrm (hk h0) hg (nrm_wrong h0), (heldN_le (wrong_zero h0).1).1⟩, hb⟩
set_option maxRecDepth 100000 in
set_option maxHeartbeats 8000000 in
theorem fold_any (A B : Option Addr) (N M c d : Nat) (X Y : Nat → Chg) (w : World) (hx : ChsAt w A N X) (hy : ChsAt w B M Y) (hn : N * 64 ≤ 140737488355328) (hm : M * 64 ≤ 140737488355328) (hv : ∀ k, k < N → (X k).val.length ≤ 140737488355328) (hv2 : ∀ k, k < M → (Y k).val.length ≤ 140737488355328) :
    Calls Try.prog 33 #[.slice A N c, .slice B M d] w (FoldPost X N Y M w) := by
  have hu := und_key
  have HG := Lib.hid (chsat_good hx)
  have HG2 := Lib.hid (chsat_good hy)
  have HX := Lib.hid (normal_any A N c X w hx hn hv)
  have HY := Lib.hid (fun W (hW : Below w.heap.size w W) => normal_any B M d Y W (hy.below hW) hm hv2)
  clear hx hy hv hv2
  have HD : Hid (∀ v w' (e : Nat), e = foldE X N Y M → (e = 0 → ∃ Z Ad Cp, ChsOwn w' w.heap.size v (foldO X N Y M).length Z Ad Cp ∧ lst Z (foldO X N Y M).length = foldO X N Y M) → (e ≠ 0 → v = .slice none 0 0) → Below w.heap.size w w' → FoldPost X N Y M w (.returned (.tuple #[v, .int .i64 (e : Nat)])) w') := fun v w' e he h1 h2 h3 => by
    subst he
    exact ⟨v, rfl, h3, h1, h2⟩
  generalize FoldPost X N Y M w = R at *
  go_enter Try.func33, Try.ntmps33
  go_wp2_with fail
  refine HX.out.mono ?_
  intro e w1 hp
  obtain ⟨A1, C1, Z1, rfl, hc1, hl1, hk1, hb1⟩ := norm_open hp HG.out
  have HB1 := Lib.hid hb1
  have HC1 := Lib.hid hc1
  have HK1 := Lib.hid hk1
  clear hp hb1 hc1 hk1 HX
  by_cases h0 : wrongN X N 4096 = 0
  · obtain ⟨hm1, hl, hN4⟩ := HK1.out h0
    have HL1 := Lib.hid hl
    rw [hm1] at HC1 hl1 ⊢
    clear hl hm1
    rw [h0]
    go_wp2_with fail
    refine (HY.out w1 HB1.out).mono ?_
    intro e w2 hp
    obtain ⟨A2, C2, Z2, rfl, hc2, hl2, hk2, hb2⟩ := norm_open hp HG2.out
    have HB2 := Lib.hid (HB1.out.trans (hb2.mono HB1.out.size))
    have HC1' := Lib.hid (HC1.out.below hb2)
    have HC2 := Lib.hid hc2
    have HK2 := Lib.hid hk2
    clear hp hb2 hc2 hk2 HC1 HK1 HY
    by_cases h02 : wrongN Y M 4096 = 0
    · obtain ⟨hm2, hl, hM4⟩ := HK2.out h02
      have HL2 := Lib.hid hl
      have HE := Lib.hid (foldE_both h0 h02)
      rw [hm2] at HC2 hl2 ⊢
      clear hl hm2 HK2
      rw [h02]
      clear h0 h02
      have HI0 : Hid (FoldI w2 (foldL (nrm X N) (nrm Y M)) 0 (.slice none 0 0) (fun _ => default) (fun _ => none) (fun _ => 0) Z1 Z2 N M w2) := { below := Below.refl _ _, own := ChsOwn.nil _ _ _ _ _, eq := by rw [HL1.out, HL2.out]; rfl, few := by omega }
      clear HL1 HL2
      go_wp2_with fail
      go_loopw [6, 8, 9] (fun sa sb so wr => ∃ (p q n ca cb : Nat) (Ap Bq : Option Addr) (P Q : Nat → Chg), sa = .slice Ap p ca ∧ sb = .slice Bq q cb ∧ p ≤ ca ∧ q ≤ cb ∧ Hid (ChsAt w2 Ap p P) ∧ Hid (ChsAt w2 Bq q Q) ∧ ∃ Z Ad Cp, Hid (FoldI w2 (foldL (nrm X N) (nrm Y M)) n so Z Ad Cp P Q p q wr)) (fun sa sb _ _ => lenV sa + lenV sb)
      case atStart => exact ⟨N, M, 0, C1, C2, A1, A2, Z1, Z2, rfl, rfl, hl1, hl2, HC1'.out, HC2.out, _, _, _, HI0.out⟩
      case round =>
        clear HI0 HC1' HC2 hl1 hl2
        obtain ⟨p, q, n, ca, cb, Ap, Bq, P, Q, rfl, rfl, hpc, hqc, HP, HQ, Z, Ad, Cp, HI⟩ := hrel
        obtain ⟨w3, rfl⟩ : ∃ w3, w3 = wr := ⟨_, rfl⟩
        have hfew := HI.out.few
        have hp32 : p ≤ 9223372036854775807 := by omega
        have hq32 : q ≤ 9223372036854775807 := by omega
        by_cases hq0 : 0 < q
        · have hq0' : (0 : Int) < (q : Int) := by omega
          have hq1 : ((q : Int) == 0) = false := by rw [beq_eq_false_iff_ne]; omega
          have hq2 : decide ((0 : Int) < (q : Int)) = true := decide_eq_true hq0'
          obtain ⟨bb, ob, Ab, Cb, rfl, hbb, hrb, hkBb, hklb, hvrb, hvCb, hCmb, hnilb⟩ := HQ.out.2 0 hq0
          rw [Nat.zero_mul, Nat.add_zero] at hrb
          have HRRb : Hid (∀ W, Below w2.heap.size w2 W → W.rangeAt bb ob (chC (Q 0) Ab Cb)) := fun W hW => range_below hW hbb hrb
          have HKb := Lib.hid (show IsB (Q 0).key ∧ (Q 0).key.length = 32 from ⟨hkBb, hklb⟩)
          have HVb := Lib.hid (show RB w2 Ab (Q 0).val.length (Q 0).val ∧ (Q 0).val.length ≤ Cb ∧ Cb ≤ maxLen ∧ (Ab = none → Cb = 0) from ⟨hvrb, hvCb, hCmb, hnilb⟩)
          have hszb : (Try.prog.info? 25).map (·.size) = some (bvs (Q 0).key).length := by rw [size_key]; simp [bvs, hklb]
          clear hbb hrb hkBb hklb hvrb hvCb hCmb hnilb
          by_cases hp0 : 0 < p
          · have hp0' : (0 : Int) < (p : Int) := by omega
            have hp2 : decide ((0 : Int) < (p : Int)) = true := decide_eq_true hp0'
            obtain ⟨ba, oa, Aa, Ca, rfl, hba, hra, hkBa, hkla, hvra, hvCa, hCma, hnila⟩ := HP.out.2 0 hp0
            rw [Nat.zero_mul, Nat.add_zero] at hra
            have HRRa : Hid (∀ W, Below w2.heap.size w2 W → W.rangeAt ba oa (chC (P 0) Aa Ca)) := fun W hW => range_below hW hba hra
            have HKa := Lib.hid (show IsB (P 0).key ∧ (P 0).key.length = 32 from ⟨hkBa, hkla⟩)
            have HVa := Lib.hid (show RB w2 Aa (P 0).val.length (P 0).val ∧ (P 0).val.length ≤ Ca ∧ Ca ≤ maxLen ∧ (Aa = none → Ca = 0) from ⟨hvra, hvCa, hCma, hnila⟩)
            have hsza : (Try.prog.info? 25).map (·.size) = some (bvs (P 0).key).length := by rw [size_key]; simp [bvs, hkla]
            clear hba hra hkBa hkla hvra hvCa hCma hnila
            have KS : Hid (∀ W, Below w2.heap.size w2 W → W.rangeAt ba oa (bvs (P 0).key) ∧ W.rangeAt bb ob (bvs (Q 0).key)) := fun W hW => ⟨ch_key (HRRa.out W hW), ch_key (HRRb.out W hW)⟩
            have HI4 := Lib.hid (HI.out.later (drewN_below (Below.refl _ _) 1))
            go_wp2_with fail
            rename_i KK hKK
            have HKK := Lib.hid hKK
            clear hKK
            refine wp_region_held_drew (S := fun w' => w'.rangeAt ba oa (bvs (P 0).key) ∧ w'.rangeAt bb ob (bvs (Q 0).key)) (by kernel_rfl) (KS.out _ HI4.out.below) fun hH => ?_
            refine wpAnyH_take (i := 0) (oi := ⟨some 35, _, _, _, _, _⟩) rfl (by kernel_rfl) (by kernel_rfl) (by kernel_rfl) (fun _ _ _ h => h) (Or.inl ⟨by rfl, fun w hw => by ((try dsimp only at hw); go_split_ands; go_simp; with_reducible rfl)⟩) (by assumption) ?_
            try simp only [Act.put, List.setIfInBounds_toArray, List.set_cons_zero, List.set_cons_succ]
            refine wpAnyH_take (i := 1) (oi := ⟨some 36, _, _, _, _, _⟩) rfl (by kernel_rfl) (by kernel_rfl) (by kernel_rfl) (fun _ _ _ h => h) (Or.inl ⟨by rfl, fun w hw => by ((try dsimp only at hw); go_split_ands; go_simp; with_reducible rfl)⟩) (by assumption) ?_
            try simp only [Act.put, List.setIfInBounds_toArray, List.set_cons_zero, List.set_cons_succ]
            refine wpAnyH_take (i := 2) (oi := ⟨some 37, _, _, _, _, _⟩) rfl (by kernel_rfl) (by kernel_rfl) (by kernel_rfl) (fun _ _ _ h => h) (Or.inl ⟨by rfl, fun w hw => by ((try dsimp only at hw); go_split_ands; go_simp; with_reducible rfl)⟩) (by assumption) ?_
            try simp only [Act.put, List.setIfInBounds_toArray, List.set_cons_zero, List.set_cons_succ]
            refine wpAnyH_take (i := 3) (oi := ⟨some 38, _, _, _, _, _⟩) rfl (by kernel_rfl) (by kernel_rfl) (by kernel_rfl) (fun _ _ _ h => h) (Or.inl ⟨by rfl, fun w hw => by ((try dsimp only at hw); go_split_ands; go_simp; with_reducible rfl)⟩) (by assumption) ?_
            try simp only [Act.put, List.setIfInBounds_toArray, List.set_cons_zero, List.set_cons_succ]
            refine wpAnyH_take (i := 4) (oi := ⟨some 39, _, _, _, _, _⟩) rfl (by kernel_rfl) (by kernel_rfl) (by kernel_rfl) (fun _ _ _ h => h) (Or.inl ⟨by rfl, fun w hw => by ((try dsimp only at hw); go_split_ands; go_simp; with_reducible rfl)⟩) (by assumption) ?_
            try simp only [Act.put, List.setIfInBounds_toArray, List.set_cons_zero, List.set_cons_succ]
            refine wpAnyH_take (i := 5) (oi := ⟨some 40, _, _, _, _, _⟩) rfl (by kernel_rfl) (by kernel_rfl) (by kernel_rfl) (fun _ _ _ h => h) (Or.inl ⟨by rfl, fun w hw => by ((try dsimp only at hw); go_split_ands; go_simp; with_reducible rfl)⟩) (by assumption) ?_
            try simp only [Act.put, List.setIfInBounds_toArray, List.set_cons_zero, List.set_cons_succ]
            refine wpAnyH_take (i := 6) (oi := ⟨some 41, _, _, _, _, _⟩) rfl (by kernel_rfl) (by kernel_rfl) (by kernel_rfl) (fun _ _ _ h => h) (Or.inl ⟨by rfl, fun w hw => by ((try dsimp only at hw); go_split_ands; go_simp; with_reducible rfl)⟩) (by assumption) ?_
            try simp only [Act.put, List.setIfInBounds_toArray, List.set_cons_zero, List.set_cons_succ]
            refine wpAnyH_take (i := 7) (oi := ⟨some 42, _, _, _, _, _⟩) rfl (by kernel_rfl) (by kernel_rfl) (by kernel_rfl) (fun _ _ _ h => h) (Or.inl ⟨by rfl, fun w hw => by ((try dsimp only at hw); go_split_ands; go_simp; with_reducible rfl)⟩) (by assumption) ?_
            try simp only [Act.put, List.setIfInBounds_toArray, List.set_cons_zero, List.set_cons_succ]
            refine wpAnyH_take (i := 8) (oi := ⟨some 43, _, _, _, _, _⟩) rfl (by kernel_rfl) (by kernel_rfl) (by kernel_rfl) (fun _ _ _ h => h) (Or.inl ⟨by rfl, fun w hw => by ((try dsimp only at hw); go_split_ands; go_simp; with_reducible rfl)⟩) (by assumption) ?_
            try simp only [Act.put, List.setIfInBounds_toArray, List.set_cons_zero, List.set_cons_succ]
            refine wpAnyH_take (i := 9) (oi := ⟨some 44, _, _, _, _, _⟩) rfl (by kernel_rfl) (by kernel_rfl) (by kernel_rfl) (fun _ _ _ h => h) (Or.inl ⟨by rfl, fun w hw => by ((try dsimp only at hw); go_split_ands; go_simp; with_reducible rfl)⟩) (by assumption) ?_
            try simp only [Act.put, List.setIfInBounds_toArray, List.set_cons_zero, List.set_cons_succ]
            refine wpAnyH_take (i := 10) (oi := ⟨some 45, _, _, _, _, _⟩) rfl (by kernel_rfl) (by kernel_rfl) (by kernel_rfl) (fun _ _ _ h => h) (Or.inl ⟨by rfl, fun w hw => by ((try dsimp only at hw); go_split_ands; go_simp; with_reducible rfl)⟩) (by assumption) ?_
            try simp only [Act.put, List.setIfInBounds_toArray, List.set_cons_zero, List.set_cons_succ]
            refine wpAnyH_take (i := 11) (oi := ⟨some 46, _, _, _, _, _⟩) rfl (by kernel_rfl) (by kernel_rfl) (by kernel_rfl) (fun _ _ _ h => h) (yieldsIf_load_mid (by rfl) _ _ rfl _ _ rfl _ _ (fun w hw => by (try dsimp only at hw); go_split_ands; assumption) (by assumption) rfl (by assumption)) (by assumption) ?_
            try simp only [Act.put, List.setIfInBounds_toArray, List.set_cons_zero, List.set_cons_succ]
            refine wpAnyH_take (i := 12) (oi := ⟨some 47, _, _, _, _, _⟩) rfl (by kernel_rfl) (by kernel_rfl) (by kernel_rfl) (fun _ _ _ h => h) (Or.inl ⟨by rfl, fun w hw => by ((try dsimp only at hw); go_split_ands; go_simp; with_reducible rfl)⟩) (by assumption) ?_
            try simp only [Act.put, List.setIfInBounds_toArray, List.set_cons_zero, List.set_cons_succ]
            refine wpAnyH_take (i := 13) (oi := ⟨some 48, _, _, _, _, _⟩) rfl (by kernel_rfl) (by kernel_rfl) (by kernel_rfl) (fun _ _ _ h => h) (Or.inl ⟨by rfl, fun w hw => by ((try dsimp only at hw); go_split_ands; go_simp; with_reducible rfl)⟩) (by assumption) ?_
            try simp only [Act.put, List.setIfInBounds_toArray, List.set_cons_zero, List.set_cons_succ]
            refine wpAnyH_take (i := 14) (oi := ⟨some 49, _, _, _, _, _⟩) rfl (by kernel_rfl) (by kernel_rfl) (by kernel_rfl) (fun _ _ _ h => h) (Or.inl ⟨by rfl, fun w hw => by ((try dsimp only at hw); go_split_ands; go_simp; with_reducible rfl)⟩) (by assumption) ?_
            try simp only [Act.put, List.setIfInBounds_toArray, List.set_cons_zero, List.set_cons_succ]
            refine wpAnyH_take (i := 15) (oi := ⟨some 50, _, _, _, _, _⟩) rfl (by kernel_rfl) (by kernel_rfl) (by kernel_rfl) (fun _ _ _ h => h) (yieldsIf_load_mid (by rfl) _ _ rfl _ _ rfl _ _ (fun w hw => by (try dsimp only at hw); go_split_ands; assumption) (by assumption) rfl (by assumption)) (by assumption) ?_
            try simp only [Act.put, List.setIfInBounds_toArray, List.set_cons_zero, List.set_cons_succ]
            refine wpAnyH_ready (rs := [16]) (by kernel_rfl) (by simp) ?_
            refine AllReadyH.cons rfl (fun K hK => ?_) (AllReadyH.nil)
            go_simp
            refine (compare_num (P 0).key (Q 0).key (w3.drewN 1) HKa.out.1 HKa.out.2 HKb.out.1 HKb.out.2).mono ?_
            rintro e w4 ⟨rfl, hb4⟩
            have HI5 := Lib.hid (HI4.out.later hb4)
            clear hb4 HI4 HI
            refine hK.out _ _ (KS.out _ HI5.out.below) (fun hH2 => ?_)
            clear hK hH
            obtain ⟨z, hz⟩ : ∃ z, z = cmpZ (numK (P 0).key) (numK (Q 0).key) := ⟨_, rfl⟩
            rw [← hz]
            have HZ := Lib.hid hz
            clear hz
            by_cases hlt : numK (P 0).key < numK (Q 0).key
            · have hzn : decide (z < 0) = true := by rw [HZ.out]; unfold cmpZ; rw [if_pos hlt]; rfl
              refine wpAnyH_take (i := 17) (oi := ⟨some 52, _, _, _, _, _⟩) rfl (by kernel_rfl) (by kernel_rfl) (by kernel_rfl) (fun _ _ _ h => h) (Or.inl ⟨by rfl, fun w hw => by ((try dsimp only at hw); go_split_ands; go_simp; with_reducible rfl)⟩) (by assumption) ?_
              try simp only [Act.put, List.setIfInBounds_toArray, List.set_cons_zero, List.set_cons_succ]
              refine wpAnyH_take (i := 18) (oi := ⟨some 53, _, _, _, _, _⟩) rfl (by kernel_rfl) (by kernel_rfl) (by kernel_rfl) (fun _ _ _ h => h) (Or.inl ⟨by rfl, fun w hw => by ((try dsimp only at hw); go_split_ands; go_simp; with_reducible rfl)⟩) (by assumption) ?_
              try simp only [Act.put, List.setIfInBounds_toArray, List.set_cons_zero, List.set_cons_succ]
              refine wpAnyH_take (i := 19) (oi := ⟨some 54, _, _, _, _, _⟩) rfl (by kernel_rfl) (by kernel_rfl) (by kernel_rfl) (fun _ _ _ h => h) (Or.inl ⟨by rfl, fun w hw => by ((try dsimp only at hw); go_split_ands; go_simp; with_reducible rfl)⟩) (by assumption) ?_
              try simp only [Act.put, List.setIfInBounds_toArray, List.set_cons_zero, List.set_cons_succ]
              refine wpAnyH_take (i := 20) (oi := ⟨some 34, _, _, _, _, _⟩) rfl (by kernel_rfl) (by kernel_rfl) (by kernel_rfl) (fun _ _ _ h => h) (Or.inl ⟨by rfl, fun w hw => by ((try dsimp only at hw); go_split_ands; go_simp; with_reducible rfl)⟩) (by assumption) ?_
              try simp only [Act.put, List.setIfInBounds_toArray, List.set_cons_zero, List.set_cons_succ]
              refine wpAnyH_done (by kernel_rfl) ?_ _
              change KK _ _
              refine HKK.out _ _ ?_
              clear HKK KK
              clear hH2 hzn HZ hsza hszb
              go_wp2_with (first
                | ((with_reducible refine stopAt (o := ⟨some 73, _, _, _, _, _⟩) ?_); refine loadRange (o := ⟨some 73, _, _, _, _, _⟩) (by rfl) 45 (.tmp 72) rfl ba oa (chC (P 0) Aa Ca) rfl (HRRa.out _ HI5.out.below) row_chg (by rw [size_chg, chC_length HKa.out.2]) ?_)
                | ((with_reducible refine stopAt (o := ⟨some 74, _, _, _, _, _⟩) ?_); refine buildSlice1 (o := ⟨some 74, _, _, _, _, _⟩) rfl w4 30 45 _ 34 (.tmp 73) rfl und_chl info_chg (by decide) (by decide) (chC (P 0) Aa Ca).toArray rfl (by rw [List.size_toArray, chC_length HKa.out.2]) ?_)
                | ((with_reducible refine stopAt (o := ⟨some 75, _, _, _, _, _⟩) ?_); refine append1C (o := ⟨some 75, _, _, _, _, _⟩) und_chl info_chg3 rfl w4 rfl (.tmp 70) (.tmp 74) rfl w2.heap.size u9 n _ HI5.out.own.own (chC (P 0) Aa Ca) (chC_length HKa.out.2) chC_one rfl rfl (by omega) (by omega) HI5.out.below.size ?_; intro v6 w6 ho6 hg6 hl6; have HI6 := Lib.hid (HI5.out.more (P' := fun k => P (1 + k)) (Q' := Q) (p' := p - 1) (q' := q) HKa.out HVa.out ho6 hg6 hl6 (by rw [lst_cons P hp0, lst_cons Q hq0, foldL, if_pos hlt]) (by omega)); clear ho6 hg6 hl6)
                | ((with_reducible refine stopAt (o := ⟨some 77, _, _, _, _, _⟩) ?_); refine sliceFromC (o := ⟨some 77, _, _, _, _, _⟩) rfl 30 (.tmp 76) (.const (.int .i64 1)) rfl (by rw [elem_chl]; exact und_chl) (by rw [elem_chl]; exact size_chg) (some ⟨ba, oa, none⟩) p ca 1 rfl rfl hp0 hpc ?_; intro A7 HA7))
              go_roundw
              case rel => exact ⟨p - 1, q, n + 1, ca - 1, cb, A7, _, fun k => P (1 + k), Q, rfl, rfl, by omega, hqc, HP.out.drop hp0 HA7.out.1, HQ.out, _, _, _, HI6.out⟩
              case measure => simp [lenV]; omega
            · have hzn : decide (z < 0) = false := by rw [HZ.out]; unfold cmpZ; rw [if_neg hlt]; split <;> rfl
              refine wpAnyH_take (i := 17) (oi := ⟨some 52, _, _, _, _, _⟩) rfl (by kernel_rfl) (by kernel_rfl) (by kernel_rfl) (fun _ _ _ h => h) (Or.inl ⟨by rfl, fun w hw => by ((try dsimp only at hw); go_split_ands; go_simp; with_reducible rfl)⟩) (by assumption) ?_
              try simp only [Act.put, List.setIfInBounds_toArray, List.set_cons_zero, List.set_cons_succ]
              refine wpAnyH_take (i := 18) (oi := ⟨some 53, _, _, _, _, _⟩) rfl (by kernel_rfl) (by kernel_rfl) (by kernel_rfl) (fun _ _ _ h => h) (Or.inl ⟨by rfl, fun w hw => by ((try dsimp only at hw); go_split_ands; go_simp; with_reducible rfl)⟩) (by assumption) ?_
              try simp only [Act.put, List.setIfInBounds_toArray, List.set_cons_zero, List.set_cons_succ]
              refine wpAnyH_take (i := 19) (oi := ⟨some 54, _, _, _, _, _⟩) rfl (by kernel_rfl) (by kernel_rfl) (by kernel_rfl) (fun _ _ _ h => h) (Or.inl ⟨by rfl, fun w hw => by ((try dsimp only at hw); go_split_ands; go_simp; with_reducible rfl)⟩) (by assumption) ?_
              try simp only [Act.put, List.setIfInBounds_toArray, List.set_cons_zero, List.set_cons_succ]
              refine wpAnyH_take (i := 20) (oi := ⟨some 34, _, _, _, _, _⟩) rfl (by kernel_rfl) (by kernel_rfl) (by kernel_rfl) (fun _ _ _ h => h) (Or.inl ⟨by rfl, fun w hw => by ((try dsimp only at hw); go_split_ands; go_simp; with_reducible rfl)⟩) (by assumption) ?_
              try simp only [Act.put, List.setIfInBounds_toArray, List.set_cons_zero, List.set_cons_succ]
              refine wpAnyH_done (by kernel_rfl) ?_ _
              change KK _ _
              refine HKK.out _ _ ?_
              clear HKK KK
              clear hH2 hzn HZ
              have hek : ∀ w, (Op.equalIn 10000 25 (.agg (bvs (P 0).key).toArray) (.agg (bvs (Q 0).key).toArray)).run Try.prog w = .ok (decide ((P 0).key = (Q 0).key)) w := fun w => key_eq w _ _ HKa.out.1 HKb.out.1 HKa.out.2 HKb.out.2
              have HI6' := Lib.hid (HI5.out.later (drewN_below (Below.refl _ _) 1))
              clear HI5
              go_wp2_with fail
              rename_i KK hKK
              have HKK := Lib.hid hKK
              clear hKK
              refine wp_region_held_drew (S := fun w' => w'.rangeAt ba oa (bvs (P 0).key) ∧ w'.rangeAt bb ob (bvs (Q 0).key)) (by kernel_rfl) (KS.out _ HI6'.out.below) fun hH => ?_
              refine wpAnyH_take (i := 0) (oi := ⟨some 56, _, _, _, _, _⟩) rfl (by kernel_rfl) (by kernel_rfl) (by kernel_rfl) (fun _ _ _ h => h) (Or.inl ⟨by rfl, fun w hw => by ((try dsimp only at hw); go_split_ands; go_simp; with_reducible rfl)⟩) (by assumption) ?_
              try simp only [Act.put, List.setIfInBounds_toArray, List.set_cons_zero, List.set_cons_succ]
              refine wpAnyH_take (i := 1) (oi := ⟨some 57, _, _, _, _, _⟩) rfl (by kernel_rfl) (by kernel_rfl) (by kernel_rfl) (fun _ _ _ h => h) (Or.inl ⟨by rfl, fun w hw => by ((try dsimp only at hw); go_split_ands; go_simp; with_reducible rfl)⟩) (by assumption) ?_
              try simp only [Act.put, List.setIfInBounds_toArray, List.set_cons_zero, List.set_cons_succ]
              refine wpAnyH_take (i := 2) (oi := ⟨some 58, _, _, _, _, _⟩) rfl (by kernel_rfl) (by kernel_rfl) (by kernel_rfl) (fun _ _ _ h => h) (Or.inl ⟨by rfl, fun w hw => by ((try dsimp only at hw); go_split_ands; go_simp; with_reducible rfl)⟩) (by assumption) ?_
              try simp only [Act.put, List.setIfInBounds_toArray, List.set_cons_zero, List.set_cons_succ]
              refine wpAnyH_take (i := 3) (oi := ⟨some 59, _, _, _, _, _⟩) rfl (by kernel_rfl) (by kernel_rfl) (by kernel_rfl) (fun _ _ _ h => h) (Or.inl ⟨by rfl, fun w hw => by ((try dsimp only at hw); go_split_ands; go_simp; with_reducible rfl)⟩) (by assumption) ?_
              try simp only [Act.put, List.setIfInBounds_toArray, List.set_cons_zero, List.set_cons_succ]
              refine wpAnyH_take (i := 4) (oi := ⟨some 60, _, _, _, _, _⟩) rfl (by kernel_rfl) (by kernel_rfl) (by kernel_rfl) (fun _ _ _ h => h) (Or.inl ⟨by rfl, fun w hw => by ((try dsimp only at hw); go_split_ands; go_simp; with_reducible rfl)⟩) (by assumption) ?_
              try simp only [Act.put, List.setIfInBounds_toArray, List.set_cons_zero, List.set_cons_succ]
              refine wpAnyH_take (i := 5) (oi := ⟨some 61, _, _, _, _, _⟩) rfl (by kernel_rfl) (by kernel_rfl) (by kernel_rfl) (fun _ _ _ h => h) (Or.inl ⟨by rfl, fun w hw => by ((try dsimp only at hw); go_split_ands; go_simp; with_reducible rfl)⟩) (by assumption) ?_
              try simp only [Act.put, List.setIfInBounds_toArray, List.set_cons_zero, List.set_cons_succ]
              refine wpAnyH_take (i := 6) (oi := ⟨some 62, _, _, _, _, _⟩) rfl (by kernel_rfl) (by kernel_rfl) (by kernel_rfl) (fun _ _ _ h => h) (Or.inl ⟨by rfl, fun w hw => by ((try dsimp only at hw); go_split_ands; go_simp; with_reducible rfl)⟩) (by assumption) ?_
              try simp only [Act.put, List.setIfInBounds_toArray, List.set_cons_zero, List.set_cons_succ]
              refine wpAnyH_take (i := 7) (oi := ⟨some 63, _, _, _, _, _⟩) rfl (by kernel_rfl) (by kernel_rfl) (by kernel_rfl) (fun _ _ _ h => h) (yieldsIf_load_mid (by rfl) _ _ rfl _ _ rfl _ _ (fun w hw => by (try dsimp only at hw); go_split_ands; assumption) (by assumption) rfl (by assumption)) (by assumption) ?_
              try simp only [Act.put, List.setIfInBounds_toArray, List.set_cons_zero, List.set_cons_succ]
              refine wpAnyH_take (i := 8) (oi := ⟨some 64, _, _, _, _, _⟩) rfl (by kernel_rfl) (by kernel_rfl) (by kernel_rfl) (fun _ _ _ h => h) (Or.inl ⟨by rfl, fun w hw => by ((try dsimp only at hw); go_split_ands; go_simp; with_reducible rfl)⟩) (by assumption) ?_
              try simp only [Act.put, List.setIfInBounds_toArray, List.set_cons_zero, List.set_cons_succ]
              refine wpAnyH_take (i := 9) (oi := ⟨some 65, _, _, _, _, _⟩) rfl (by kernel_rfl) (by kernel_rfl) (by kernel_rfl) (fun _ _ _ h => h) (Or.inl ⟨by rfl, fun w hw => by ((try dsimp only at hw); go_split_ands; go_simp; with_reducible rfl)⟩) (by assumption) ?_
              try simp only [Act.put, List.setIfInBounds_toArray, List.set_cons_zero, List.set_cons_succ]
              refine wpAnyH_take (i := 10) (oi := ⟨some 66, _, _, _, _, _⟩) rfl (by kernel_rfl) (by kernel_rfl) (by kernel_rfl) (fun _ _ _ h => h) (Or.inl ⟨by rfl, fun w hw => by ((try dsimp only at hw); go_split_ands; go_simp; with_reducible rfl)⟩) (by assumption) ?_
              try simp only [Act.put, List.setIfInBounds_toArray, List.set_cons_zero, List.set_cons_succ]
              refine wpAnyH_take (i := 11) (oi := ⟨some 67, _, _, _, _, _⟩) rfl (by kernel_rfl) (by kernel_rfl) (by kernel_rfl) (fun _ _ _ h => h) (yieldsIf_load_mid (by rfl) _ _ rfl _ _ rfl _ _ (fun w hw => by (try dsimp only at hw); go_split_ands; assumption) (by assumption) rfl (by assumption)) (by assumption) ?_
              try simp only [Act.put, List.setIfInBounds_toArray, List.set_cons_zero, List.set_cons_succ]
              refine wpAnyH_ready (rs := [12]) (by kernel_rfl) (by simp) ?_
              refine AllReadyH.cons rfl (fun K hK => ?_) (AllReadyH.nil)
              go_simp
              refine hK.out _ _ hH (fun hH2 => ?_)
              clear hK hH
              refine wpAnyH_take (i := 13) (oi := ⟨some 69, _, _, _, _, _⟩) rfl (by kernel_rfl) (by kernel_rfl) (by kernel_rfl) (fun _ _ _ h => h) (Or.inl ⟨by rfl, fun w hw => by ((try dsimp only at hw); go_split_ands; go_simp; with_reducible rfl)⟩) (by assumption) ?_
              try simp only [Act.put, List.setIfInBounds_toArray, List.set_cons_zero, List.set_cons_succ]
              refine wpAnyH_take (i := 14) (oi := ⟨some 55, _, _, _, _, _⟩) rfl (by kernel_rfl) (by kernel_rfl) (by kernel_rfl) (fun _ _ _ h => h) (Or.inl ⟨by rfl, fun w hw => by ((try dsimp only at hw); go_split_ands; go_simp; with_reducible rfl)⟩) (by assumption) ?_
              try simp only [Act.put, List.setIfInBounds_toArray, List.set_cons_zero, List.set_cons_succ]
              refine wpAnyH_done (by kernel_rfl) ?_ _
              change KK _ _
              refine HKK.out _ _ ?_
              clear HKK KK
              clear hH2 hek hsza hszb
              obtain ⟨w5, hw5⟩ : ∃ w5, w5 = w4.drewN 1 := ⟨_, rfl⟩
              rw [← hw5] at HI6'
              try rw [show w4.drew = w4.drewN 1 from rfl]
              rw [← hw5]
              clear hw5
              by_cases hxy : (P 0).key = (Q 0).key
              · rw [decide_eq_true hxy]
                go_wp2_with (first
                  | ((with_reducible refine stopAt (o := ⟨some 79, _, _, _, _, _⟩) ?_); refine sliceFromC (o := ⟨some 79, _, _, _, _, _⟩) rfl 30 (.tmp 78) (.const (.int .i64 1)) rfl (by rw [elem_chl]; exact und_chl) (by rw [elem_chl]; exact size_chg) (some ⟨ba, oa, none⟩) p ca 1 rfl rfl hp0 hpc ?_; intro A7 HA7)
                  | ((with_reducible refine stopAt (o := ⟨some 83, _, _, _, _, _⟩) ?_); refine loadRange (o := ⟨some 83, _, _, _, _, _⟩) (by rfl) 45 (.tmp 82) rfl bb ob (chC (Q 0) Ab Cb) rfl (HRRb.out _ HI6'.out.below) row_chg (by rw [size_chg, chC_length HKb.out.2]) ?_)
                  | ((with_reducible refine stopAt (o := ⟨some 84, _, _, _, _, _⟩) ?_); refine buildSlice1 (o := ⟨some 84, _, _, _, _, _⟩) rfl w5 30 45 _ 34 (.tmp 83) rfl und_chl info_chg (by decide) (by decide) (chC (Q 0) Ab Cb).toArray rfl (by rw [List.size_toArray, chC_length HKb.out.2]) ?_)
                  | ((with_reducible refine stopAt (o := ⟨some 85, _, _, _, _, _⟩) ?_); refine append1C (o := ⟨some 85, _, _, _, _, _⟩) und_chl info_chg3 rfl w5 rfl (.tmp 80) (.tmp 84) rfl w2.heap.size u9 n _ HI6'.out.own.own (chC (Q 0) Ab Cb) (chC_length HKb.out.2) chC_one rfl rfl (by omega) (by omega) HI6'.out.below.size ?_; intro v6 w6 ho6 hg6 hl6; have HI6 := Lib.hid (HI6'.out.more (P' := fun k => P (1 + k)) (Q' := fun k => Q (1 + k)) (p' := p - 1) (q' := q - 1) HKb.out HVb.out ho6 hg6 hl6 (by rw [lst_cons P hp0, lst_cons Q hq0, foldL, if_neg hlt, if_pos hxy]) (by omega)); clear ho6 hg6 hl6)
                  | ((with_reducible refine stopAt (o := ⟨some 87, _, _, _, _, _⟩) ?_); refine sliceFromC (o := ⟨some 87, _, _, _, _, _⟩) rfl 30 (.tmp 86) (.const (.int .i64 1)) rfl (by rw [elem_chl]; exact und_chl) (by rw [elem_chl]; exact size_chg) (some ⟨bb, ob, none⟩) q cb 1 rfl rfl hq0 hqc ?_; intro B7 HB7))
                go_roundw
                case rel => exact ⟨p - 1, q - 1, n + 1, ca - 1, cb - 1, A7, B7, fun k => P (1 + k), fun k => Q (1 + k), rfl, rfl, by omega, by omega, HP.out.drop hp0 HA7.out.1, HQ.out.drop hq0 HB7.out.1, _, _, _, HI6.out⟩
                case measure => simp [lenV]; omega
              · rw [decide_eq_false hxy]
                go_wp2_with (first
                  | ((with_reducible refine stopAt (o := ⟨some 83, _, _, _, _, _⟩) ?_); refine loadRange (o := ⟨some 83, _, _, _, _, _⟩) (by rfl) 45 (.tmp 82) rfl bb ob (chC (Q 0) Ab Cb) rfl (HRRb.out _ HI6'.out.below) row_chg (by rw [size_chg, chC_length HKb.out.2]) ?_)
                  | ((with_reducible refine stopAt (o := ⟨some 84, _, _, _, _, _⟩) ?_); refine buildSlice1 (o := ⟨some 84, _, _, _, _, _⟩) rfl w5 30 45 _ 34 (.tmp 83) rfl und_chl info_chg (by decide) (by decide) (chC (Q 0) Ab Cb).toArray rfl (by rw [List.size_toArray, chC_length HKb.out.2]) ?_)
                  | ((with_reducible refine stopAt (o := ⟨some 85, _, _, _, _, _⟩) ?_); refine append1C (o := ⟨some 85, _, _, _, _, _⟩) und_chl info_chg3 rfl w5 rfl (.tmp 80) (.tmp 84) rfl w2.heap.size u9 n _ HI6'.out.own.own (chC (Q 0) Ab Cb) (chC_length HKb.out.2) chC_one rfl rfl (by omega) (by omega) HI6'.out.below.size ?_; intro v6 w6 ho6 hg6 hl6; have HI6 := Lib.hid (HI6'.out.more (P' := P) (Q' := fun k => Q (1 + k)) (p' := p) (q' := q - 1) HKb.out HVb.out ho6 hg6 hl6 (by rw [lst_cons Q hq0, lst_cons P hp0, foldL, if_neg hlt, if_neg hxy]) (by omega)); clear ho6 hg6 hl6)
                  | ((with_reducible refine stopAt (o := ⟨some 87, _, _, _, _, _⟩) ?_); refine sliceFromC (o := ⟨some 87, _, _, _, _, _⟩) rfl 30 (.tmp 86) (.const (.int .i64 1)) rfl (by rw [elem_chl]; exact und_chl) (by rw [elem_chl]; exact size_chg) (some ⟨bb, ob, none⟩) q cb 1 rfl rfl hq0 hqc ?_; intro B7 HB7))
                go_roundw
                case rel => exact ⟨p, q - 1, n + 1, ca, cb - 1, _, B7, P, fun k => Q (1 + k), rfl, rfl, hpc, by omega, HP.out, HQ.out.drop hq0 HB7.out.1, _, _, _, HI6.out⟩
                case measure => simp [lenV]; omega
          · have hp0' : ¬ (0 : Int) < (p : Int) := by omega
            have hp2 : decide ((0 : Int) < (p : Int)) = false := decide_eq_false hp0'
            have HP00 : Hid (lst P p = []) := by show _ = _; rw [show p = 0 by omega]; rfl
            have HI4 := Lib.hid (HI.out.later (drewN_below (Below.refl _ _) 1))
            go_wp2_with fail
            rename_i KK hKK
            have HKK := Lib.hid hKK
            clear hKK
            refine wp_region_held_drew (S := fun _ => True) (by kernel_rfl) (trivial) fun hH => ?_
            refine wpAnyH_take (i := 0) (oi := ⟨some 35, _, _, _, _, _⟩) rfl (by kernel_rfl) (by kernel_rfl) (by kernel_rfl) (fun _ _ _ h => h) (Or.inl ⟨by rfl, fun w hw => by ((try dsimp only at hw); go_split_ands; go_simp; with_reducible rfl)⟩) (by assumption) ?_
            try simp only [Act.put, List.setIfInBounds_toArray, List.set_cons_zero, List.set_cons_succ]
            refine wpAnyH_take (i := 1) (oi := ⟨some 36, _, _, _, _, _⟩) rfl (by kernel_rfl) (by kernel_rfl) (by kernel_rfl) (fun _ _ _ h => h) (Or.inl ⟨by rfl, fun w hw => by ((try dsimp only at hw); go_split_ands; go_simp; with_reducible rfl)⟩) (by assumption) ?_
            try simp only [Act.put, List.setIfInBounds_toArray, List.set_cons_zero, List.set_cons_succ]
            refine wpAnyH_take (i := 2) (oi := ⟨some 37, _, _, _, _, _⟩) rfl (by kernel_rfl) (by kernel_rfl) (by kernel_rfl) (fun _ _ _ h => h) (Or.inl ⟨by rfl, fun w hw => by ((try dsimp only at hw); go_split_ands; go_simp; with_reducible rfl)⟩) (by assumption) ?_
            try simp only [Act.put, List.setIfInBounds_toArray, List.set_cons_zero, List.set_cons_succ]
            refine wpAnyH_take (i := 3) (oi := ⟨some 38, _, _, _, _, _⟩) rfl (by kernel_rfl) (by kernel_rfl) (by kernel_rfl) (fun _ _ _ h => h) (Or.inl ⟨by rfl, fun w hw => by ((try dsimp only at hw); go_split_ands; go_simp; with_reducible rfl)⟩) (by assumption) ?_
            try simp only [Act.put, List.setIfInBounds_toArray, List.set_cons_zero, List.set_cons_succ]
            refine wpAnyH_take (i := 4) (oi := ⟨some 39, _, _, _, _, _⟩) rfl (by kernel_rfl) (by kernel_rfl) (by kernel_rfl) (fun _ _ _ h => h) (Or.inl ⟨by rfl, fun w hw => by ((try dsimp only at hw); go_split_ands; go_simp; with_reducible rfl)⟩) (by assumption) ?_
            try simp only [Act.put, List.setIfInBounds_toArray, List.set_cons_zero, List.set_cons_succ]
            refine wpAnyH_take (i := 5) (oi := ⟨some 40, _, _, _, _, _⟩) rfl (by kernel_rfl) (by kernel_rfl) (by kernel_rfl) (fun _ _ _ h => h) (Or.inl ⟨by rfl, fun w hw => by ((try dsimp only at hw); go_split_ands; go_simp; with_reducible rfl)⟩) (by assumption) ?_
            try simp only [Act.put, List.setIfInBounds_toArray, List.set_cons_zero, List.set_cons_succ]
            refine wpAnyH_take (i := 6) (oi := ⟨some 41, _, _, _, _, _⟩) rfl (by kernel_rfl) (by kernel_rfl) (by kernel_rfl) (fun _ _ _ h => h) (Or.inl ⟨by rfl, fun w hw => by ((try dsimp only at hw); go_split_ands; go_simp; with_reducible rfl)⟩) (by assumption) ?_
            try simp only [Act.put, List.setIfInBounds_toArray, List.set_cons_zero, List.set_cons_succ]
            refine wpAnyH_take (i := 7) (oi := ⟨some 42, _, _, _, _, _⟩) rfl (by kernel_rfl) (by kernel_rfl) (by kernel_rfl) (fun _ _ _ h => h) (Or.inl ⟨by rfl, fun w hw => by ((try dsimp only at hw); go_split_ands; go_simp; with_reducible rfl)⟩) (by assumption) ?_
            try simp only [Act.put, List.setIfInBounds_toArray, List.set_cons_zero, List.set_cons_succ]
            refine wpAnyH_take (i := 8) (oi := ⟨some 43, _, _, _, _, _⟩) rfl (by kernel_rfl) (by kernel_rfl) (by kernel_rfl) (fun _ _ _ h => h) (Or.inr ⟨by rfl, rfl⟩) (by assumption) ?_
            try simp only [Act.put, List.setIfInBounds_toArray, List.set_cons_zero, List.set_cons_succ]
            refine wpAnyH_take (i := 9) (oi := ⟨some 44, _, _, _, _, _⟩) rfl (by kernel_rfl) (by kernel_rfl) (by kernel_rfl) (fun _ _ _ h => h) (Or.inr ⟨by rfl, rfl⟩) (by assumption) ?_
            try simp only [Act.put, List.setIfInBounds_toArray, List.set_cons_zero, List.set_cons_succ]
            refine wpAnyH_take (i := 10) (oi := ⟨some 45, _, _, _, _, _⟩) rfl (by kernel_rfl) (by kernel_rfl) (by kernel_rfl) (fun _ _ _ h => h) (Or.inr ⟨by rfl, rfl⟩) (by assumption) ?_
            try simp only [Act.put, List.setIfInBounds_toArray, List.set_cons_zero, List.set_cons_succ]
            refine wpAnyH_take (i := 11) (oi := ⟨some 46, _, _, _, _, _⟩) rfl (by kernel_rfl) (by kernel_rfl) (by kernel_rfl) (fun _ _ _ h => h) (Or.inr ⟨by rfl, rfl⟩) (by assumption) ?_
            try simp only [Act.put, List.setIfInBounds_toArray, List.set_cons_zero, List.set_cons_succ]
            refine wpAnyH_take (i := 12) (oi := ⟨some 47, _, _, _, _, _⟩) rfl (by kernel_rfl) (by kernel_rfl) (by kernel_rfl) (fun _ _ _ h => h) (Or.inr ⟨by rfl, rfl⟩) (by assumption) ?_
            try simp only [Act.put, List.setIfInBounds_toArray, List.set_cons_zero, List.set_cons_succ]
            refine wpAnyH_take (i := 13) (oi := ⟨some 48, _, _, _, _, _⟩) rfl (by kernel_rfl) (by kernel_rfl) (by kernel_rfl) (fun _ _ _ h => h) (Or.inr ⟨by rfl, rfl⟩) (by assumption) ?_
            try simp only [Act.put, List.setIfInBounds_toArray, List.set_cons_zero, List.set_cons_succ]
            refine wpAnyH_take (i := 14) (oi := ⟨some 49, _, _, _, _, _⟩) rfl (by kernel_rfl) (by kernel_rfl) (by kernel_rfl) (fun _ _ _ h => h) (Or.inr ⟨by rfl, rfl⟩) (by assumption) ?_
            try simp only [Act.put, List.setIfInBounds_toArray, List.set_cons_zero, List.set_cons_succ]
            refine wpAnyH_take (i := 15) (oi := ⟨some 50, _, _, _, _, _⟩) rfl (by kernel_rfl) (by kernel_rfl) (by kernel_rfl) (fun _ _ _ h => h) (Or.inr ⟨by rfl, rfl⟩) (by assumption) ?_
            try simp only [Act.put, List.setIfInBounds_toArray, List.set_cons_zero, List.set_cons_succ]
            refine wpAnyH_take (i := 16) (oi := ⟨some 51, _, _, _, _, _⟩) rfl (by kernel_rfl) (by kernel_rfl) (by kernel_rfl) (fun _ _ _ h => h) (Or.inr ⟨by rfl, rfl⟩) (by assumption) ?_
            try simp only [Act.put, List.setIfInBounds_toArray, List.set_cons_zero, List.set_cons_succ]
            refine wpAnyH_take (i := 17) (oi := ⟨some 52, _, _, _, _, _⟩) rfl (by kernel_rfl) (by kernel_rfl) (by kernel_rfl) (fun _ _ _ h => h) (Or.inr ⟨by rfl, rfl⟩) (by assumption) ?_
            try simp only [Act.put, List.setIfInBounds_toArray, List.set_cons_zero, List.set_cons_succ]
            refine wpAnyH_take (i := 18) (oi := ⟨some 53, _, _, _, _, _⟩) rfl (by kernel_rfl) (by kernel_rfl) (by kernel_rfl) (fun _ _ _ h => h) (Or.inl ⟨by rfl, fun w hw => by ((try dsimp only at hw); go_split_ands; go_simp; with_reducible rfl)⟩) (by assumption) ?_
            try simp only [Act.put, List.setIfInBounds_toArray, List.set_cons_zero, List.set_cons_succ]
            refine wpAnyH_take (i := 19) (oi := ⟨some 54, _, _, _, _, _⟩) rfl (by kernel_rfl) (by kernel_rfl) (by kernel_rfl) (fun _ _ _ h => h) (Or.inl ⟨by rfl, fun w hw => by ((try dsimp only at hw); go_split_ands; go_simp; with_reducible rfl)⟩) (by assumption) ?_
            try simp only [Act.put, List.setIfInBounds_toArray, List.set_cons_zero, List.set_cons_succ]
            refine wpAnyH_take (i := 20) (oi := ⟨some 34, _, _, _, _, _⟩) rfl (by kernel_rfl) (by kernel_rfl) (by kernel_rfl) (fun _ _ _ h => h) (Or.inl ⟨by rfl, fun w hw => by ((try dsimp only at hw); go_split_ands; go_simp; with_reducible rfl)⟩) (by assumption) ?_
            try simp only [Act.put, List.setIfInBounds_toArray, List.set_cons_zero, List.set_cons_succ]
            refine wpAnyH_done (by kernel_rfl) ?_ _
            change KK _ _
            refine HKK.out _ _ ?_
            clear HKK KK
            clear hH
            obtain ⟨w4, hw4⟩ : ∃ w4, w4 = w3.drewN 1 := ⟨_, rfl⟩
            rw [← hw4] at HI4
            try rw [show w3.drew = w3.drewN 1 from rfl]
            rw [← hw4]
            clear hw4 HI
            have HI6' := Lib.hid (HI4.out.later (drewN_below (Below.refl _ _) 1))
            clear HI4
            go_wp2_with fail
            rename_i KK hKK
            have HKK := Lib.hid hKK
            clear hKK
            refine wp_region_held_drew (S := fun _ => True) (by kernel_rfl) (trivial) fun hH => ?_
            refine wpAnyH_take (i := 0) (oi := ⟨some 56, _, _, _, _, _⟩) rfl (by kernel_rfl) (by kernel_rfl) (by kernel_rfl) (fun _ _ _ h => h) (Or.inl ⟨by rfl, fun w hw => by ((try dsimp only at hw); go_split_ands; go_simp; with_reducible rfl)⟩) (by assumption) ?_
            try simp only [Act.put, List.setIfInBounds_toArray, List.set_cons_zero, List.set_cons_succ]
            refine wpAnyH_take (i := 1) (oi := ⟨some 57, _, _, _, _, _⟩) rfl (by kernel_rfl) (by kernel_rfl) (by kernel_rfl) (fun _ _ _ h => h) (Or.inl ⟨by rfl, fun w hw => by ((try dsimp only at hw); go_split_ands; go_simp; with_reducible rfl)⟩) (by assumption) ?_
            try simp only [Act.put, List.setIfInBounds_toArray, List.set_cons_zero, List.set_cons_succ]
            refine wpAnyH_take (i := 2) (oi := ⟨some 58, _, _, _, _, _⟩) rfl (by kernel_rfl) (by kernel_rfl) (by kernel_rfl) (fun _ _ _ h => h) (Or.inl ⟨by rfl, fun w hw => by ((try dsimp only at hw); go_split_ands; go_simp; with_reducible rfl)⟩) (by assumption) ?_
            try simp only [Act.put, List.setIfInBounds_toArray, List.set_cons_zero, List.set_cons_succ]
            refine wpAnyH_take (i := 3) (oi := ⟨some 59, _, _, _, _, _⟩) rfl (by kernel_rfl) (by kernel_rfl) (by kernel_rfl) (fun _ _ _ h => h) (Or.inl ⟨by rfl, fun w hw => by ((try dsimp only at hw); go_split_ands; go_simp; with_reducible rfl)⟩) (by assumption) ?_
            try simp only [Act.put, List.setIfInBounds_toArray, List.set_cons_zero, List.set_cons_succ]
            refine wpAnyH_take (i := 4) (oi := ⟨some 60, _, _, _, _, _⟩) rfl (by kernel_rfl) (by kernel_rfl) (by kernel_rfl) (fun _ _ _ h => h) (Or.inr ⟨by rfl, rfl⟩) (by assumption) ?_
            try simp only [Act.put, List.setIfInBounds_toArray, List.set_cons_zero, List.set_cons_succ]
            refine wpAnyH_take (i := 5) (oi := ⟨some 61, _, _, _, _, _⟩) rfl (by kernel_rfl) (by kernel_rfl) (by kernel_rfl) (fun _ _ _ h => h) (Or.inr ⟨by rfl, rfl⟩) (by assumption) ?_
            try simp only [Act.put, List.setIfInBounds_toArray, List.set_cons_zero, List.set_cons_succ]
            refine wpAnyH_take (i := 6) (oi := ⟨some 62, _, _, _, _, _⟩) rfl (by kernel_rfl) (by kernel_rfl) (by kernel_rfl) (fun _ _ _ h => h) (Or.inr ⟨by rfl, rfl⟩) (by assumption) ?_
            try simp only [Act.put, List.setIfInBounds_toArray, List.set_cons_zero, List.set_cons_succ]
            refine wpAnyH_take (i := 7) (oi := ⟨some 63, _, _, _, _, _⟩) rfl (by kernel_rfl) (by kernel_rfl) (by kernel_rfl) (fun _ _ _ h => h) (Or.inr ⟨by rfl, rfl⟩) (by assumption) ?_
            try simp only [Act.put, List.setIfInBounds_toArray, List.set_cons_zero, List.set_cons_succ]
            refine wpAnyH_take (i := 8) (oi := ⟨some 64, _, _, _, _, _⟩) rfl (by kernel_rfl) (by kernel_rfl) (by kernel_rfl) (fun _ _ _ h => h) (Or.inr ⟨by rfl, rfl⟩) (by assumption) ?_
            try simp only [Act.put, List.setIfInBounds_toArray, List.set_cons_zero, List.set_cons_succ]
            refine wpAnyH_take (i := 9) (oi := ⟨some 65, _, _, _, _, _⟩) rfl (by kernel_rfl) (by kernel_rfl) (by kernel_rfl) (fun _ _ _ h => h) (Or.inr ⟨by rfl, rfl⟩) (by assumption) ?_
            try simp only [Act.put, List.setIfInBounds_toArray, List.set_cons_zero, List.set_cons_succ]
            refine wpAnyH_take (i := 10) (oi := ⟨some 66, _, _, _, _, _⟩) rfl (by kernel_rfl) (by kernel_rfl) (by kernel_rfl) (fun _ _ _ h => h) (Or.inr ⟨by rfl, rfl⟩) (by assumption) ?_
            try simp only [Act.put, List.setIfInBounds_toArray, List.set_cons_zero, List.set_cons_succ]
            refine wpAnyH_take (i := 11) (oi := ⟨some 67, _, _, _, _, _⟩) rfl (by kernel_rfl) (by kernel_rfl) (by kernel_rfl) (fun _ _ _ h => h) (Or.inr ⟨by rfl, rfl⟩) (by assumption) ?_
            try simp only [Act.put, List.setIfInBounds_toArray, List.set_cons_zero, List.set_cons_succ]
            refine wpAnyH_take (i := 12) (oi := ⟨some 68, _, _, _, _, _⟩) rfl (by kernel_rfl) (by kernel_rfl) (by kernel_rfl) (fun _ _ _ h => h) (Or.inr ⟨by rfl, rfl⟩) (by assumption) ?_
            try simp only [Act.put, List.setIfInBounds_toArray, List.set_cons_zero, List.set_cons_succ]
            refine wpAnyH_take (i := 13) (oi := ⟨some 69, _, _, _, _, _⟩) rfl (by kernel_rfl) (by kernel_rfl) (by kernel_rfl) (fun _ _ _ h => h) (Or.inl ⟨by rfl, fun w hw => by ((try dsimp only at hw); go_split_ands; go_simp; with_reducible rfl)⟩) (by assumption) ?_
            try simp only [Act.put, List.setIfInBounds_toArray, List.set_cons_zero, List.set_cons_succ]
            refine wpAnyH_take (i := 14) (oi := ⟨some 55, _, _, _, _, _⟩) rfl (by kernel_rfl) (by kernel_rfl) (by kernel_rfl) (fun _ _ _ h => h) (Or.inl ⟨by rfl, fun w hw => by ((try dsimp only at hw); go_split_ands; go_simp; with_reducible rfl)⟩) (by assumption) ?_
            try simp only [Act.put, List.setIfInBounds_toArray, List.set_cons_zero, List.set_cons_succ]
            refine wpAnyH_done (by kernel_rfl) ?_ _
            change KK _ _
            refine HKK.out _ _ ?_
            clear HKK KK
            clear hH hszb
            obtain ⟨w5, hw5⟩ : ∃ w5, w5 = w4.drewN 1 := ⟨_, rfl⟩
            rw [← hw5] at HI6'
            try rw [show w4.drew = w4.drewN 1 from rfl]
            rw [← hw5]
            clear hw5
            go_wp2_with (first
              | ((with_reducible refine stopAt (o := ⟨some 83, _, _, _, _, _⟩) ?_); refine loadRange (o := ⟨some 83, _, _, _, _, _⟩) (by rfl) 45 (.tmp 82) rfl bb ob (chC (Q 0) Ab Cb) rfl (HRRb.out _ HI6'.out.below) row_chg (by rw [size_chg, chC_length HKb.out.2]) ?_)
              | ((with_reducible refine stopAt (o := ⟨some 84, _, _, _, _, _⟩) ?_); refine buildSlice1 (o := ⟨some 84, _, _, _, _, _⟩) rfl w5 30 45 _ 34 (.tmp 83) rfl und_chl info_chg (by decide) (by decide) (chC (Q 0) Ab Cb).toArray rfl (by rw [List.size_toArray, chC_length HKb.out.2]) ?_)
              | ((with_reducible refine stopAt (o := ⟨some 85, _, _, _, _, _⟩) ?_); refine append1C (o := ⟨some 85, _, _, _, _, _⟩) und_chl info_chg3 rfl w5 rfl (.tmp 80) (.tmp 84) rfl w2.heap.size u9 n _ HI6'.out.own.own (chC (Q 0) Ab Cb) (chC_length HKb.out.2) chC_one rfl rfl (by omega) (by omega) HI6'.out.below.size ?_; intro v6 w6 ho6 hg6 hl6; have HI6 := Lib.hid (HI6'.out.more (P' := P) (Q' := fun k => Q (1 + k)) (p' := p) (q' := q - 1) HKb.out HVb.out ho6 hg6 hl6 (by rw [HP00.out, foldL_left, foldL_left, lst_cons Q hq0]) (by omega)); clear ho6 hg6 hl6)
              | ((with_reducible refine stopAt (o := ⟨some 87, _, _, _, _, _⟩) ?_); refine sliceFromC (o := ⟨some 87, _, _, _, _, _⟩) rfl 30 (.tmp 86) (.const (.int .i64 1)) rfl (by rw [elem_chl]; exact und_chl) (by rw [elem_chl]; exact size_chg) (some ⟨bb, ob, none⟩) q cb 1 rfl rfl hq0 hqc ?_; intro B7 HB7))
            go_roundw
            case rel => exact ⟨p, q - 1, n + 1, ca, cb - 1, _, B7, P, fun k => Q (1 + k), rfl, rfl, hpc, by omega, HP.out, HQ.out.drop hq0 HB7.out.1, _, _, _, HI6.out⟩
            case measure => simp [lenV]; omega
        · have hq0' : ¬ (0 : Int) < (q : Int) := by omega
          have hq2 : decide ((0 : Int) < (q : Int)) = false := decide_eq_false hq0'
          have hq3 : ((q : Int) == 0) = true := by rw [beq_iff_eq]; omega
          have HQ00 : Hid (lst Q q = []) := by show _ = _; rw [show q = 0 by omega]; rfl
          by_cases hp0 : 0 < p
          · have hp0' : (0 : Int) < (p : Int) := by omega
            have hp2 : decide ((0 : Int) < (p : Int)) = true := decide_eq_true hp0'
            obtain ⟨ba, oa, Aa, Ca, rfl, hba, hra, hkBa, hkla, hvra, hvCa, hCma, hnila⟩ := HP.out.2 0 hp0
            rw [Nat.zero_mul, Nat.add_zero] at hra
            have HRRa : Hid (∀ W, Below w2.heap.size w2 W → W.rangeAt ba oa (chC (P 0) Aa Ca)) := fun W hW => range_below hW hba hra
            have HKa := Lib.hid (show IsB (P 0).key ∧ (P 0).key.length = 32 from ⟨hkBa, hkla⟩)
            have HVa := Lib.hid (show RB w2 Aa (P 0).val.length (P 0).val ∧ (P 0).val.length ≤ Ca ∧ Ca ≤ maxLen ∧ (Aa = none → Ca = 0) from ⟨hvra, hvCa, hCma, hnila⟩)
            have hsza : (Try.prog.info? 25).map (·.size) = some (bvs (P 0).key).length := by rw [size_key]; simp [bvs, hkla]
            clear hba hra hkBa hkla hvra hvCa hCma hnila
            have HI4 := Lib.hid (HI.out.later (drewN_below (Below.refl _ _) 1))
            go_wp2_with fail
            rename_i KK hKK
            have HKK := Lib.hid hKK
            clear hKK
            refine wp_region_held_drew (S := fun _ => True) (by kernel_rfl) (trivial) fun hH => ?_
            refine wpAnyH_take (i := 0) (oi := ⟨some 35, _, _, _, _, _⟩) rfl (by kernel_rfl) (by kernel_rfl) (by kernel_rfl) (fun _ _ _ h => h) (Or.inl ⟨by rfl, fun w hw => by ((try dsimp only at hw); go_split_ands; go_simp; with_reducible rfl)⟩) (by assumption) ?_
            try simp only [Act.put, List.setIfInBounds_toArray, List.set_cons_zero, List.set_cons_succ]
            refine wpAnyH_take (i := 1) (oi := ⟨some 36, _, _, _, _, _⟩) rfl (by kernel_rfl) (by kernel_rfl) (by kernel_rfl) (fun _ _ _ h => h) (Or.inl ⟨by rfl, fun w hw => by ((try dsimp only at hw); go_split_ands; go_simp; with_reducible rfl)⟩) (by assumption) ?_
            try simp only [Act.put, List.setIfInBounds_toArray, List.set_cons_zero, List.set_cons_succ]
            refine wpAnyH_take (i := 2) (oi := ⟨some 37, _, _, _, _, _⟩) rfl (by kernel_rfl) (by kernel_rfl) (by kernel_rfl) (fun _ _ _ h => h) (Or.inl ⟨by rfl, fun w hw => by ((try dsimp only at hw); go_split_ands; go_simp; with_reducible rfl)⟩) (by assumption) ?_
            try simp only [Act.put, List.setIfInBounds_toArray, List.set_cons_zero, List.set_cons_succ]
            refine wpAnyH_take (i := 3) (oi := ⟨some 38, _, _, _, _, _⟩) rfl (by kernel_rfl) (by kernel_rfl) (by kernel_rfl) (fun _ _ _ h => h) (Or.inl ⟨by rfl, fun w hw => by ((try dsimp only at hw); go_split_ands; go_simp; with_reducible rfl)⟩) (by assumption) ?_
            try simp only [Act.put, List.setIfInBounds_toArray, List.set_cons_zero, List.set_cons_succ]
            refine wpAnyH_take (i := 4) (oi := ⟨some 39, _, _, _, _, _⟩) rfl (by kernel_rfl) (by kernel_rfl) (by kernel_rfl) (fun _ _ _ h => h) (Or.inr ⟨by rfl, rfl⟩) (by assumption) ?_
            try simp only [Act.put, List.setIfInBounds_toArray, List.set_cons_zero, List.set_cons_succ]
            refine wpAnyH_take (i := 5) (oi := ⟨some 40, _, _, _, _, _⟩) rfl (by kernel_rfl) (by kernel_rfl) (by kernel_rfl) (fun _ _ _ h => h) (Or.inr ⟨by rfl, rfl⟩) (by assumption) ?_
            try simp only [Act.put, List.setIfInBounds_toArray, List.set_cons_zero, List.set_cons_succ]
            refine wpAnyH_take (i := 6) (oi := ⟨some 41, _, _, _, _, _⟩) rfl (by kernel_rfl) (by kernel_rfl) (by kernel_rfl) (fun _ _ _ h => h) (Or.inr ⟨by rfl, rfl⟩) (by assumption) ?_
            try simp only [Act.put, List.setIfInBounds_toArray, List.set_cons_zero, List.set_cons_succ]
            refine wpAnyH_take (i := 7) (oi := ⟨some 42, _, _, _, _, _⟩) rfl (by kernel_rfl) (by kernel_rfl) (by kernel_rfl) (fun _ _ _ h => h) (Or.inr ⟨by rfl, rfl⟩) (by assumption) ?_
            try simp only [Act.put, List.setIfInBounds_toArray, List.set_cons_zero, List.set_cons_succ]
            refine wpAnyH_take (i := 8) (oi := ⟨some 43, _, _, _, _, _⟩) rfl (by kernel_rfl) (by kernel_rfl) (by kernel_rfl) (fun _ _ _ h => h) (Or.inr ⟨by rfl, rfl⟩) (by assumption) ?_
            try simp only [Act.put, List.setIfInBounds_toArray, List.set_cons_zero, List.set_cons_succ]
            refine wpAnyH_take (i := 9) (oi := ⟨some 44, _, _, _, _, _⟩) rfl (by kernel_rfl) (by kernel_rfl) (by kernel_rfl) (fun _ _ _ h => h) (Or.inr ⟨by rfl, rfl⟩) (by assumption) ?_
            try simp only [Act.put, List.setIfInBounds_toArray, List.set_cons_zero, List.set_cons_succ]
            refine wpAnyH_take (i := 10) (oi := ⟨some 45, _, _, _, _, _⟩) rfl (by kernel_rfl) (by kernel_rfl) (by kernel_rfl) (fun _ _ _ h => h) (Or.inr ⟨by rfl, rfl⟩) (by assumption) ?_
            try simp only [Act.put, List.setIfInBounds_toArray, List.set_cons_zero, List.set_cons_succ]
            refine wpAnyH_take (i := 11) (oi := ⟨some 46, _, _, _, _, _⟩) rfl (by kernel_rfl) (by kernel_rfl) (by kernel_rfl) (fun _ _ _ h => h) (Or.inr ⟨by rfl, rfl⟩) (by assumption) ?_
            try simp only [Act.put, List.setIfInBounds_toArray, List.set_cons_zero, List.set_cons_succ]
            refine wpAnyH_take (i := 12) (oi := ⟨some 47, _, _, _, _, _⟩) rfl (by kernel_rfl) (by kernel_rfl) (by kernel_rfl) (fun _ _ _ h => h) (Or.inr ⟨by rfl, rfl⟩) (by assumption) ?_
            try simp only [Act.put, List.setIfInBounds_toArray, List.set_cons_zero, List.set_cons_succ]
            refine wpAnyH_take (i := 13) (oi := ⟨some 48, _, _, _, _, _⟩) rfl (by kernel_rfl) (by kernel_rfl) (by kernel_rfl) (fun _ _ _ h => h) (Or.inr ⟨by rfl, rfl⟩) (by assumption) ?_
            try simp only [Act.put, List.setIfInBounds_toArray, List.set_cons_zero, List.set_cons_succ]
            refine wpAnyH_take (i := 14) (oi := ⟨some 49, _, _, _, _, _⟩) rfl (by kernel_rfl) (by kernel_rfl) (by kernel_rfl) (fun _ _ _ h => h) (Or.inr ⟨by rfl, rfl⟩) (by assumption) ?_
            try simp only [Act.put, List.setIfInBounds_toArray, List.set_cons_zero, List.set_cons_succ]
            refine wpAnyH_take (i := 15) (oi := ⟨some 50, _, _, _, _, _⟩) rfl (by kernel_rfl) (by kernel_rfl) (by kernel_rfl) (fun _ _ _ h => h) (Or.inr ⟨by rfl, rfl⟩) (by assumption) ?_
            try simp only [Act.put, List.setIfInBounds_toArray, List.set_cons_zero, List.set_cons_succ]
            refine wpAnyH_take (i := 16) (oi := ⟨some 51, _, _, _, _, _⟩) rfl (by kernel_rfl) (by kernel_rfl) (by kernel_rfl) (fun _ _ _ h => h) (Or.inr ⟨by rfl, rfl⟩) (by assumption) ?_
            try simp only [Act.put, List.setIfInBounds_toArray, List.set_cons_zero, List.set_cons_succ]
            refine wpAnyH_take (i := 17) (oi := ⟨some 52, _, _, _, _, _⟩) rfl (by kernel_rfl) (by kernel_rfl) (by kernel_rfl) (fun _ _ _ h => h) (Or.inr ⟨by rfl, rfl⟩) (by assumption) ?_
            try simp only [Act.put, List.setIfInBounds_toArray, List.set_cons_zero, List.set_cons_succ]
            refine wpAnyH_take (i := 18) (oi := ⟨some 53, _, _, _, _, _⟩) rfl (by kernel_rfl) (by kernel_rfl) (by kernel_rfl) (fun _ _ _ h => h) (Or.inr ⟨by rfl, rfl⟩) (by assumption) ?_
            try simp only [Act.put, List.setIfInBounds_toArray, List.set_cons_zero, List.set_cons_succ]
            refine wpAnyH_take (i := 19) (oi := ⟨some 54, _, _, _, _, _⟩) rfl (by kernel_rfl) (by kernel_rfl) (by kernel_rfl) (fun _ _ _ h => h) (Or.inl ⟨by rfl, fun w hw => by ((try dsimp only at hw); go_split_ands; go_simp; with_reducible rfl)⟩) (by assumption) ?_
            try simp only [Act.put, List.setIfInBounds_toArray, List.set_cons_zero, List.set_cons_succ]
            refine wpAnyH_take (i := 20) (oi := ⟨some 34, _, _, _, _, _⟩) rfl (by kernel_rfl) (by kernel_rfl) (by kernel_rfl) (fun _ _ _ h => h) (Or.inl ⟨by rfl, fun w hw => by ((try dsimp only at hw); go_split_ands; go_simp; with_reducible rfl)⟩) (by assumption) ?_
            try simp only [Act.put, List.setIfInBounds_toArray, List.set_cons_zero, List.set_cons_succ]
            refine wpAnyH_done (by kernel_rfl) ?_ _
            change KK _ _
            refine HKK.out _ _ ?_
            clear HKK KK
            clear hH hsza
            obtain ⟨w4, hw4⟩ : ∃ w4, w4 = w3.drewN 1 := ⟨_, rfl⟩
            rw [← hw4] at HI4
            try rw [show w3.drew = w3.drewN 1 from rfl]
            rw [← hw4]
            clear hw4 HI
            go_wp2_with (first
              | ((with_reducible refine stopAt (o := ⟨some 73, _, _, _, _, _⟩) ?_); refine loadRange (o := ⟨some 73, _, _, _, _, _⟩) (by rfl) 45 (.tmp 72) rfl ba oa (chC (P 0) Aa Ca) rfl (HRRa.out _ HI4.out.below) row_chg (by rw [size_chg, chC_length HKa.out.2]) ?_)
              | ((with_reducible refine stopAt (o := ⟨some 74, _, _, _, _, _⟩) ?_); refine buildSlice1 (o := ⟨some 74, _, _, _, _, _⟩) rfl w4 30 45 _ 34 (.tmp 73) rfl und_chl info_chg (by decide) (by decide) (chC (P 0) Aa Ca).toArray rfl (by rw [List.size_toArray, chC_length HKa.out.2]) ?_)
              | ((with_reducible refine stopAt (o := ⟨some 75, _, _, _, _, _⟩) ?_); refine append1C (o := ⟨some 75, _, _, _, _, _⟩) und_chl info_chg3 rfl w4 rfl (.tmp 70) (.tmp 74) rfl w2.heap.size u9 n _ HI4.out.own.own (chC (P 0) Aa Ca) (chC_length HKa.out.2) chC_one rfl rfl (by omega) (by omega) HI4.out.below.size ?_; intro v6 w6 ho6 hg6 hl6; have HI6 := Lib.hid (HI4.out.more (P' := fun k => P (1 + k)) (Q' := Q) (p' := p - 1) (q' := q) HKa.out HVa.out ho6 hg6 hl6 (by rw [HQ00.out, foldL_right, foldL_right, lst_cons P hp0]) (by omega)); clear ho6 hg6 hl6)
              | ((with_reducible refine stopAt (o := ⟨some 77, _, _, _, _, _⟩) ?_); refine sliceFromC (o := ⟨some 77, _, _, _, _, _⟩) rfl 30 (.tmp 76) (.const (.int .i64 1)) rfl (by rw [elem_chl]; exact und_chl) (by rw [elem_chl]; exact size_chg) (some ⟨ba, oa, none⟩) p ca 1 rfl rfl hp0 hpc ?_; intro A7 HA7))
            go_roundw
            case rel => exact ⟨p - 1, q, n + 1, ca - 1, cb, A7, _, fun k => P (1 + k), Q, rfl, rfl, by omega, hqc, HP.out.drop hp0 HA7.out.1, HQ.out, _, _, _, HI6.out⟩
            case measure => simp [lenV]; omega
          · have hp0' : ¬ (0 : Int) < (p : Int) := by omega
            have HP00 : Hid (lst P p = []) := by show _ = _; rw [show p = 0 by omega]; rfl
            have HEQ : Hid (lst Z n = foldL (nrm X N) (nrm Y M)) := by
              have h := HI.out.eq
              rw [HP00.out, foldL_left, HQ00.out, List.append_nil] at h
              exact h
            have HLN : Hid ((foldL (nrm X N) (nrm Y M)).length = n) := by show _ = _; rw [← HEQ.out, lst_length]
            obtain ⟨Av, Cv, rfl, _, _, _, hnm, _⟩ := HI.out.own.form
            have HB3 := Lib.hid (HB2.out.trans (HI.out.below.mono HB2.out.size))
            by_cases h64 : 64 < n
            · have h64' : (64 : Int) < (n : Int) := by omega
              have HE31 : Hid (31 = foldE X N Y M) := by show _ = _; rw [HE.out, HLN.out, if_pos h64]
              go_wp2_with fail
              exact HD.out _ _ 31 HE31.out (fun h => absurd h (by decide)) (fun _ => rfl) HB3.out
            · have h64' : ¬ (64 : Int) < (n : Int) := by omega
              have HE0 : Hid (0 = foldE X N Y M) := by show _ = _; rw [HE.out, HLN.out, if_neg h64]
              have HO : Hid (foldO X N Y M = foldL (nrm X N) (nrm Y M)) := if_pos HE0.out.symm
              go_wp2_with fail
              exact HD.out _ _ 0 HE0.out (fun _ => ⟨Z, Ad, Cp, by rw [HO.out, HLN.out]; exact HI.out.own.mono HB2.out.size, by rw [HO.out, HLN.out]; exact HEQ.out⟩) (fun h => absurd rfl h) HB3.out
    · have HE : Hid (wrongN Y M 4096 = foldE X N Y M) := (foldE_right h0 h02).symm
      obtain ⟨z, hz⟩ : ∃ z, z = wrongN Y M 4096 := ⟨_, rfl⟩
      rw [← hz] at HE h02 ⊢
      have h1 : (z : Int) ≠ 0 := by omega
      have h2 : (((z : Nat) : Int) != 0) = true := by rw [bne_iff_ne]; exact h1
      clear hz
      go_wp2_with fail
      exact HD.out _ _ z HE.out (fun h => absurd h h02) (fun _ => rfl) HB2.out
  · have HE : Hid (wrongN X N 4096 = foldE X N Y M) := (foldE_left h0).symm
    obtain ⟨z, hz⟩ : ∃ z, z = wrongN X N 4096 := ⟨_, rfl⟩
    rw [← hz] at HE h0 ⊢
    have h1 : (z : Int) ≠ 0 := by omega
    have h2 : (((z : Nat) : Int) != 0) = true := by rw [bne_iff_ne]; exact h1
    clear hz
    go_wp2_with fail
    exact HD.out _ _ z HE.out (fun h => absurd h h0) (fun _ => rfl) HB1.out
end Go.Proofs.Ytkpbeibcfaenhaa
