/- digest.Hasher.Write where some bytes wait. -/
import Derived.Test.YtfnlhfaihoojfaaDoorWrite
import Derived.StillTailTactics
namespace Go.Proofs.YtfnlhfaihoojfaaDoor
open Go.RowKit
set_option maxRecDepth 100000 in
set_option maxHeartbeats 4000000 in
theorem write_part (g : Nat) (A : Option Addr) (n c : Nat) (xs ys rest : List Nat) (w : World) (hy : RB w A n ys) (hA : 0 < n → ∀ ad, A = some ad → ad.block ≠ g)
    (hX : IsB xs) (hR : IsB rest) (hrx : rest.take (xs.length % 64) = xs.drop (64 * (xs.length / 64))) (h0 : 0 < xs.length % 64) (hlt : n < 64 - xs.length % 64) (hh : HBlk w g (stAt xs (xs.length / 64)).list rest (xs.length % 64) (xs.length % 18446744073709551616)) :
    Calls Tryd.prog 40 #[.pointer (some ⟨g, 0, none⟩), .slice A n c] w fun e w' => e = .returned (.tuple #[]) ∧ WritePost g xs ys w w' := by
  have hn : n ≤ 140737488355328 := by omega
  have HY := Lib.hid hy
  have HA := Lib.hid hA
  have HH := Lib.hid hh
  have HRX := Lib.hid hrx
  have HXB := Lib.hid hX
  have HRB := Lib.hid hR
  have HYB := Lib.hid hy.isB
  have HG1 : Hid (w.grownBy (w.setCell ⟨g, 73, none⟩ (.int .u64 ((((xs.length + n) % 18446744073709551616 : Nat) : Int)))) (some g)) := grown_setCell w (g := g) 73 _
  have HH1 := Lib.hid (hh.setTaken ((xs.length + n) % 18446744073709551616))
  have kt := hh.taken
  have ft := hh.frozen 73
  have kh := (hh.setTaken ((xs.length + n) % 18446744073709551616)).have_
  have hc : IntKind.u64.wrap (((xs.length % 18446744073709551616 : Nat) : Int) + (n : Int)) = (((xs.length + n) % 18446744073709551616 : Nat) : Int) := by
    simp [IntKind.wrap, IntKind.bits, IntKind.signed]
  have HL : Hid (xs.length / 64 = (xs.length + n) / 64 ∧ xs.length % 64 + n = (xs.length + n) % 64) := by
    show _ ∧ _
    omega
  clear hy hA hh hX hR hrx
  have h64 : xs.length % 64 < 64 := Nat.mod_lt _ (by decide)
  generalize hh0 : xs.length % 64 = hv at *
  have HH0 := Lib.hid hh0
  clear hh0
  generalize xs.length % 18446744073709551616 = tk at *
  generalize htn : (xs.length + n) % 18446744073709551616 = tn at *
  have HTN := Lib.hid htn
  clear htn
  go_enter Tryd.func40, Tryd.ntmps40
  go_wp2_with fail
  have HY1 : Hid (RB (w.setCell ⟨g, 73, none⟩ (.int .u64 (tn : Int))) A n ys) := HY.out.grownBy HG1.out (fun hp ad e hz => HA.out hp ad e (by injection hz))
  clear kt ft hc HY HH
  generalize w.setCell ⟨g, 73, none⟩ (.int .u64 (tn : Int)) = w1 at *
  have j0 : (0 : Int) ≤ (hv : Int) := by omega
  have j1 : (hv : Int) ≤ 64 := by omega
  have j2 : ¬ (64 = hv) := by omega
  refine wp_region_still_tail 9 (by kernel_rfl) (by kernel_rfl) ?_
  simp only [List.take_succ_cons, List.take_zero, List.drop_succ_cons, List.drop_zero]
  repeat (refine wpStill_step (fun K hK => ?_); go_simp; (try go_bits); refine hK _ ?_; clear hK K)
  try refine wpStill_nil ?_
  change wpList _ _ _ _ _ w1.drew
  replace HY1 : Hid (RB w1.drew A n ys) := HY1.out
  replace HG1 : Hid (w.grownBy w1.drew (some g)) := grown_drew HG1.out
  replace HH1 : Hid (HBlk w1.drew g (stAt xs (xs.length / 64)).list rest hv tn) := HH1.out
  clear kh
  generalize w1.drew = w2 at *
  have HC72 : Hid (∀ (w3 : World) (rr : List Nat), Hid (HBlk w3 g (stAt xs (xs.length / 64)).list rr hv tn) → w3.cell? ⟨g, 72, none⟩ = some (.int .i64 (hv : Int))) := fun w3 rr hz => hz.out.have_
  have HF72 : Hid (∀ (w3 : World) (rr : List Nat), Hid (HBlk w3 g (stAt xs (xs.length / 64)).list rr hv tn) → w3.frozen? ⟨g, 72, none⟩ = false) := fun w3 rr hz => hz.out.frozen 72
  go_wp2_with (first
    | (refine copyH (op := ⟨some 29, _, _, _, _, _⟩) (by rfl) (.tmp 27) (.tmp 28) 22 22 rfl 5 und_bytes byte_size A g hv (8 + hv) (64 - hv) (64 - hv) n c rfl rfl rfl _ rest hv tn HH1.out n ys HY1.out (Nat.min_eq_left (by omega)).symm (by omega) ?_; intro w3 HH3 hg3; have HG3 := Lib.hid hg3; have c72 := HC72.out w3 _ HH3; have f72 := HF72.out w3 _ HH3; clear hg3 HC72 HF72))
  all_goals
    have HEnd : Hid (WritePost g xs ys w (w3.setCell ⟨g, 72, none⟩ (.int .i64 ((hv : Int) + (n : Int))))) := by
      have hl := HY1.out.1
      have hr := HH1.out.2.2
      have hlx : (xs ++ ys).length = xs.length + n := by rw [List.length_append, hl]
      have hdx : (xs.drop (64 * (xs.length / 64))).length = hv := by
        rw [List.length_drop]
        have := HH0.out
        omega
      refine ⟨⟨splice rest hv ys, splice_isB hv HRB.out HYB.out, HXB.out.app HYB.out, ?_, ?_⟩, grown_trans (grown_trans HG1.out HG3.out) (grown_setCell w3 (g := g) 72 _)⟩
      · rw [hlx, ← HL.out.1, ← HL.out.2]
        unfold splice
        rw [HRX.out, List.drop_append_of_le_length (by have := HH0.out; omega), List.take_append, hdx, List.take_of_length_le (by omega), show hv + n - hv = n by omega, List.take_left' hl]
      · rw [hlx, ← HL.out.1, ← HL.out.2, HTN.out, stAt_app _ _ _ (by have := HH0.out; omega)]
        have := HH3.out.setHave (hv + n)
        rwa [show ((hv + n : Nat) : Int) = (hv : Int) + (n : Int) by omega] at this
    refine bodyPost_ret (results_none rfl _ _ _) rfl ?_
    exact ⟨rfl, HEnd.out⟩
set_option maxRecDepth 100000 in
set_option maxHeartbeats 4000000 in
theorem write_fill (g : Nat) (A : Option Addr) (n c : Nat) (xs ys rest : List Nat) (w : World) (hy : RB w A n ys) (hnc : n ≤ c) (hn : n ≤ 140737488355328) (hA : 0 < n → ∀ ad, A = some ad → ad.block ≠ g)
    (hX : IsB xs) (hR : IsB rest) (hrx : rest.take (xs.length % 64) = xs.drop (64 * (xs.length / 64))) (h0 : 0 < xs.length % 64) (hlt : 64 - xs.length % 64 ≤ n) (hh : HBlk w g (stAt xs (xs.length / 64)).list rest (xs.length % 64) (xs.length % 18446744073709551616)) (hk : TabU w 2 kL) (hne : g ≠ 2) :
    Calls Tryd.prog 40 #[.pointer (some ⟨g, 0, none⟩), .slice A n c] w fun e w' => e = .returned (.tuple #[]) ∧ WritePost g xs ys w w' := by
  have HK := Lib.hid hk
  have HNE := Lib.hid hne
  clear hk hne
  have HY := Lib.hid hy
  have HA := Lib.hid hA
  have HH := Lib.hid hh
  have HRX := Lib.hid hrx
  have HXB := Lib.hid hX
  have HRB := Lib.hid hR
  have HYB := Lib.hid hy.isB
  have HG1 : Hid (w.grownBy (w.setCell ⟨g, 73, none⟩ (.int .u64 ((((xs.length + n) % 18446744073709551616 : Nat) : Int)))) (some g)) := grown_setCell w (g := g) 73 _
  have HH1 := Lib.hid (hh.setTaken ((xs.length + n) % 18446744073709551616))
  have kt := hh.taken
  have ft := hh.frozen 73
  have kh := (hh.setTaken ((xs.length + n) % 18446744073709551616)).have_
  have hc : IntKind.u64.wrap (((xs.length % 18446744073709551616 : Nat) : Int) + (n : Int)) = (((xs.length + n) % 18446744073709551616 : Nat) : Int) := by
    simp [IntKind.wrap, IntKind.bits, IntKind.signed]
  clear hy hA hh hX hR hrx
  have h64 : xs.length % 64 < 64 := Nat.mod_lt _ (by decide)
  generalize hh0 : xs.length % 64 = hv at *
  have HH0 := Lib.hid hh0
  clear hh0
  generalize xs.length % 18446744073709551616 = tk at *
  generalize htn : (xs.length + n) % 18446744073709551616 = tn at *
  have HTN := Lib.hid htn
  clear htn
  obtain ⟨mq, hq1, hq2⟩ : ∃ mq, 64 ≤ hv + mq ∧ hv + mq ≤ 64 := ⟨64 - hv, by omega, by omega⟩
  have HTX : Hid ((xs.drop (64 * (xs.length / 64))).length = hv) := by
    show _ = _
    rw [List.length_drop]
    have := HH0.out
    omega
  go_enter Tryd.func40, Tryd.ntmps40
  go_wp2_with fail
  have HY1 : Hid (RB (w.setCell ⟨g, 73, none⟩ (.int .u64 (tn : Int))) A n ys) := HY.out.grownBy HG1.out (fun hp ad e hz => HA.out hp ad e (by injection hz))
  clear kt ft hc HH
  generalize w.setCell ⟨g, 73, none⟩ (.int .u64 (tn : Int)) = w1 at *
  have j0 : (0 : Int) ≤ (hv : Int) := by omega
  have j1 : (hv : Int) ≤ 64 := by omega
  have j2 : ¬ (64 = hv) := by omega
  refine wp_region_still_tail 9 (by kernel_rfl) (by kernel_rfl) ?_
  simp only [List.take_succ_cons, List.take_zero, List.drop_succ_cons, List.drop_zero]
  repeat (refine wpStill_step (fun K hK => ?_); go_simp; (try go_bits); refine hK _ ?_; clear hK K)
  try refine wpStill_nil ?_
  change wpList _ _ _ _ _ w1.drew
  replace HY1 : Hid (RB w1.drew A n ys) := HY1.out
  replace HG1 : Hid (w.grownBy w1.drew (some g)) := grown_drew HG1.out
  replace HH1 : Hid (HBlk w1.drew g (stAt xs (xs.length / 64)).list rest hv tn) := HH1.out
  clear kh
  generalize w1.drew = w2 at *
  have HC72 : Hid (∀ (w3 : World) (rr : List Nat), Hid (HBlk w3 g (stAt xs (xs.length / 64)).list rr hv tn) → w3.cell? ⟨g, 72, none⟩ = some (.int .i64 (hv : Int))) := fun w3 rr hz => hz.out.have_
  have HF72 : Hid (∀ (w3 : World) (rr : List Nat), Hid (HBlk w3 g (stAt xs (xs.length / 64)).list rr hv tn) → w3.frozen? ⟨g, 72, none⟩ = false) := fun w3 rr hz => hz.out.frozen 72
  have HYm := Lib.hid (HY1.out.take (k := mq) (by omega))
  obtain ⟨T, HT⟩ : ∃ T, Hid (T = xs ++ ys) := ⟨_, rfl⟩
  obtain ⟨q0, HQ0⟩ : ∃ q0, Hid (xs.length / 64 = q0) := ⟨_, rfl⟩
  obtain ⟨rest1, HR1⟩ : ∃ rest1, Hid (splice rest hv (ys.take mq) = rest1) := ⟨_, rfl⟩
  have HRB1 : Hid (IsB rest1) := by
    rw [← HR1.out]
    exact splice_isB hv HRB.out (HYB.out.take _)
  have HS0 : Hid (stAt xs (xs.length / 64) = stAt T q0) := by
    show _ = _
    rw [HT.out, HQ0.out, stAt_app _ _ _ (by have h1 := HH0.out; have h2 := HQ0.out; omega)]
  have HL0 : Hid (64 * q0 + hv = xs.length) := by
    have h1 := HH0.out
    have h2 := HQ0.out
    show _ = _
    omega
  have HB1 : Hid ((T.drop (64 * q0)).take 64 = rest1) := by
    show _ = _
    have hlx := HL0.out
    have hdx := HTX.out
    have hly := HY1.out.1
    rw [HT.out, ← HR1.out, List.drop_append_of_le_length (by omega)]
    rw [HQ0.out] at hdx
    rw [List.take_append, hdx, List.take_of_length_le (by omega), show 64 - hv = mq by omega]
    unfold splice
    rw [List.length_take, show hv + min mq ys.length = 64 by omega, List.drop_of_length_le (l := rest) (by rw [HH1.out.2.2]; exact Nat.le_refl _), List.append_nil, HRX.out, HQ0.out]
  have HFix : Hid (∀ w3 : World, Hid (HBlk w3 g (stAt xs (xs.length / 64)).list (splice rest hv (ys.take mq)) hv tn) → HBlk (w3.setCell ⟨g, 72, none⟩ (.int .i64 ((hv : Int) + (mq : Int)))) g (stAt T q0).list rest1 (hv + mq) tn) := by
    intro w3 hz
    have h1 := hz.out.setHave (hv + mq)
    rw [HS0.out, HR1.out] at h1
    exact h1
  have HKn : Hid (TabU w2 2 kL) := HK.out.grown HG1.out (fun hz => HNE.out (by injection hz with hz; exact hz.symm))
  have HKs : Hid (∀ (a b : World), TabU a 2 kL → a.grownBy b (some g) → TabU b 2 kL) := fun a b h1 h2 => h1.grown h2 (fun hz => HNE.out (by injection hz with hz; exact hz.symm))
  go_wp2_with (first
    | (refine copyH (op := ⟨some 29, _, _, _, _, _⟩) (by rfl) (.tmp 27) (.tmp 28) 22 22 rfl 5 und_bytes byte_size A g hv (8 + hv) (64 - hv) (64 - hv) n c rfl rfl rfl _ rest hv tn HH1.out mq (ys.take mq) HYm.out (by show mq = min n (64 - hv); omega) (by omega) ?_; intro w3 HH3 hg3; have HG3 := Lib.hid hg3; have c72 := HC72.out w3 _ HH3; have f72 := HF72.out w3 _ HH3; clear hg3 HC72 HF72)
    | (refine sliceFrom (o := ⟨some 40, _, _, _, _, _⟩) (by rfl) 22 (.tmp 38) (.tmp 39) rfl (by kernel_rfl) (by kernel_rfl) A n c mq rfl rfl (by omega) hnc ?_; intro A1 HF1)
    | (go_at_call 63; ((refine (step_call T q0 g _ _ rest1 (hv + mq) tn _ (by rw [HB1.out]; exact (HFix.out w3 HH3).reads HRB1.out) (HFix.out w3 HH3) (HKs.out _ _ (HKs.out _ _ HKn.out HG3.out) (grown_setCell w3 (g := g) 72 _)) HNE.out).mono ?_); rintro e w5 ⟨rfl, hh5, hg5⟩; have HH5 := Lib.hid hh5; have HG5 := Lib.hid hg5; have f72b := hh5.frozen 72; have c72b := hh5.have_; clear hh5 hg5)))
  have HGa : Hid (w.grownBy (w5.setCell ⟨g, 72, none⟩ (.int .i64 0)) (some g)) := grown_trans (grown_trans (grown_trans (grown_trans HG1.out HG3.out) (grown_setCell w3 (g := g) 72 _)) HG5.out) (grown_setCell w5 (g := g) 72 _)
  have HHa : Hid (HBlk (w5.setCell ⟨g, 72, none⟩ (.int .i64 0)) g (stAt T (q0 + 1)).list rest1 0 tn) := HH5.out.setHave 0
  have HKa : Hid (TabU (w5.setCell ⟨g, 72, none⟩ (.int .i64 0)) 2 kL) := HKs.out _ _ HK.out HGa.out
  have HYa : Hid (RB (w5.setCell ⟨g, 72, none⟩ (.int .i64 0)) A1 (n - mq) (T.drop (64 * (q0 + 1)))) := by
    have h0 : RB w A n ys := HY.out
    have h1 := (h0.grownBy HGa.out (fun hp ad e hz => HA.out hp ad e (by injection hz))).drop (k := mq) (B := A1) (by omega) HF1.out.1
    rw [HT.out, List.drop_append, List.drop_of_length_le (by have := HL0.out; omega), List.nil_append, show 64 * (q0 + 1) - xs.length = mq by have := HL0.out; omega]
    exact h1
  have HAa : Hid (0 < n - mq → ∀ ad, A1 = some ad → ad.block ≠ g) := fun hp ad e => by
    obtain ⟨ad', e', h'⟩ := HF1.out.2.1 ad e
    rw [← h']
    exact HA.out (by omega) ad' e'
  have HQa : Hid (64 * (q0 + 1) + (n - mq) = T.length) := by
    have h1 := HL0.out
    have h2 := HY.out.1
    show _ = _
    rw [HT.out, List.length_append]
    omega
  have HTNa : Hid (T.length % 18446744073709551616 = tn) := by
    show _ = _
    rw [HT.out, List.length_append, HY.out.1]
    exact HTN.out
  clear c72 f72 c72b f72b HFix HKs HKn HYm HH1 HY1 HTN
  obtain ⟨n1, c1, q1, E1⟩ : ∃ n1 c1 q1, Hid (n1 = n - mq ∧ c1 = c - mq ∧ q1 = q0 + 1) := ⟨_, _, _, rfl, rfl, rfl⟩
  obtain ⟨e1, e2, e3⟩ := E1.out
  rw [← e1] at HYa HQa HAa
  rw [← e3] at HYa HQa HHa
  rw [← e1, ← e2]
  have hn1c : n1 ≤ c1 := by omega
  have hn1 : n1 ≤ 140737488355328 := by omega
  clear e1 e2 e3 HA HY HG1 HK
  obtain ⟨HQ1, HY1, HA1, HH1, HK1, HG1, HTN⟩ := And.intro HQa (And.intro HYa (And.intro HAa (And.intro HHa (And.intro HKa (And.intro HGa HTNa)))))
  clear HQa HYa HAa HHa HKa HGa HTNa hq1 hq2 hnc hlt j0 j1 j2 h0 hn
  generalize w5.setCell ⟨g, 72, none⟩ (.int .i64 0) = w6 at *
  go_loopw [1] (fun u wr => ∃ (B : Option Addr) (m d q : Nat), u = .slice B m d ∧ m ≤ d ∧ m ≤ 140737488355328 ∧ Hid (64 * q + m = T.length) ∧ Hid (RB wr B m (T.drop (64 * q))) ∧ Hid (0 < m → ∀ ad, B = some ad → ad.block ≠ g) ∧ Hid (HBlk wr g (stAt T q).list rest1 0 tn) ∧ Hid (TabU wr 2 kL) ∧ Hid (w.grownBy wr (some g))) (fun u _ => lenOf u)
  case atStart => exact ⟨A1, n1, c1, q1, rfl, hn1c, hn1, HQ1.out, HY1.out, HA1.out, HH1.out, HK1.out, HG1.out⟩
  case round =>
    clear HQ1 HY1 HA1 HH1 HK1 HG1
    obtain ⟨B, m, d, q, rfl, hmd, hm, HQ, HY, HA, HH, HK, HG⟩ := hrel
    obtain ⟨w2, rfl⟩ : ∃ w2, w2 = wr := ⟨_, rfl⟩
    by_cases hge : 64 ≤ m
    · have HXB := Lib.hid (HY.out.take (k := 64) hge)
      have hQl := HQ.out
      obtain ⟨B2, HB2⟩ : ∃ B2, Hid (B2 = if d = 64 then B else B.map (fun x => (⟨x.block, x.off + 64, none⟩ : Addr))) := ⟨_, rfl⟩
      have HF := Lib.hid (sliced64 HB2.out hmd)
      go_wp2_with (first | (go_at_call 63; ((refine (step_call T q g _ _ rest1 0 tn _ HXB.out HH.out HK.out HNE.out).mono ?_); rintro e w3 ⟨rfl, hh3, hg3⟩; have HH3 := Lib.hid hh3; have HG3 := Lib.hid hg3; clear hh3 hg3)))
      rw [← HB2.out]
      have HY3 : Hid (RB w3 B2 (m - 64) (T.drop (64 * (q + 1)))) := by
        have h1 := (HY.out.grownBy HG3.out (fun hp ad e h => HA.out hp ad e (by injection h))).drop (k := 64) (B := B2) hge HF.out.1
        rw [List.drop_drop] at h1
        exact h1
      have HA3 : Hid (0 < m - 64 → ∀ ad, B2 = some ad → ad.block ≠ g) := fun hp ad e => by
        obtain ⟨ad', e', h'⟩ := HF.out.2 ad e
        rw [← h']
        exact HA.out (by omega) ad' e'
      have HK3 : Hid (TabU w3 2 kL) := HK.out.grown HG3.out (fun h => HNE.out (by injection h with h; exact h.symm))
      have HGn : Hid (w.grownBy w3 (some g)) := grown_trans HG.out HG3.out
      go_roundw
      case rel => exact ⟨B2, m - 64, d - 64, q + 1, rfl, by omega, by omega, by show _ = _; omega, HY3.out, HA3.out, HH3.out, HK3.out, HGn.out⟩
      case measure => simp [lenOf]; omega
    · have hQl := HQ.out
      have HM : Hid (T.length / 64 = q ∧ T.length % 64 = m) := by
        show _ ∧ _
        omega
      have hf := HH.out.frozen 72
      have hc72 : ∀ (w3 : World) (rr : List Nat), Hid (HBlk w3 g (stAt T q).list rr 0 tn) → w3.cell? ⟨g, 72, none⟩ = some (.int .i64 0) := fun w3 rr h => h.out.have_
      have hf72 : ∀ (w3 : World) (rr : List Nat), Hid (HBlk w3 g (stAt T q).list rr 0 tn) → w3.frozen? ⟨g, 72, none⟩ = false := fun w3 rr h => h.out.frozen 72
      have HC72 := Lib.hid hc72
      have HF72 := Lib.hid hf72
      clear hc72 hf72 hQl hf
      go_wp2_with (first
        | (refine copyH (op := ⟨some 70, _, _, _, _, _⟩) (by rfl) (.tmp 68) (.tmp 69) 22 22 rfl 5 und_bytes byte_size B g 0 8 64 64 m d rfl rfl rfl (stAt T q).list rest1 0 tn HH.out m (T.drop (64 * q)) HY.out (Nat.min_eq_left (by omega)).symm (by omega) ?_; intro w3 HH3 hg3; have HG3 := Lib.hid hg3; have c72 := HC72.out w3 _ HH3; have f72 := HF72.out w3 _ HH3; clear hg3 HC72 HF72))
      have HEnd : Hid (WritePost g xs ys w (w3.setCell ⟨g, 72, none⟩ (.int .i64 (m : Int)))) := by
        have hl : (T.drop (64 * q)).length = m := HY.out.1
        refine ⟨⟨splice rest1 0 (T.drop (64 * q)), splice_isB 0 HRB1.out HY.out.2.1, ?_, ?_, ?_⟩, grown_trans (grown_trans HG.out HG3.out) (grown_setCell w3 (g := g) 72 _)⟩
        · exact HXB.out.app HYB.out
        · rw [← HT.out, HM.out.1, HM.out.2, ← hl]
          exact splice_front _ _
        · rw [← HT.out, HM.out.1, HM.out.2, HTN.out]
          exact HH3.out.setHave m
      go_end0
      exact ⟨rfl, HEnd.out⟩
theorem write_any (g : Nat) (A : Option Addr) (n c : Nat) (xs ys : List Nat) (w : World) (hy : RB w A n ys) (hnc : n ≤ c) (hn : n ≤ 140737488355328) (hA : 0 < n → ∀ ad, A = some ad → ad.block ≠ g)
    (hh : HashIs w g xs) (hk : TabU w 2 kL) (hne : g ≠ 2) :
    Calls Tryd.prog 40 #[.pointer (some ⟨g, 0, none⟩), .slice A n c] w fun e w' => e = .returned (.tuple #[]) ∧ WritePost g xs ys w w' := by
  obtain ⟨rest, h1, h2, h3, h4⟩ := hh
  rcases Nat.eq_zero_or_pos (xs.length % 64) with h0 | h0
  · exact write_zero g A n c xs ys rest w hy hnc hn hA h2 h1 h0 (by rw [h0] at h4; exact h4) hk hne
  · rcases Nat.lt_or_ge n (64 - xs.length % 64) with h | h
    · exact write_part g A n c xs ys rest w hy hA h2 h1 h3 h0 h h4
    · exact write_fill g A n c xs ys rest w hy hnc hn hA h2 h1 h3 h0 h h4 hk hne
end Go.Proofs.YtfnlhfaihoojfaaDoor
