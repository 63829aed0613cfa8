/- Ref10, R12a, R12b (merged) -/
import Derived.Test.YtfnlhfaihoojfaaDoorFq
import Derived.Test.YtfnlhfaihoojfaaDoorFp
/- ledgerref10: split, digest, Root. -/
namespace Go.Proofs.YtfnlhfaihoojfaaDoor
open Go.RowKit
theorem range_rb {w : World} {b o n : Nat} {xs : List Nat} (h : w.rangeAt b o (bvs xs)) (hB : IsB xs) (hl : xs.length = n) (hb : b < w.heap.size) : RB w (some ⟨b, o, none⟩) n xs :=
  ⟨hl, hB, fun _ => ⟨_, rfl, hb, fun j x hj => by rw [add_lit]; exact h j _ (by simp [bvs, hj, bv])⟩⟩
theorem range_touch {V : Nat → Prop} {w w' : World} {b o : Nat} {cs : List Value} (ht : Touch V w w') (h : w.rangeAt b o cs) (hb : b < w.heap.size) (hn : ¬ V b) : w'.rangeAt b o cs := fun j v hj => by
  rw [World.cell?_of_block (w := w) (a := ⟨b, o + j, none⟩) (ht.block b hb hn)]
  exact h j v hj
set_option maxRecDepth 20000 in
set_option maxHeartbeats 1000000 in
theorem split_any (A : Option Addr) (N c : Nat) (X : Nat → Chg) (n : Nat) (w : World) (hx : EntsAt w A N X) (hn : n < 256) (hN : N ≤ 1073741824) :
    Calls Tryd.prog 50 #[.slice A N c, .int .i64 n] w fun e w' => ∃ k : Nat, e = .returned (.int .i64 k) ∧ k ≤ N ∧ (∀ i, i < k → bitK (X i).key n = 0) ∧ (k < N → bitK (X k).key n ≠ 0) ∧ Below w.heap.size w w' := by
  have HX := Lib.hid hx
  clear hx
  go_enter Tryd.func50, Tryd.ntmps50
  go_wp2_with fail
  go_loopw [5] (fun i wr => ∃ k : Nat, k ≤ N ∧ i = .int .i64 k ∧ Hid (∀ i, i < k → bitK (X i).key n = 0) ∧ Hid (Below w.heap.size w wr)) (fun i _ => N - (intOf i).toNat)
  case atStart => exact ⟨0, by omega, rfl, fun i hi => by omega, Below.refl _ _⟩
  case round =>
    obtain ⟨k, hk, rfl, HZ, HB⟩ := hrel
    by_cases hlt : k < N
    · have hlt' : (k : Int) < N := by omega
      obtain ⟨b, o, Av, C, rfl, hb, hr, hkB, hkl, _⟩ := (HX.out.below HB.out).2 k hlt
      have HKR := Lib.hid (range_rb (en_key hr) hkB hkl hb)
      have HKK := Lib.hid (And.intro hkB hkl)
      have HNX : Hid (∀ z, bitK (X k).key n = z → (z = 0 → ∀ i, i < k + 1 → bitK (X i).key n = 0) ∧ (z ≠ 0 → bitK (X k).key n ≠ 0)) := fun z hz => ⟨fun h i hi => by
        rcases Nat.lt_or_ge i k with h1 | h1
        · exact HZ.out i h1
        · obtain rfl : i = k := by omega
          rw [hz, h], fun h => by rw [hz]; exact h⟩
      clear hb hr hkB hkl
      go_wp2_with (refine wpList_load_arrG (o := ⟨some 15, _, _, _, _, _⟩) (by rfl) 31 (.tmp 14) rfl ⟨b, o + k * 33, none⟩ 32 (X k).key rfl HKR.out (by omega) row_key size_key ?_)
      refine (refbit_in (X k).key n wr HKK.out.1 HKK.out.2 hn).mono ?_
      rintro e w1 ⟨rfl, hb1⟩
      have HB1 : Hid (Below w.heap.size w w1) := HB.out.trans (hb1.mono HB.out.size)
      clear hb1
      obtain ⟨z, hz⟩ : ∃ z, bitK (X k).key n = z := ⟨_, rfl⟩
      have HN2 := Lib.hid (HNX.out z hz)
      rw [hz]
      clear HNX hz
      by_cases hz0 : z = 0
      · subst hz0
        go_wp2_with fail
        go_roundw
        case rel => exact ⟨k + 1, by omega, by go_num, HN2.out.1 trivial, HB1.out⟩
        case measure => simp [intOf]; omega
      · have hz1 : ¬ (z : Int) = 0 := by omega
        have HN3 := Lib.hid (HN2.out.2 hz0)
        clear hz0 HN2
        go_wp2_with fail
        go_ret
        exact ⟨k, rfl, hk, HZ.out, fun _ => HN3.out, HB1.out⟩
    · have hnlt : ¬ (k : Int) < N := by omega
      go_wp2_with fail
      go_ret
      exact ⟨k, rfl, hk, HZ.out, fun h => absurd h hlt, HB.out⟩
/-- What the walk of digest asks of a part of a map. -/
structure MPart (w : World) (A : Option Addr) (N c : Nat) (X : Nat → Chg) (n : Nat) : Prop where
  ents : EntsAt w A N X
  le : N ≤ c
  few : N ≤ 1073741824
  val : ∀ k, k < N → (X k).val.length ≤ 128
  nodup : (keysOf (lst X N)).Nodup
  sorted : Sorted (lst X N)
  share : Share (lst X N) n
theorem MPart.below {w w' : World} {A : Option Addr} {N c n : Nat} {X : Nat → Chg} (h : MPart w A N c X n) (hb : Below w.heap.size w w') : MPart w' A N c X n := { h with ents := h.ents.below hb }
theorem MPart.two {w : World} {A : Option Addr} {N c h : Nat} {X : Nat → Chg} (hp : MPart w A N c X (256 - h)) (hN : 2 ≤ N) : 0 < h := by
  rcases Nat.eq_zero_or_pos h with h0 | h0
  · exfalso
    have h1 := share_nodup hp.ents.good hp.nodup (by have := hp.share; rwa [h0] at this)
    rw [lst_length] at h1
    omega
  · exact h0
theorem MPart.parts {w : World} {A : Option Addr} {N c h k : Nat} {X : Nat → Chg} (hp : MPart w A N c X (255 - h)) (hh : h < 256) (hk : k ≤ N) (h0 : ∀ i, i < k → bitK (X i).key (255 - h) = 0) (h1 : k < N → bitK (X k).key (255 - h) ≠ 0) :
    sideL (lst X N) h 0 = lst X k ∧ sideL (lst X N) h 1 = lst (fun i => X (k + i)) (N - k) ∧ MPart w A k c X (256 - h) ∧ ∀ B, (k < N → B = A.map (·.add (k * 33))) → MPart w B (N - k) (c - k) (fun i => X (k + i)) (256 - h) := by
  obtain ⟨e1, e2⟩ := side_split (show 255 - h < 256 by omega) hp.ents.good hp.sorted hp.share hk h0 h1
  rw [show 255 - (255 - h) = h by omega] at e1 e2
  refine ⟨e1, e2, ⟨hp.ents.take hk, Nat.le_trans hk hp.le, Nat.le_trans hk hp.few, fun i hi => hp.val i (by omega), ?_, ?_, ?_⟩, fun B hB => ⟨hp.ents.drop hk hB, Nat.sub_le_sub_right hp.le k, Nat.le_trans (Nat.sub_le _ _) hp.few, fun i hi => hp.val _ (by omega), ?_, ?_, ?_⟩⟩
  · rw [← e1]; exact side_nodup hp.nodup _ _
  · rw [← e1]; exact side_sorted hp.sorted _ _
  · rw [← e1]; exact share_side hh hp.share _
  · rw [← e2]; exact side_nodup hp.nodup _ _
  · rw [← e2]; exact side_sorted hp.sorted _ _
  · rw [← e2]; exact share_side hh hp.share _
theorem sliceFromE {P : Program} {w : World} {ops : Array Oper} {rest : List Oper} {o : Oper} {a : Act} {Q : Exit → Act → World → Prop} (hgd : o.guard = none) (t : TypeId) (x ix : Operand)
    (ho : o.op = .slice t x (some ix) none none) (ht : P.underlying t = some (.slice (P.elem t))) (hsz : (P.info? (P.elem t)).map (·.size) = some 33) (A : Option Addr) (m d k : Nat) (hx : a.eval x = .slice A m d) (hi : a.eval ix = .int .i64 (k : Int))
    (hk : k ≤ m) (hmd : m ≤ d)
    (h : ∀ B, Hid (k < m → B = A.map (·.add (k * 33))) → wpList P ops Q rest (a.put o.dst (.slice B (m - k) (d - k))) w) : wpList P ops Q (o :: rest) a w := by
  refine wpList_plain hgd fun K hK => ?_
  have hs : (sizeOf (P.elem t)).run P w = .ok 33 w := by
    cases hq : P.info? (P.elem t) with
    | none => simp [hq] at hsz
    | some i =>
      have h1 : i.size = 33 := by simpa [hq] using hsz
      simp [sizeOf, typeInfo, hq, h1]
  have hrun : (Instr.sliceAt t (.slice A m d) (some (.int .i64 (k : Int))) none none).run P w = .ok (.slice (if d = k then A else A.map (·.add (k * 33))) (m - k) (d - k)) w := by
    rw [run_sliceAt_slice w t _ _ _ _ ht, run_slice_l w t A m d ht .i64 (k : Int) (by omega) (by omega), hs]
    simp only [Result.andThen_ok, sliced, Int.toNat_natCast]
  have h2 := h (if d = k then A else A.map (·.add (k * 33))) (show _ → _ from fun hlt => if_neg (by omega))
  unfold Oper.wp execOp
  simp only [ho, hx, hi, Option.map, Sem.run_bind, Sem.run_pure, hrun, Result.andThen_ok]
  exact hK _ _ h2
theorem elem_enl : Tryd.prog.elem 36 = 72 := by kernel_rfl
theorem subD_two (wd : Int) {h : Nat} (h0 : 0 < h) (m : List Chg) : subD wd h m = nodeD wd (branchT wd (subD wd (h - 1) (sideL m (h - 1) 0)) (subD wd (h - 1) (sideL m (h - 1) 1))) := by
  cases h with
  | zero => omega
  | succ h => rw [subD_succ, Nat.add_sub_cancel]
set_option maxRecDepth 20000 in
set_option maxHeartbeats 1000000 in
theorem rdigest_any (wd : Int) (g c : Nat) (h : Nat) : ∀ (A : Option Addr) (N cap : Nat) (X : Nat → Chg) (w : World), h ≤ 256 → EsAt w g wd → MPart w A N cap X (256 - h) → Tabs1 w →
    Calls Tryd.prog 27 #[.int .i64 wd, .slice (some ⟨g, 0, none⟩) 257 c, .slice A N cap, .int .i64 ((256 - h : Nat) : Int)] w fun e w' => e = .returned (.agg (bvs (subD wd h (lst X N))).toArray) ∧ Below w.heap.size w w' := by
  induction h using Nat.strongRecOn with
  | ind h ih =>
  intro A N cap X w hh hE hP hT
  have HE := Lib.hid hE
  have HP := Lib.hid hP
  have HT := Lib.hid hT
  have HI := Lib.hid ih
  have hsub : (256 : Int) - ((256 - h : Nat) : Int) = (h : Int) := by omega
  obtain ⟨n, hn⟩ : ∃ n, n = 256 - h := ⟨_, rfl⟩
  have HNH := Lib.hid hn
  rw [← hn] at hsub HP ⊢
  have hh257 : (h : Int) < 257 := by omega
  obtain ⟨R, HRE⟩ : ∃ R, Hid (subD wd h (lst X N) = R) := ⟨_, rfl⟩
  have HRF : Hid (R.length = 32 ∧ IsB R) := by rw [← HRE.out]; exact ⟨(subD_facts wd h _).1, (subD_facts wd h _).2.1⟩
  rw [HRE.out]
  clear hE hP hT ih hn
  go_enter Tryd.func27, Tryd.ntmps27
  go_wp2_with (with_reducible refine stopAt (o := ⟨some 14, _, _, _, _, _⟩) ?_)
  refine start1 (G := fun w2 => Hid (wpList _ _ _ _ _ w2)) fun w2 H1 HW HS => ?_
  have HZ2 : Hid (BlkB w2 w.heap.size 29 (zs 32)) := H1
  clear H1
  refine Lib.hid ?_
  by_cases h0 : N = 0
  · subst h0
    have HRB := Lib.hid (range_rb ((HE.out.below HW.out).2 h (by omega)) (emptyD_isB wd h) (emptyD_length wd h) (HE.out.below HW.out).1)
    have HSD : Hid (emptyD wd h = R) := (subD_nil wd h).symm.trans HRE.out
    rw [HSD.out] at HRB
    go_wp2_with (first
      | ((with_reducible refine stopAt (o := ⟨some 20, _, _, _, _, _⟩) ?_); refine wpList_load_arr (o := ⟨some 20, _, _, _, _, _⟩) (by rfl) 29 (.tmp 19) rfl ⟨g, h * 32, none⟩ 32 R rfl HRB.out (by omega) (by kernel_rfl) (by kernel_rfl) ?_)
      | (refine wpList_store_part (o := ⟨none, _, _, _, _, _⟩) (by rfl) 29 (.tmp 8) (.tmp 20) rfl 0 [] (bvs (zs 32)) (bvs R) [] rfl rfl (blk_in HZ2.out) rfl (by simp [bvs, zs, HRF.out.1]) (by rw [size_dig]; simp [bvs, HRF.out.1]) (fun u hu => bvs_oneCell _ u hu) ?_; intro w9 h9 g9))
    exact arr_ret rfl rfl (blk_out h9) HRF.out.1 row_dig size_dig rfl ⟨rfl, HW.out.grown g9 HW.out.size fun k hk => by injection hk with hk; omega⟩
  by_cases h1 : N = 1
  · subst h1
    obtain ⟨b, o, Av, Cv, rfl, hb, hr, hkB, hkl, hvr, hvC, hCm, hnil⟩ := HP.out.ents.2 0 (by omega)
    have hvl := HP.out.val 0 (by omega)
    rw [show lst X 1 = [X 0] from rfl, subD_one] at HRE
    rw [Nat.zero_mul, Nat.add_zero] at hr
    have HKX := Lib.hid (And.intro hkl hkB)
    have HVX := Lib.hid hvr
    have HVL := Lib.hid hvl
    have HR := Lib.hid hr
    have HBL := Lib.hid hb
    clear HP hb hr hkB hkl hvr hvC hCm hnil hvl h0
    generalize X 0 = x at *
    have HSS : Hid (∀ W, Below w.heap.size w W → W.rangeAt b o (bvs x.key) ∧ W.cell? ⟨b, o + 32, none⟩ = some (.slice Av x.val.length Cv)) := fun W hb => ⟨en_key (range_below hb HBL.out HR.out), en_val (range_below hb HBL.out HR.out) HKX.out.1⟩
    have huk := und_key
    have hszk : (Tryd.prog.info? 31).map (·.size) = some (bvs x.key).length := by rw [size_key]; simp [bvs, HKX.out.1]
    go_upto_region 4 with fail
    go_cut [9] from 13 (fun s9 wx => ∃ B : Nat, s9 = .pointer (some ⟨B, 0, none⟩) ∧ Hid (Below w.heap.size w wx) ∧ Hid (BlkB wx B 29 (nodeD wd (leafT x.key x.val))) ∧ Hid (BlkB wx w.heap.size 29 (zs 32)) ∧ Hid (w.heap.size < B))
    case first =>
      refine wp_region_held_drew (S := fun w' => w'.rangeAt b o (bvs x.key) ∧ w'.cell? ⟨b, o + 32, none⟩ = some (.slice Av x.val.length Cv)) (by kernel_rfl) (HSS.out _ (drewN_below HW.out 1)) fun hH => ?_
      have HB0 : Hid (Below w.heap.size w w2.drew) := drewN_below HW.out 1
      have HZ0 : Hid (BlkB w2.drew w.heap.size 29 (zs 32)) := HZ2
      generalize w2.drew = w0 at *
      refine wpAnyH_take (i := 0) (oi := ⟨some 24, _, _, _, _, _⟩) rfl (by kernel_rfl) (by kernel_rfl) (by kernel_rfl) (fun _ _ _ h => h) (Or.inl ⟨by rfl, fun w hw => by ((try dsimp only at hw); go_split_ands; go_simp; with_reducible rfl)⟩) (by assumption) ?_
      try simp only [Act.put, List.setIfInBounds_toArray, List.set_cons_zero, List.set_cons_succ]
      refine wpAnyH_take (i := 1) (oi := ⟨some 25, _, _, _, _, _⟩) rfl (by kernel_rfl) (by kernel_rfl) (by kernel_rfl) (fun _ _ _ h => h) (Or.inl ⟨by rfl, fun w hw => by ((try dsimp only at hw); go_split_ands; go_simp; with_reducible rfl)⟩) (by assumption) ?_
      try simp only [Act.put, List.setIfInBounds_toArray, List.set_cons_zero, List.set_cons_succ]
      refine wpAnyH_take (i := 2) (oi := ⟨some 26, _, _, _, _, _⟩) rfl (by kernel_rfl) (by kernel_rfl) (by kernel_rfl) (fun _ _ _ h => h) (Or.inl ⟨by rfl, fun w hw => by ((try dsimp only at hw); go_split_ands; go_simp; with_reducible rfl)⟩) (by assumption) ?_
      try simp only [Act.put, List.setIfInBounds_toArray, List.set_cons_zero, List.set_cons_succ]
      refine wpAnyH_take (i := 3) (oi := ⟨some 27, _, _, _, _, _⟩) rfl (by kernel_rfl) (by kernel_rfl) (by kernel_rfl) (fun _ _ _ h => h) (Or.inl ⟨by rfl, fun w hw => by ((try dsimp only at hw); go_split_ands; go_simp; with_reducible rfl)⟩) (by assumption) ?_
      try simp only [Act.put, List.setIfInBounds_toArray, List.set_cons_zero, List.set_cons_succ]
      refine wpAnyH_take (i := 4) (oi := ⟨some 28, _, _, _, _, _⟩) rfl (by kernel_rfl) (by kernel_rfl) (by kernel_rfl) (fun _ _ _ h => h) (yieldsIf_load_mid (by rfl) _ _ rfl _ _ rfl _ _ (fun w hw => by (try dsimp only at hw); go_split_ands; assumption) (by assumption) rfl (by assumption)) (by assumption) ?_
      try simp only [Act.put, List.setIfInBounds_toArray, List.set_cons_zero, List.set_cons_succ]
      refine wpAnyH_take (i := 5) (oi := ⟨some 29, _, _, _, _, _⟩) rfl (by kernel_rfl) (by kernel_rfl) (by kernel_rfl) (fun _ _ _ h => h) (Or.inl ⟨by rfl, fun w hw => by ((try dsimp only at hw); go_split_ands; go_simp; with_reducible rfl)⟩) (by assumption) ?_
      try simp only [Act.put, List.setIfInBounds_toArray, List.set_cons_zero, List.set_cons_succ]
      refine wpAnyH_take (i := 6) (oi := ⟨some 30, _, _, _, _, _⟩) rfl (by kernel_rfl) (by kernel_rfl) (by kernel_rfl) (fun _ _ _ h => h) (Or.inl ⟨by rfl, fun w hw => by ((try dsimp only at hw); go_split_ands; go_simp; with_reducible rfl)⟩) (by assumption) ?_
      try simp only [Act.put, List.setIfInBounds_toArray, List.set_cons_zero, List.set_cons_succ]
      refine wpAnyH_take (i := 7) (oi := ⟨some 31, _, _, _, _, _⟩) rfl (by kernel_rfl) (by kernel_rfl) (by kernel_rfl) (fun _ _ _ h => h) (Or.inl ⟨by rfl, fun w hw => by ((try dsimp only at hw); go_split_ands; go_simp; with_reducible rfl)⟩) (by assumption) ?_
      try simp only [Act.put, List.setIfInBounds_toArray, List.set_cons_zero, List.set_cons_succ]
      refine wpAnyH_take (i := 8) (oi := ⟨some 32, _, _, _, _, _⟩) rfl (by kernel_rfl) (by kernel_rfl) (by kernel_rfl) (fun _ _ _ h => h) (Or.inl ⟨by rfl, fun w hw => by ((try dsimp only at hw); go_split_ands; go_simp; with_reducible rfl)⟩) (by assumption) ?_
      try simp only [Act.put, List.setIfInBounds_toArray, List.set_cons_zero, List.set_cons_succ]
      refine wpAnyH_ready (rs := [9, 10]) (by kernel_rfl) (by simp) ?_
      refine AllReadyH.cons rfl (fun K hK => ?_) (AllReadyH.cons rfl (fun K hK => ?_) AllReadyH.nil)
      · go_simp
        go_at_call 48
        refine (rleaf_any wd x.key Av x.val.length Cv x.val w0 HKX.out.2 HKX.out.1 (HVX.out.below HB0.out) (by have := HVL.out; omega) ⟨HT.out.1.below HB0.out, HT.out.2.below HB0.out⟩).mono ?_
        rintro e y1 ⟨rfl, hb1⟩
        have HB_1 : Hid (Below w.heap.size w y1) := HB0.out.trans (hb1.mono HB0.out.size)
        have HZ_1 : Hid (BlkB y1 w.heap.size 29 (zs 32)) := BlkIs.below HZ0.out hb1
        refine hK.out _ _ (HSS.out _ HB_1.out) (fun hH => ?_)
        clear hK hb1
        refine wpAnyH_ready (rs := [10]) (by kernel_rfl) (by simp) ?_
        refine AllReadyH.cons rfl (fun K hK => ?_) AllReadyH.nil
        refine wpOp_alloc (o := ⟨some 9, _, _, _, _, _⟩) (by rfl) 29 rfl _ _ info_dig ?_
        intro y2 hz2 hb2 hs2
        have hb2 := hb2.out
        have HB_2 : Hid (Below w.heap.size w y2) := HB_1.out.trans (hb2.mono HB_1.out.size)
        have HZ_2 : Hid (BlkB y2 w.heap.size 29 (zs 32)) := BlkIs.below HZ_1.out hb2
        have HD_2 : Hid (BlkB y2 y1.heap.size 29 (zs 32)) := hz2.out
        have HG_2 : Hid (w.heap.size < y1.heap.size) := HZ_1.out.lt
        refine hK.out _ _ (HSS.out _ HB_2.out) (fun hH => ?_)
        clear hK hb2
        refine wpAnyH_ready (rs := [11]) (by kernel_rfl) (by simp) ?_
        refine AllReadyH.cons (o := ⟨none, _, _, _, _, _⟩) rfl (fun K hK => ?_) AllReadyH.nil
        refine wpOp_store_part (o := ⟨none, _, _, _, _, _⟩) (by rfl) 29 (.tmp 9) (.tmp 33) rfl 0 [] (bvs (zs 32)) (bvs (nodeD wd (leafT x.key x.val))) [] rfl rfl (blk_in HD_2.out) rfl (by simp [bvs, zs, nodeD_length]) (by rw [size_dig]; simp [bvs, nodeD_length]) (fun u hu => bvs_oneCell _ u hu) ?_
        intro z1 hz1 gz1
        have HBz : Hid (Below w.heap.size w z1) := HB_2.out.grown gz1 HB_2.out.size fun k hk => by injection hk with hk; have := HG_2.out; omega
        have HZz : Hid (BlkB z1 w.heap.size 29 (zs 32)) := (Touch.one gz1).blk HZ_2.out (by have := HG_2.out; omega)
        refine hK.out _ _ (HSS.out _ HBz.out) (fun hH => ?_)
        clear hK
        refine wpAnyH_done (by kernel_rfl) ?_ _
        go_wp2_with fail
        go_meet
        case rel => exact ⟨y1.heap.size, rfl, HBz.out, blk_out hz1, HZz.out, HG_2.out⟩
      · refine wpOp_alloc (o := ⟨some 9, _, _, _, _, _⟩) (by rfl) 29 rfl _ _ info_dig ?_
        intro y3 hz3 hb3 hs3
        have hb3 := hb3.out
        have HB_3 : Hid (Below w.heap.size w y3) := HB0.out.trans (hb3.mono HB0.out.size)
        have HZ_3 : Hid (BlkB y3 w.heap.size 29 (zs 32)) := BlkIs.below HZ0.out hb3
        have HD_3 : Hid (BlkB y3 w0.heap.size 29 (zs 32)) := hz3.out
        have HG_3 : Hid (w.heap.size < w0.heap.size) := HZ0.out.lt
        refine hK.out _ _ (HSS.out _ HB_3.out) (fun hH => ?_)
        clear hK hb3
        refine wpAnyH_ready (rs := [9]) (by kernel_rfl) (by simp) ?_
        refine AllReadyH.cons rfl (fun K hK => ?_) AllReadyH.nil
        go_simp
        go_at_call 48
        refine (rleaf_any wd x.key Av x.val.length Cv x.val y3 HKX.out.2 HKX.out.1 (HVX.out.below HB_3.out) (by have := HVL.out; omega) ⟨HT.out.1.below HB_3.out, HT.out.2.below HB_3.out⟩).mono ?_
        rintro e y4 ⟨rfl, hb4⟩
        have HB_4 : Hid (Below w.heap.size w y4) := HB_3.out.trans (hb4.mono HB_3.out.size)
        have HZ_4 : Hid (BlkB y4 w.heap.size 29 (zs 32)) := BlkIs.below HZ_3.out hb4
        have HD_4 : Hid (BlkB y4 w0.heap.size 29 (zs 32)) := BlkIs.below HD_3.out hb4
        have HG_4 : Hid (w.heap.size < w0.heap.size) := HG_3.out
        refine hK.out _ _ (HSS.out _ HB_4.out) (fun hH => ?_)
        clear hK hb4
        refine wpAnyH_ready (rs := [11]) (by kernel_rfl) (by simp) ?_
        refine AllReadyH.cons (o := ⟨none, _, _, _, _, _⟩) rfl (fun K hK => ?_) AllReadyH.nil
        refine wpOp_store_part (o := ⟨none, _, _, _, _, _⟩) (by rfl) 29 (.tmp 9) (.tmp 33) rfl 0 [] (bvs (zs 32)) (bvs (nodeD wd (leafT x.key x.val))) [] rfl rfl (blk_in HD_4.out) rfl (by simp [bvs, zs, nodeD_length]) (by rw [size_dig]; simp [bvs, nodeD_length]) (fun u hu => bvs_oneCell _ u hu) ?_
        intro z1 hz1 gz1
        have HBz : Hid (Below w.heap.size w z1) := HB_4.out.grown gz1 HB_4.out.size fun k hk => by injection hk with hk; have := HG_4.out; omega
        have HZz : Hid (BlkB z1 w.heap.size 29 (zs 32)) := (Touch.one gz1).blk HZ_4.out (by have := HG_4.out; omega)
        refine hK.out _ _ (HSS.out _ HBz.out) (fun hH => ?_)
        clear hK
        refine wpAnyH_done (by kernel_rfl) ?_ _
        go_wp2_with fail
        go_meet
        case rel => exact ⟨w0.heap.size, rfl, HBz.out, blk_out hz1, HZz.out, HG_4.out⟩
    case rest =>
      obtain ⟨B, rfl, HB3, HD3, HZ3, HG3⟩ := hcut
      obtain ⟨w3, rfl⟩ : ∃ x, x = wc := ⟨_, rfl⟩
      have HCL := Lib.hid (fun W hb => rclimb_any g c wd x.key (nodeD wd (leafT x.key x.val)) h W (HE.out.below hb) hh HKX.out.2 HKX.out.1 (nodeD_isB _ _) (nodeD_length _ _) (nodeD_tidy _ _) ⟨HT.out.1.below hb, HT.out.2.below hb⟩)
      have HDL := Lib.hid (And.intro (nodeD_length wd (leafT x.key x.val)) (nodeD_isB wd (leafT x.key x.val)))
      rw [HRE.out] at HCL
      generalize nodeD wd (leafT x.key x.val) = D at *
      have hwr : IntKind.i64.wrap ((h : Nat) : Int) = (h : Int) := IntWalk.i64_in _ (by omega)
      have hud := und_dig
      have hszd : (Tryd.prog.info? 29).map (·.size) = some (bvs D).length := by rw [size_dig]; simp [bvs, HDL.out.1]
      go_upto_region 5 with fail
      have HS3 : Hid (∀ W, Below w3.heap.size w3 W → W.rangeAt b o (bvs x.key) ∧ W.rangeAt B 0 (bvs D)) := fun W hb => ⟨(HSS.out W (HB3.out.trans (hb.mono HB3.out.size))).1, BlkIs.range (BlkIs.below HD3.out hb)⟩
      refine wp_region_held_drew (S := fun w' => w'.rangeAt b o (bvs x.key) ∧ w'.rangeAt B 0 (bvs D)) (by kernel_rfl) (HS3.out _ (drewN_below (Below.refl _ _) 1)) fun hH => ?_
      have HB0 : Hid (Below w3.heap.size w3 w3.drew) := drewN_below (Below.refl _ _) 1
      generalize w3.drew = w4 at *
      refine wpAnyH_take (i := 0) (oi := ⟨some 34, _, _, _, _, _⟩) rfl (by kernel_rfl) (by kernel_rfl) (by kernel_rfl) (fun _ _ _ h => h) (Or.inl ⟨by rfl, fun w hw => by ((try dsimp only at hw); go_split_ands; go_simp; with_reducible rfl)⟩) (by assumption) ?_
      try simp only [Act.put, List.setIfInBounds_toArray, List.set_cons_zero, List.set_cons_succ]
      refine wpAnyH_take (i := 1) (oi := ⟨some 35, _, _, _, _, _⟩) rfl (by kernel_rfl) (by kernel_rfl) (by kernel_rfl) (fun _ _ _ h => h) (Or.inl ⟨by rfl, fun w hw => by ((try dsimp only at hw); go_split_ands; go_simp; with_reducible rfl)⟩) (by assumption) ?_
      try simp only [Act.put, List.setIfInBounds_toArray, List.set_cons_zero, List.set_cons_succ]
      refine wpAnyH_take (i := 2) (oi := ⟨some 36, _, _, _, _, _⟩) rfl (by kernel_rfl) (by kernel_rfl) (by kernel_rfl) (fun _ _ _ h => h) (Or.inl ⟨by rfl, fun w hw => by ((try dsimp only at hw); go_split_ands; go_simp; with_reducible rfl)⟩) (by assumption) ?_
      try simp only [Act.put, List.setIfInBounds_toArray, List.set_cons_zero, List.set_cons_succ]
      refine wpAnyH_take (i := 3) (oi := ⟨some 37, _, _, _, _, _⟩) rfl (by kernel_rfl) (by kernel_rfl) (by kernel_rfl) (fun _ _ _ h => h) (Or.inl ⟨by rfl, fun w hw => by ((try dsimp only at hw); go_split_ands; go_simp; with_reducible rfl)⟩) (by assumption) ?_
      try simp only [Act.put, List.setIfInBounds_toArray, List.set_cons_zero, List.set_cons_succ]
      refine wpAnyH_take (i := 4) (oi := ⟨some 38, _, _, _, _, _⟩) rfl (by kernel_rfl) (by kernel_rfl) (by kernel_rfl) (fun _ _ _ h => h) (Or.inl ⟨by rfl, fun w hw => by ((try dsimp only at hw); go_split_ands; go_simp; with_reducible rfl)⟩) (by assumption) ?_
      try simp only [Act.put, List.setIfInBounds_toArray, List.set_cons_zero, List.set_cons_succ]
      refine wpAnyH_take (i := 5) (oi := ⟨some 39, _, _, _, _, _⟩) rfl (by kernel_rfl) (by kernel_rfl) (by kernel_rfl) (fun _ _ _ h => h) (yieldsIf_load_mid (by rfl) _ _ rfl _ _ rfl _ _ (fun w hw => by (try dsimp only at hw); go_split_ands; assumption) (by assumption) rfl (by assumption)) (by assumption) ?_
      try simp only [Act.put, List.setIfInBounds_toArray, List.set_cons_zero, List.set_cons_succ]
      refine wpAnyH_take (i := 6) (oi := ⟨some 40, _, _, _, _, _⟩) rfl (by kernel_rfl) (by kernel_rfl) (by kernel_rfl) (fun _ _ _ h => h) (yieldsIf_load_mid (by rfl) _ _ rfl _ _ rfl _ _ (fun w hw => by (try dsimp only at hw); go_split_ands; assumption) (by assumption) rfl (by assumption)) (by assumption) ?_
      try simp only [Act.put, List.setIfInBounds_toArray, List.set_cons_zero, List.set_cons_succ]
      refine wpAnyH_take (i := 7) (oi := ⟨some 41, _, _, _, _, _⟩) rfl (by kernel_rfl) (by kernel_rfl) (by kernel_rfl) (fun _ _ _ h => h) (Or.inl ⟨by rfl, fun w hw => by ((try dsimp only at hw); go_split_ands; go_simp; with_reducible rfl)⟩) (by assumption) ?_
      try simp only [Act.put, List.setIfInBounds_toArray, List.set_cons_zero, List.set_cons_succ]
      refine wpAnyH_take (i := 8) (oi := ⟨some 42, _, _, _, _, _⟩) rfl (by kernel_rfl) (by kernel_rfl) (by kernel_rfl) (fun _ _ _ h => h) (Or.inl ⟨by rfl, fun w hw => by ((try dsimp only at hw); go_split_ands; go_simp; with_reducible rfl)⟩) (by assumption) ?_
      try simp only [Act.put, List.setIfInBounds_toArray, List.set_cons_zero, List.set_cons_succ]
      clear hH huk hszk hud hszd hwr
      refine wpAnyH_ready (rs := [9]) (by kernel_rfl) (by simp) ?_
      refine AllReadyH.cons rfl (fun K hK => ?_) (AllReadyH.nil)
      go_simp
      go_at_call 49
      refine (HCL.out w4 (HB3.out.trans (HB0.out.mono HB3.out.size))).mono ?_
      rintro e w5 ⟨rfl, hb5⟩
      have HB5 : Hid (Below w3.heap.size w3 w5) := HB0.out.trans (hb5.mono HB0.out.size)
      refine hK.out _ _ (HS3.out _ HB5.out) (fun hH => ?_)
      clear hK hb5
      refine wpAnyH_ready (rs := [10]) (by kernel_rfl) (by simp) ?_
      refine AllReadyH.cons (o := ⟨none, _, _, _, _, _⟩) rfl (fun K hK => ?_) AllReadyH.nil
      refine wpOp_store_part (o := ⟨none, _, _, _, _, _⟩) (by rfl) 29 (.tmp 8) (.tmp 43) rfl 0 [] (bvs (zs 32)) (bvs R) [] rfl rfl (blk_in (BlkIs.below HZ3.out HB5.out)) rfl (by simp [bvs, zs, HRF.out.1]) (by rw [size_dig]; simp [bvs, HRF.out.1]) (fun u hu => bvs_oneCell _ u hu) ?_
      intro w6 h6 g6
      refine hK.out _ _ ⟨range_touch (Touch.one g6) (HS3.out _ HB5.out).1 (by have := HBL.out; have := HB3.out.size; have := HB5.out.size; omega) (by have := HBL.out; omega), BlkIs.range ((Touch.one g6).blk (BlkIs.below HD3.out HB5.out) (by have := HG3.out; omega))⟩ (fun hH => ?_)
      clear hK hH
      refine wpAnyH_done (by kernel_rfl) ?_ _
      go_wp2_with fail
      exact arr_ret rfl rfl (blk_out h6) HRF.out.1 row_dig size_dig rfl ⟨rfl, (HB3.out.trans (HB5.out.mono HB3.out.size)).grown g6 (Nat.le_trans HB3.out.size HB5.out.size) fun k hk => by injection hk with hk; omega⟩
  · have hN2 : 2 ≤ N := by omega
    have h00 : ¬ (N : Int) = 0 := by omega
    have h11 : ¬ (N : Int) = 1 := by omega
    have hp0 : 0 < h := MPart.two (h := h) (by rw [← HNH.out]; exact HP.out) hN2
    obtain ⟨m, hm⟩ : ∃ m, h = m + 1 := ⟨h - 1, by omega⟩
    have hnm : n = 255 - m := by rw [HNH.out]; omega
    have HP' := HP.out
    rw [hnm] at HP'
    have hm256 : m < 256 := by omega
    have hsn : ((255 - m : Nat) : Int) + 1 = ((256 - m : Nat) : Int) := by omega
    have HSN := Lib.hid hsn
    have HPM := Lib.hid HP'
    have HM := Lib.hid hm
    rw [hm, subD_succ] at HRE
    subst hnm
    clear HP HP' hm hp0 h0 h1 hsub hsn HNH hh257 hN2
    go_wp2_with fail
    refine (split_any A N cap X (255 - m) w2 (HPM.out.ents.below HW.out) (by omega) HPM.out.few).mono ?_
    rintro e w3 ⟨k, rfl, hk, hz, hnz, hb3⟩
    obtain ⟨s1, s2, p1, p2⟩ := HPM.out.parts hm256 hk hz hnz
    rw [s1, s2] at HRE
    have HP1 := Lib.hid p1
    have HP2 := Lib.hid p2
    have HB3 : Hid (Below w.heap.size w w3) := HW.out.trans (hb3.mono HW.out.size)
    have HZ3 : Hid (BlkB w3 w.heap.size 29 (zs 32)) := BlkIs.below HZ2.out hb3
    have hkc : k ≤ cap := Nat.le_trans hk HPM.out.le
    have HKC := Lib.hid (And.intro hk HPM.out.le)
    clear hz hnz hb3 s1 s2 p1 p2 HZ2
    go_wp2_with fail
    rw [HSN.out]
    have hmh : m < h := by have := HM.out; omega
    refine (HI.out m hmh A k cap X w3 (by omega) (HE.out.below HB3.out) (HP1.out.below HB3.out) ⟨HT.out.1.below HB3.out, HT.out.2.below HB3.out⟩).mono ?_
    rintro e w4 ⟨rfl, hb4⟩
    have HF1 := Lib.hid (subD_facts wd m (lst X k))
    obtain ⟨D1, HD1⟩ : ∃ D, Hid (subD wd m (lst X k) = D) := ⟨_, rfl⟩
    rw [HD1.out] at HRE HF1 ⊢
    have HB4 : Hid (Below w.heap.size w w4) := HB3.out.trans (hb4.mono HB3.out.size)
    have HZ4 : Hid (BlkB w4 w.heap.size 29 (zs 32)) := BlkIs.below HZ3.out hb4
    have HLT : Hid (w.heap.size < w4.heap.size) := HZ4.out.lt
    clear hb4 HZ3
    go_wp2_with (first
      | ((with_reducible refine stopAt (o := ⟨some 11, _, _, _, _, _⟩) ?_); refine allocNew (o := ⟨some 11, _, _, _, _, _⟩) (by rfl) 29 rfl _ _ info_dig ?_; intro w5 HE5 HW5 HS5)
      | (refine wpList_store_part (o := ⟨none, _, _, _, _, _⟩) (by rfl) 29 (.tmp 11) (.tmp 54) rfl 0 [] (bvs (zs 32)) (bvs D1) [] rfl rfl (blk_in HE5.out) rfl (by simp [bvs, zs, HF1.out.1]) (by rw [size_dig]; simp [bvs, HF1.out.1]) (fun u hu => bvs_oneCell _ u hu) ?_; intro w6 h6 g6)
      | ((with_reducible refine stopAt (o := ⟨some 59, _, _, _, _, _⟩) ?_); refine sliceFromE (o := ⟨some 59, _, _, _, _, _⟩) rfl 36 (.tmp 57) (.tmp 58) rfl (by rw [elem_enl]; exact und_enl) (by rw [elem_enl]; exact size_ent) A N cap k rfl rfl HKC.out.1 HKC.out.2 ?_; intro A2 HA2))
    have HB6 : Hid (Below w.heap.size w w6) := (HB4.out.trans (HW5.out.mono HB4.out.size)).grown g6 (Nat.le_trans HB4.out.size HW5.out.size) fun k hk => by injection hk with hk; have := HB4.out.size; omega
    have HZ6 : Hid (BlkB w6 w.heap.size 29 (zs 32)) := (Touch.one g6).blk (BlkIs.below HZ4.out HW5.out) (by have := HLT.out; omega)
    have HX6 : Hid (BlkB w6 w4.heap.size 29 D1) := blk_out h6
    clear h6 g6 HE5 HW5 HS5 HZ4
    rw [HSN.out]
    refine (HI.out m hmh A2 (N - k) (cap - k) (fun i => X (k + i)) w6 (by omega) (HE.out.below HB6.out) ((HP2.out A2 HA2.out).below HB6.out) ⟨HT.out.1.below HB6.out, HT.out.2.below HB6.out⟩).mono ?_
    rintro e w7 ⟨rfl, hb7⟩
    have HF2 := Lib.hid (subD_facts wd m (lst (fun i => X (k + i)) (N - k)))
    obtain ⟨D2, HD2⟩ : ∃ D, Hid (subD wd m (lst (fun i => X (k + i)) (N - k)) = D) := ⟨_, rfl⟩
    rw [HD2.out] at HRE HF2 ⊢
    have HB7 : Hid (Below w.heap.size w w7) := HB6.out.trans (hb7.mono HB6.out.size)
    have HZ7 : Hid (BlkB w7 w.heap.size 29 (zs 32)) := BlkIs.below HZ6.out hb7
    have HX7 : Hid (BlkB w7 w4.heap.size 29 D1) := BlkIs.below HX6.out hb7
    have HLT7 : Hid (w4.heap.size < w7.heap.size) := HX7.out.lt
    clear hb7 HZ6 HX6
    go_wp2_with (first
      | ((with_reducible refine stopAt (o := ⟨some 12, _, _, _, _, _⟩) ?_); refine allocNew (o := ⟨some 12, _, _, _, _, _⟩) (by rfl) 29 rfl _ _ info_dig ?_; intro w8 HE8 HW8 HS8)
      | (refine wpList_store_part (o := ⟨none, _, _, _, _, _⟩) (by rfl) 29 (.tmp 12) (.tmp 62) rfl 0 [] (bvs (zs 32)) (bvs D2) [] rfl rfl (blk_in HE8.out) rfl (by simp [bvs, zs, HF2.out.1]) (by rw [size_dig]; simp [bvs, HF2.out.1]) (fun u hu => bvs_oneCell _ u hu) ?_; intro w9 h9 g9; have HX9 : Hid (BlkB w9 w4.heap.size 29 D1) := (Touch.one g9).blk (BlkIs.below HX7.out HW8.out) (by have := HLT7.out; omega); have HY9 : Hid (BlkB w9 w7.heap.size 29 D2) := blk_out h9)
      | ((with_reducible refine stopAt (o := ⟨some 64, _, _, _, _, _⟩) ?_); refine wpList_load_arr (o := ⟨some 64, _, _, _, _, _⟩) (by rfl) 29 (.tmp 11) rfl ⟨w4.heap.size, 0, none⟩ 32 D1 rfl (HX9.out.whole HF1.out.2.1 HF1.out.1) (by omega) (by kernel_rfl) (by kernel_rfl) ?_)
      | ((with_reducible refine stopAt (o := ⟨some 65, _, _, _, _, _⟩) ?_); refine wpList_load_arr (o := ⟨some 65, _, _, _, _, _⟩) (by rfl) 29 (.tmp 12) rfl ⟨w7.heap.size, 0, none⟩ 32 D2 rfl (HY9.out.whole HF2.out.2.1 HF2.out.1) (by omega) (by kernel_rfl) (by kernel_rfl) ?_))
    have HB9 : Hid (Below w.heap.size w w9) := (HB7.out.trans (HW8.out.mono HB7.out.size)).grown g9 (Nat.le_trans HB7.out.size HW8.out.size) fun k hk => by injection hk with hk; have := HB7.out.size; omega
    have HZ9 : Hid (BlkB w9 w.heap.size 29 (zs 32)) := (Touch.one g9).blk (BlkIs.below HZ7.out HW8.out) (by have := HLT.out; have := HLT7.out; omega)
    clear h9 g9 HE8 HW8 HS8 HZ7
    refine (rbranch_any wd D1 D2 w9 HF1.out.2.1 HF1.out.1 HF2.out.2.1 HF2.out.1 ⟨HT.out.1.below HB9.out, HT.out.2.below HB9.out⟩).mono ?_
    rintro e w10 ⟨rfl, hb10⟩
    rw [HRE.out]
    have HZ10 : Hid (BlkB w10 w.heap.size 29 (zs 32)) := BlkIs.below HZ9.out hb10
    have HB10 : Hid (Below w.heap.size w w10) := HB9.out.trans (hb10.mono HB9.out.size)
    clear hb10
    go_wp2_with (refine wpList_store_part (o := ⟨none, _, _, _, _, _⟩) (by rfl) 29 (.tmp 8) (.tmp 66) rfl 0 [] (bvs (zs 32)) (bvs R) [] rfl rfl (blk_in HZ10.out) rfl (by simp [bvs, zs, HRF.out.1]) (by rw [size_dig]; simp [bvs, HRF.out.1]) (fun u hu => bvs_oneCell _ u hu) ?_; intro w11 h11 g11)
    exact arr_ret rfl rfl (blk_out h11) HRF.out.1 row_dig size_dig rfl ⟨rfl, HB10.out.grown g11 HB10.out.size fun k hk => by injection hk with hk; omega⟩
set_option maxHeartbeats 1000000 in
theorem rroot_any (wd : Int) (A : Option Addr) (N cap : Nat) (X : Nat → Chg) (w : World) (hP : MPart w A N cap X 0) (hT : Tabs1 w) :
    Calls Tryd.prog 11 #[.int .i64 wd, .slice A N cap] w fun e w' => e = .returned (.agg (bvs (subD wd 256 (lst X N))).toArray) ∧ Below w.heap.size w w' := by
  have HP := Lib.hid hP
  have HT := Lib.hid hT
  have HF := Lib.hid (subD_facts wd 256 (lst X N))
  obtain ⟨R, HR⟩ : ∃ R, Hid (subD wd 256 (lst X N) = R) := ⟨_, rfl⟩
  rw [HR.out] at HF ⊢
  clear hP hT
  go_enter Tryd.func11, Tryd.ntmps11
  go_wp2_with fail
  refine start1 (G := fun w2 => Calls _ _ _ w2 _) fun w2 H1 HW HS => ?_
  have HZ2 : Hid (BlkB w2 w.heap.size 29 (zs 32)) := H1
  clear H1
  refine (empties_any wd w2 ⟨HT.out.1.below HW.out, HT.out.2.below HW.out⟩).mono ?_
  rintro e w3 ⟨g, c, rfl, hE, _, _, hb3⟩
  have HE := Lib.hid hE
  have HB3 : Hid (Below w.heap.size w w3) := HW.out.trans (hb3.mono HW.out.size)
  have HZ3 : Hid (BlkB w3 w.heap.size 29 (zs 32)) := BlkIs.below HZ2.out hb3
  have HDG := Lib.hid (rdigest_any wd g c 256 A N cap X w3 (by omega) HE.out (HP.out.below HB3.out) ⟨HT.out.1.below HB3.out, HT.out.2.below HB3.out⟩)
  rw [show ((256 - 256 : Nat) : Int) = 0 from rfl] at HDG
  rw [HR.out] at HDG
  clear hE hb3 HZ2
  go_wp2_with fail
  refine HDG.out.mono ?_
  rintro e w4 ⟨rfl, hb4⟩
  have HB4 : Hid (Below w.heap.size w w4) := HB3.out.trans (hb4.mono HB3.out.size)
  have HZ4 : Hid (BlkB w4 w.heap.size 29 (zs 32)) := BlkIs.below HZ3.out hb4
  clear hb4
  go_wp2_with (refine wpList_store_part (o := ⟨none, _, _, _, _, _⟩) (by rfl) 29 (.tmp 4) (.tmp 11) rfl 0 [] (bvs (zs 32)) (bvs R) [] rfl rfl (blk_in HZ4.out) rfl (by simp [bvs, zs, HF.out.1]) (by rw [size_dig]; simp [bvs, HF.out.1]) (fun u hu => bvs_oneCell _ u hu) ?_; intro w11 h11 g11)
  exact arr_ret rfl rfl (blk_out h11) HF.out.1 row_dig size_dig rfl ⟨rfl, HB4.out.grown g11 HB4.out.size fun k hk => by injection hk with hk; omega⟩
end Go.Proofs.YtfnlhfaihoojfaaDoor

/- ledgerref12: bytes, Neighbours, Ones. -/
namespace Go.Proofs.YtfnlhfaihoojfaaDoor
open Go.RowKit
set_option maxHeartbeats 400000 in
theorem bytes12_any (A : Option Addr) (n c : Nat) (xs : List Nat) (w : World) (hx : RB w A n xs) (hn : n ≤ 140737488355328) :
    Calls Tryd.prog 73 #[.slice A n c] w (OwnRet w xs) := by
  have HX := Lib.hid hx
  clear hx
  go_enter Tryd.func73, Tryd.ntmps73
  go_wp2_with fail
  go_loopw [3, 4] (fun v i wr => ∃ k : Nat, k ≤ n ∧ i = .int .i64 k ∧ OwnU wr w.heap.size v (xs.take k) ∧ Below w.heap.size w wr) (fun _ i _ => n - (intOf i).toNat)
  case atStart => exact ⟨0, by omega, rfl, by simpa using Own.nil _ _ _, Below.refl _ _⟩
  case round =>
    obtain ⟨k, hk, rfl, hown, hbel⟩ := hrel
    have hlen := HX.out.1
    have HO := Lib.hid hown
    have HB := Lib.hid hbel
    clear hown hbel
    by_cases hlt : k < n
    · obtain ⟨ad, rfl, hb, hcell⟩ := HX.out.at_ hlt
      have hc := cell_later hb HB.out hcell
      have hlt8 : xs.getD k 0 < 256 := HX.out.lt hlt
      have HT := Lib.hid (take_succ_getD (show k < xs.length by omega))
      have hl2 : (xs.take k).length + 1 ≤ 140737488355328 := by rw [List.length_take]; omega
      have hlt' : (k : Int) < n := by omega
      clear hcell hlen
      generalize xs.getD k 0 = b at *
      go_wp2_with (at_builtin; refine append1 und_bytes info_byte wr rfl (.tmp 11) (.tmp 16) rfl w.heap.size _ (xs.take k) HO.out b hlt8 rfl rfl hl2 HB.out.size ?_; intro v' w1 hown1 hgrow1)
      have hb1 := HB.out.grown hgrow1 HB.out.size HO.out.ge
      go_roundw
      case rel => exact ⟨k + 1, by omega, by go_num, by rw [HT.out]; exact hown1, hb1⟩
      case measure => simp [intOf]; omega
    · have HT : Hid (xs.take k = xs) := by
        show xs.take k = xs
        exact List.take_of_length_le (by omega)
      have hnlt : ¬ (k : Int) < n := by omega
      clear hlen
      go_wp2_with fail
      go_ret
      exact ⟨_, rfl, by rw [← HT.out]; exact HO.out, HB.out⟩
/-- A list of entries that a call has made; the values lie where they lay. -/
def EntsRet (L : List Chg) (w : World) (e : Ending) (w' : World) : Prop := ∃ v Z Ad Cp, e = .returned v ∧ EntsOwn w' w.heap.size v L.length Z Ad Cp ∧ lst Z L.length = L ∧ Below w.heap.size w w'
theorem nearL_next (X : Nat → Chg) (k : Nat) (ks : List Nat) (h : Nat) : nearL (lst X (k + 1)) ks h = nearL (lst X k) ks h ++ if comF (X k).key ks = 255 - h then [X k] else [] := by
  have e1 : [X k].filter (fun x => decide (comF x.key ks = 255 - h)) = if comF (X k).key ks = 255 - h then [X k] else [] := by
    by_cases e : comF (X k).key ks = 255 - h
    · rw [if_pos e, List.filter_cons, if_pos (decide_eq_true e)]; rfl
    · rw [if_neg e, List.filter_cons, if_neg (by simpa using e)]; rfl
  unfold nearL
  rw [lst_succ, List.filter_append, e1]
theorem nearL_len (X : Nat → Chg) (k : Nat) (ks : List Nat) (h : Nat) : (nearL (lst X k) ks h).length ≤ k := by
  have := List.length_filter_le (fun x : Chg => decide (comF x.key ks = 255 - h)) (lst X k)
  rw [lst_length] at this
  exact this
theorem refcommon_f (ds es : List Nat) (w : World) (hB : IsB ds) (hl : ds.length = 32) (hB2 : IsB es) (hl2 : es.length = 32) :
    Calls Tryd.prog 85 #[.agg (bvs ds).toArray, .agg (bvs es).toArray] w fun e w' => e = .returned (.int .i64 (comF ds es : Nat)) ∧ Below w.heap.size w w' :=
  refcommon_any ds es (comF ds es) w hB hl hB2 hl2 (comF_le ds es) ((comF_ge (comF_le ds es)).1 (Nat.le_refl _)) fun h => ((comF_at h).1 rfl).2
set_option maxRecDepth 20000 in
set_option maxHeartbeats 2000000 in
theorem neighbours_any (A : Option Addr) (N c : Nat) (X : Nat → Chg) (ks : List Nat) (h : Nat) (w : World) (hx : EntsAt w A N X) (hN : N ≤ 1048576) (hk : IsB ks) (hkl : ks.length = 32) (hh : h < 256) :
    Calls Tryd.prog 74 #[.slice A N c, .agg (bvs ks).toArray, .int .i64 h] w (EntsRet (nearL (lst X N) ks h) w) := by
  have HX := Lib.hid hx
  have HK := Lib.hid (And.intro hkl hk)
  have HN := Lib.hid hN
  have hNi : (N : Int) ≤ 1048576 := by omega
  clear hx hk hkl hN
  go_enter Tryd.func74, Tryd.ntmps74
  go_wp2_with fail
  refine start1 (G := fun w2 => Code.wp _ _ _ _ w2) fun w2 H1 HW HS => ?_
  have HK2 : Hid (BlkB w2 w.heap.size 31 ks) := H1
  clear H1
  go_loopw [7, 8, 9] (fun v i _ wr => ∃ k : Nat, k ≤ N ∧ i = .int .i64 k ∧ (∃ m Z Ad Cp, m ≤ k ∧ Hid (EntsOwn wr w2.heap.size v m Z Ad Cp) ∧ Hid (lst Z m = nearL (lst X k) ks h)) ∧ Hid (Below w2.heap.size w2 wr)) (fun _ i _ _ => N - (intOf i).toNat)
  case atStart => exact ⟨0, by omega, rfl, ⟨0, fun _ => default, fun _ => none, fun _ => 0, Nat.le_refl _, EntsOwn.nil _ _ _ _ _, rfl⟩, Below.refl _ _⟩
  case round =>
    obtain ⟨k, hk, rfl, ⟨m, Z, Ad, Cp, hmk, HO, HZ⟩, HB⟩ := hrel
    by_cases hlt : k < N
    · have hlt' : (k : Int) < N := by omega
      obtain ⟨b, o, Av, Cv, rfl, hb, hr, hkB, hkl, hvr, hvC, hCm, hnil⟩ := HX.out.2 k hlt
      have HR : Hid (∀ W, Below w.heap.size w W → W.rangeAt b (o + k * 33) (enC (X k) Av Cv)) := fun W hW => range_below hW hb hr
      have HKX := Lib.hid (And.intro hkB hkl)
      have HBw : Hid (Below w.heap.size w wr) := HW.out.trans (HB.out.mono HW.out.size)
      have HV := Lib.hid (show RB w Av (X k).val.length (X k).val ∧ (X k).val.length ≤ Cv ∧ Cv ≤ maxLen ∧ (Av = none → Cv = 0) from ⟨hvr, hvC, hCm, hnil⟩)
      have HAP : Hid (∀ u : Value, (∀ B, u.ownBlock = some B → w.heap.size ≤ B) → 0 < (X k).val.length → ∀ ad, Av = some ad → some ad.block ≠ u.ownBlock) := fun u hu h0 ad e he => by
        obtain ⟨ad', e', q1, _⟩ := hvr.2.2 h0
        rw [e] at e'
        injection e' with e'
        rw [← e'] at q1
        have q2 := hu _ he.symm
        omega
      have HNX : Hid (nearL (lst X (k + 1)) ks h = nearL (lst X k) ks h ++ if comF (X k).key ks = 255 - h then [X k] else []) := nearL_next X k ks h
      have huk := und_key
      have hszk : (Tryd.prog.info? 31).map (·.size) = some (bvs (X k).key).length := by rw [size_key]; simp [bvs, hkl]
      have hszk2 : (Tryd.prog.info? 31).map (·.size) = some (bvs ks).length := by rw [size_key]; simp [bvs, HK.out.1]
      clear hr hkB hkl hvr hvC hCm hnil hb
      generalize X k = x at *
      go_upto_region 5 with fail
      have HSS : Hid (∀ W, Below wr.heap.size wr W → W.rangeAt b (o + k * 33) (bvs x.key) ∧ W.rangeAt w.heap.size 0 (bvs ks)) := fun W hb => ⟨en_key (HR.out W (HBw.out.trans (hb.mono HBw.out.size))), BlkIs.range (BlkIs.below (BlkIs.below HK2.out HB.out) hb)⟩
      refine wp_region_held_drew (S := fun w' => w'.rangeAt b (o + k * 33) (bvs x.key) ∧ w'.rangeAt w.heap.size 0 (bvs ks)) (by kernel_rfl) (HSS.out _ (drewN_below (Below.refl _ _) 1)) fun hH => ?_
      have HB0 : Hid (Below wr.heap.size wr wr.drew) := drewN_below (Below.refl _ _) 1
      generalize wr.drew = w4 at *
      refine wpAnyH_take (i := 0) (oi := ⟨some 16, _, _, _, _, _⟩) rfl (by kernel_rfl) (by kernel_rfl) (by kernel_rfl) (fun _ _ _ h => h) (Or.inl ⟨by rfl, fun w hw => by ((try dsimp only at hw); go_split_ands; go_simp; with_reducible rfl)⟩) (by assumption) ?_
      try simp only [Act.put, List.setIfInBounds_toArray, List.set_cons_zero, List.set_cons_succ]
      refine wpAnyH_take (i := 1) (oi := ⟨some 17, _, _, _, _, _⟩) rfl (by kernel_rfl) (by kernel_rfl) (by kernel_rfl) (fun _ _ _ h => h) (Or.inl ⟨by rfl, fun w hw => by ((try dsimp only at hw); go_split_ands; go_simp; with_reducible rfl)⟩) (by assumption) ?_
      try simp only [Act.put, List.setIfInBounds_toArray, List.set_cons_zero, List.set_cons_succ]
      refine wpAnyH_take (i := 2) (oi := ⟨some 18, _, _, _, _, _⟩) rfl (by kernel_rfl) (by kernel_rfl) (by kernel_rfl) (fun _ _ _ h => h) (Or.inl ⟨by rfl, fun w hw => by ((try dsimp only at hw); go_split_ands; go_simp; with_reducible rfl)⟩) (by assumption) ?_
      try simp only [Act.put, List.setIfInBounds_toArray, List.set_cons_zero, List.set_cons_succ]
      refine wpAnyH_take (i := 3) (oi := ⟨some 19, _, _, _, _, _⟩) rfl (by kernel_rfl) (by kernel_rfl) (by kernel_rfl) (fun _ _ _ h => h) (Or.inl ⟨by rfl, fun w hw => by ((try dsimp only at hw); go_split_ands; go_simp; with_reducible rfl)⟩) (by assumption) ?_
      try simp only [Act.put, List.setIfInBounds_toArray, List.set_cons_zero, List.set_cons_succ]
      refine wpAnyH_take (i := 4) (oi := ⟨some 20, _, _, _, _, _⟩) rfl (by kernel_rfl) (by kernel_rfl) (by kernel_rfl) (fun _ _ _ h => h) (yieldsIf_load_mid (by rfl) _ _ rfl _ _ rfl _ _ (fun w hw => by (try dsimp only at hw); go_split_ands; assumption) (by assumption) rfl (by assumption)) (by assumption) ?_
      try simp only [Act.put, List.setIfInBounds_toArray, List.set_cons_zero, List.set_cons_succ]
      refine wpAnyH_take (i := 5) (oi := ⟨some 21, _, _, _, _, _⟩) rfl (by kernel_rfl) (by kernel_rfl) (by kernel_rfl) (fun _ _ _ h => h) (yieldsIf_load_mid (by rfl) _ _ rfl _ _ rfl _ _ (fun w hw => by (try dsimp only at hw); go_split_ands; assumption) (by assumption) rfl (by assumption)) (by assumption) ?_
      try simp only [Act.put, List.setIfInBounds_toArray, List.set_cons_zero, List.set_cons_succ]
      clear hH huk hszk hszk2
      refine wpAnyH_ready (rs := [6]) (by kernel_rfl) (by simp) ?_
      refine AllReadyH.cons rfl (fun K hK => ?_) (AllReadyH.nil)
      go_simp
      go_at_call 85
      refine (refcommon_f x.key ks w4 HKX.out.1 HKX.out.2 HK.out.2 HK.out.1).mono ?_
      rintro e w5 ⟨rfl, hb5⟩
      have HB5 : Hid (Below wr.heap.size wr w5) := HB0.out.trans (hb5.mono HB0.out.size)
      refine hK.out _ _ (HSS.out _ HB5.out) (fun hH => ?_)
      clear hK hb5
      refine wpAnyH_take (i := 7) (oi := ⟨some 9, _, _, _, _, _⟩) rfl (by kernel_rfl) (by kernel_rfl) (by kernel_rfl) (fun _ _ _ h => h) (Or.inl ⟨by rfl, fun w hw => by ((try dsimp only at hw); go_split_ands; go_simp; with_reducible rfl)⟩) (by assumption) ?_
      try simp only [Act.put, List.setIfInBounds_toArray, List.set_cons_zero, List.set_cons_succ]
      refine wpAnyH_done (by kernel_rfl) ?_ _
      have HO5 := Lib.hid (HO.out.later HB5.out)
      have HB25 : Hid (Below w2.heap.size w2 w5) := HB.out.trans (HB5.out.mono HB.out.size)
      have HBw5 : Hid (Below w.heap.size w w5) := HBw.out.trans (HB5.out.mono HBw.out.size)
      have HWS : Hid (w.heap.size ≤ w2.heap.size) := HW.out.size
      clear hH HO HB HBw HSS HB0 HB5
      obtain ⟨z, hz⟩ : ∃ z, comF x.key ks = z := ⟨_, rfl⟩
      rw [hz] at HNX ⊢
      clear hz
      by_cases hzh : z = 255 - h
      · have HNX2 : Hid (nearL (lst X (k + 1)) ks h = nearL (lst X k) ks h ++ [x]) := by show _ = _; rw [HNX.out, if_pos hzh]
        have hzi : (z : Int) = 255 - (h : Int) := by omega
        have hV5 : RB w5 Av x.val.length x.val ∧ x.val.length ≤ Cv ∧ Cv ≤ maxLen ∧ (Av = none → Cv = 0) := ⟨HV.out.1.below HBw5.out, HV.out.2⟩
        have HV5 := Lib.hid hV5
        have HAP5 := Lib.hid (HAP.out u7 fun B hB => Nat.le_trans HWS.out (HO5.out.ge B hB))
        clear hzh HNX hV5
        go_wp2_with (first
          | ((with_reducible refine stopAt (o := ⟨some 31, _, _, _, _, _⟩) ?_); refine loadRange (o := ⟨some 31, _, _, _, _, _⟩) (by rfl) 72 (.tmp 30) rfl b (o + k * 33) (enC x Av Cv) rfl (HR.out _ HBw5.out) row_ent (by rw [size_ent, enC_length HKX.out.2]) ?_)
          | ((with_reducible refine stopAt (o := ⟨some 32, _, _, _, _, _⟩) ?_); refine buildSlice1 (o := ⟨some 32, _, _, _, _, _⟩) rfl w5 36 72 _ 33 (.tmp 31) rfl und_enl info_ent (by decide) (by decide) (enC x Av Cv).toArray rfl (by rw [List.size_toArray, enC_length HKX.out.2]) ?_)
          | ((with_reducible refine stopAt (o := ⟨some 33, _, _, _, _, _⟩) ?_); refine append1E (o := ⟨some 33, _, _, _, _, _⟩) und_enl info_ent3 rfl w5 rfl (.tmp 27) (.tmp 32) rfl w2.heap.size u7 m _ HO5.out.own (enC x Av Cv) (enC_length HKX.out.2) enC_one rfl rfl (by have := HN.out; omega) (by have := HN.out; omega) HB25.out.size ?_; intro v6 w6 ho6 hg6 hl6; have HO6 := Lib.hid (HO5.out.more HKX.out HV5.out HAP5.out ho6 hg6 hl6); have HB6 : Hid (Below w2.heap.size w2 w6) := HB25.out.grown hg6 HB25.out.size HO5.out.ge; clear ho6 hg6 hl6))
        have HZ6 : Hid (lst (upd Z m x) (m + 1) = nearL (lst X (k + 1)) ks h) := by show _ = _; rw [HNX2.out, lst_upd, HZ.out]
        go_roundw
        case rel => exact ⟨k + 1, by omega, by go_num, ⟨m + 1, _, _, _, by omega, HO6.out, HZ6.out⟩, HB6.out⟩
        case measure => simp [intOf]; omega
      · have HNX2 : Hid (lst Z m = nearL (lst X (k + 1)) ks h) := by show _ = _; rw [HNX.out, if_neg hzh, List.append_nil]; exact HZ.out
        have hzi : ¬ (z : Int) = 255 - (h : Int) := by omega
        clear hzh HNX
        go_wp2_with fail
        go_roundw
        case rel => exact ⟨k + 1, by omega, by go_num, ⟨m, Z, Ad, Cp, by omega, HO5.out, HNX2.out⟩, HB25.out⟩
        case measure => simp [intOf]; omega
    · have hnlt : ¬ (k : Int) < N := by omega
      obtain rfl : k = N := by omega
      go_wp2_with fail
      go_ret
      have hm : m = (nearL (lst X k) ks h).length := by rw [← HZ.out, lst_length]
      exact ⟨_, Z, Ad, Cp, rfl, by rw [← hm]; exact HO.out.mono HW.out.size, by rw [← hm]; exact HZ.out, HW.out.trans (HB.out.mono HW.out.size)⟩
end Go.Proofs.YtfnlhfaihoojfaaDoor

/- ledgerref12.digest. -/
namespace Go.Proofs.YtfnlhfaihoojfaaDoor
open Go.RowKit
/-- A list of entries that the call has made; the values lie below lim. -/
structure EntsLow (w : World) (lim base : Nat) (v : Value) (n : Nat) (X : Nat → Chg) (Ad : Nat → Option Addr) (Cp : Nat → Nat) : Prop where
  own : EntsOwn w base v n X Ad Cp
  low : ∀ i, i < n → 0 < (X i).val.length → ∀ ad, Ad i = some ad → ad.block < lim
def ApartV (l r : Value) : Prop := ∀ k, l.ownBlock = some k → r.ownBlock ≠ some k
theorem ApartV.symm {l r : Value} (h : ApartV l r) : ApartV r l := fun k hk e => h k e hk
section
variable {w w' : World} {lim base : Nat} {v v' l l' r : Value} {n m : Nat} {X Y : Nat → Chg} {Ad Bd : Nat → Option Addr} {Cp Cq : Nat → Nat}
theorem EntsLow.nil (w : World) (lim base : Nat) (X : Nat → Chg) (Ad : Nat → Option Addr) (Cp : Nat → Nat) : EntsLow w lim base (.slice none 0 0) 0 X Ad Cp := ⟨EntsOwn.nil _ _ _ _ _, fun i hi => by omega⟩
theorem EntsLow.later (h : EntsLow w lim base v n X Ad Cp) (hb : Below w.heap.size w w') : EntsLow w' lim base v n X Ad Cp := ⟨h.own.later hb, h.low⟩
theorem EntsLow.two (hL : EntsLow w lim base l n X Ad Cp) (hR : EntsLow w lim base r m Y Bd Cq) (hap : ApartV l r) (hlb : lim ≤ base) {x : Chg} {A : Option Addr} {C : Nat} (hk : IsB x.key ∧ x.key.length = 32)
    (hv : RB w A x.val.length x.val ∧ x.val.length ≤ C ∧ C ≤ maxLen ∧ (A = none → C = 0)) (ha : 0 < x.val.length → ∀ ad, A = some ad → ad.block < lim)
    (ho : w'.ownsRow base 72 33 l' (n + 1) (flatZ X Ad Cp n ++ enC x A C)) (hg : w.grownBy w' l.ownBlock) (hl : Lies w l l') :
    EntsLow w' lim base l' (n + 1) (upd X n x) (upd Ad n A) (upd Cp n C) ∧ EntsLow w' lim base r m Y Bd Cq ∧ ApartV l' r := by
  have hge := hL.own.ge
  have hne : ∀ ad : Addr, ad.block < lim → some ad.block ≠ l.ownBlock := fun ad hlt e => by
    have := hge _ e.symm
    omega
  refine ⟨⟨hL.own.more hk hv (fun h0 ad e => hne ad (ha h0 ad e)) ho hg hl, fun i hi => ?_⟩, ⟨hR.own.kept hg ?_ (fun i hi h0 ad e => hne ad (hR.low i hi h0 ad e)), hR.low⟩, fun k hk2 e => ?_⟩
  · by_cases e : i = n
    · subst e; rw [upd_same, upd_same]; exact ha
    · rw [upd_other _ _ e, upd_other _ _ e]; exact hL.low i (by omega)
  · cases hr : r.ownBlock with
    | none => exact .inl rfl
    | some k => exact .inr fun e => hap k e.symm hr
  · rcases hl _ hk2 with h1 | h1
    · exact hap k h1 e
    · have := (hR.own.own.lt k e).2
      omega
end
theorem side_next (X : Nat → Chg) (k h b : Nat) : sideL (lst X (k + 1)) h b = sideL (lst X k) h b ++ if bitK (X k).key (255 - h) = b then [X k] else [] := by
  have e1 : [X k].filter (fun x => decide (bitK x.key (255 - h) = b)) = if bitK (X k).key (255 - h) = b then [X k] else [] := by
    by_cases e : bitK (X k).key (255 - h) = b
    · rw [if_pos e, List.filter_cons, if_pos (decide_eq_true e)]; rfl
    · rw [if_neg e, List.filter_cons, if_neg (by simpa using e)]; rfl
  unfold sideL
  rw [lst_succ, List.filter_append, e1]
/-- What the walk of digest asks of a part of a map. -/
structure QPart (w : World) (A : Option Addr) (N : Nat) (X : Nat → Chg) (n : Nat) : Prop where
  ents : EntsAt w A N X
  few : (N : Int) ≤ 1048576
  val : ∀ k, k < N → (X k).val.length ≤ 128
  nodup : (keysOf (lst X N)).Nodup
  share : Share (lst X N) n
theorem QPart.below {w w' : World} {A : Option Addr} {N n : Nat} {X : Nat → Chg} (h : QPart w A N X n) (hb : Below w.heap.size w w') : QPart w' A N X n := { h with ents := h.ents.below hb }
theorem QPart.two {w : World} {A : Option Addr} {N h : Nat} {X : Nat → Chg} (hp : QPart w A N X (256 - h)) (hN : 2 ≤ N) : 0 < h := by
  rcases Nat.eq_zero_or_pos h with h0 | h0
  · exfalso
    have h1 := share_nodup hp.ents.good hp.nodup (by have := hp.share; rwa [h0] at this)
    rw [lst_length] at h1
    omega
  · exact h0
theorem QPart.side {w w' : World} {A B : Option Addr} {N h b M : Nat} {X Z : Nat → Chg} (hp : QPart w A N X (255 - h)) (hh : h < 256) (hx : EntsAt w' B M Z) (hz : lst Z M = sideL (lst X N) h b) : QPart w' B M Z (256 - h) := by
  have hlen : M ≤ N := by
    have h1 := List.length_filter_le (fun x : Chg => decide (bitK x.key (255 - h) = b)) (lst X N)
    have h2 : (lst Z M).length = (sideL (lst X N) h b).length := by rw [hz]
    rw [lst_length] at h1 h2
    unfold sideL at h2
    omega
  refine ⟨hx, by have := hp.few; omega, fun k hk => ?_, by rw [hz]; exact side_nodup hp.nodup _ _, by rw [hz]; exact share_side hh hp.share _⟩
  have h1 : Z k ∈ sideL (lst X N) h b := by rw [← hz]; exact mem_at hk
  obtain ⟨i, hi, e⟩ := mem_lst.1 (List.mem_filter.1 h1).1
  rw [← e]
  exact hp.val i hi
set_option maxRecDepth 20000 in
set_option maxHeartbeats 2000000 in
theorem ndigest_any (wd : Int) (g c : Nat) (h : Nat) : ∀ (A : Option Addr) (N cap : Nat) (X : Nat → Chg) (w : World), h ≤ 256 → EsAt w g wd → QPart w A N X (256 - h) → Tabs1 w →
    Calls Tryd.prog 75 #[.slice (some ⟨g, 0, none⟩) 257 c, .int .i64 wd, .slice A N cap, .int .i64 h] w fun e w' => e = .returned (.agg (bvs (subD wd h (lst X N))).toArray) ∧ Below w.heap.size w w' := by
  induction h using Nat.strongRecOn with
  | ind h ih =>
  intro A N cap X w hh hE hP hT
  have HE := Lib.hid hE
  have HP := Lib.hid hP
  have HT := Lib.hid hT
  have HI := Lib.hid ih
  have hNi : (N : Int) ≤ 1048576 := hP.few
  have hh257 : (h : Int) < 257 := by omega
  obtain ⟨R, HRE⟩ : ∃ R, Hid (subD wd h (lst X N) = R) := ⟨_, rfl⟩
  have HRF : Hid (R.length = 32 ∧ IsB R) := by rw [← HRE.out]; exact ⟨(subD_facts wd h _).1, (subD_facts wd h _).2.1⟩
  rw [HRE.out]
  clear hE hP hT ih
  go_enter Tryd.func75, Tryd.ntmps75
  go_wp2_with (with_reducible refine stopAt (o := ⟨some 17, _, _, _, _, _⟩) ?_)
  refine start1 (G := fun w2 => Hid (wpList _ _ _ _ _ w2)) fun w2 H1 HW HS => ?_
  have HZ2 : Hid (BlkB w2 w.heap.size 29 (zs 32)) := H1
  clear H1
  refine Lib.hid ?_
  by_cases h0 : N = 0
  · subst h0
    have HRB := Lib.hid (range_rb ((HE.out.below HW.out).2 h (by omega)) (emptyD_isB wd h) (emptyD_length wd h) (HE.out.below HW.out).1)
    have HSD : Hid (emptyD wd h = R) := (subD_nil wd h).symm.trans HRE.out
    rw [HSD.out] at HRB
    go_wp2_with (first
      | ((with_reducible refine stopAt (o := ⟨some 22, _, _, _, _, _⟩) ?_); refine wpList_load_arr (o := ⟨some 22, _, _, _, _, _⟩) (by rfl) 29 (.tmp 21) rfl ⟨g, h * 32, none⟩ 32 R rfl HRB.out (by omega) (by kernel_rfl) (by kernel_rfl) ?_)
      | (refine wpList_store_part (o := ⟨none, _, _, _, _, _⟩) (by rfl) 29 (.tmp 8) (.tmp 22) rfl 0 [] (bvs (zs 32)) (bvs R) [] rfl rfl (blk_in HZ2.out) rfl (by simp [bvs, zs, HRF.out.1]) (by rw [size_dig]; simp [bvs, HRF.out.1]) (fun u hu => bvs_oneCell _ u hu) ?_; intro w9 h9 g9))
    exact arr_ret rfl rfl (blk_out h9) HRF.out.1 row_dig size_dig rfl ⟨rfl, HW.out.grown g9 HW.out.size fun k hk => by injection hk with hk; omega⟩
  by_cases h1 : N = 1
  · subst h1
    obtain ⟨b, o, Av, Cv, rfl, hb, hr, hkB, hkl, hvr, hvC, hCm, hnil⟩ := HP.out.ents.2 0 (by omega)
    have hvl := HP.out.val 0 (by omega)
    rw [show lst X 1 = [X 0] from rfl, subD_one] at HRE
    rw [Nat.zero_mul, Nat.add_zero] at hr
    have HKX := Lib.hid (And.intro hkl hkB)
    have HVX := Lib.hid hvr
    have HVL := Lib.hid hvl
    have HR := Lib.hid hr
    have HBL := Lib.hid hb
    clear HP hb hr hkB hkl hvr hvC hCm hnil hvl h0
    generalize X 0 = x at *
    have HSS : Hid (∀ W, Below w.heap.size w W → W.rangeAt b o (bvs x.key) ∧ W.cell? ⟨b, o + 32, none⟩ = some (.slice Av x.val.length Cv)) := fun W hb => ⟨en_key (range_below hb HBL.out HR.out), en_val (range_below hb HBL.out HR.out) HKX.out.1⟩
    have huk := und_key
    have hszk : (Tryd.prog.info? 31).map (·.size) = some (bvs x.key).length := by rw [size_key]; simp [bvs, HKX.out.1]
    go_upto_region 4 with fail
    go_cut [9] from 13 (fun s9 wx => ∃ B : Nat, s9 = .pointer (some ⟨B, 0, none⟩) ∧ Hid (Below w.heap.size w wx) ∧ Hid (BlkB wx B 29 (nodeD wd (leafT x.key x.val))) ∧ Hid (BlkB wx w.heap.size 29 (zs 32)) ∧ Hid (w.heap.size < B))
    case first =>
      refine wp_region_held_drew (S := fun w' => w'.rangeAt b o (bvs x.key) ∧ w'.cell? ⟨b, o + 32, none⟩ = some (.slice Av x.val.length Cv)) (by kernel_rfl) (HSS.out _ (drewN_below HW.out 1)) fun hH => ?_
      have HB0 : Hid (Below w.heap.size w w2.drew) := drewN_below HW.out 1
      have HZ0 : Hid (BlkB w2.drew w.heap.size 29 (zs 32)) := HZ2
      generalize w2.drew = w0 at *
      refine wpAnyH_take (i := 0) (oi := ⟨some 26, _, _, _, _, _⟩) rfl (by kernel_rfl) (by kernel_rfl) (by kernel_rfl) (fun _ _ _ h => h) (Or.inl ⟨by rfl, fun w hw => by ((try dsimp only at hw); go_split_ands; go_simp; with_reducible rfl)⟩) (by assumption) ?_
      try simp only [Act.put, List.setIfInBounds_toArray, List.set_cons_zero, List.set_cons_succ]
      refine wpAnyH_take (i := 1) (oi := ⟨some 27, _, _, _, _, _⟩) rfl (by kernel_rfl) (by kernel_rfl) (by kernel_rfl) (fun _ _ _ h => h) (Or.inl ⟨by rfl, fun w hw => by ((try dsimp only at hw); go_split_ands; go_simp; with_reducible rfl)⟩) (by assumption) ?_
      try simp only [Act.put, List.setIfInBounds_toArray, List.set_cons_zero, List.set_cons_succ]
      refine wpAnyH_take (i := 2) (oi := ⟨some 28, _, _, _, _, _⟩) rfl (by kernel_rfl) (by kernel_rfl) (by kernel_rfl) (fun _ _ _ h => h) (Or.inl ⟨by rfl, fun w hw => by ((try dsimp only at hw); go_split_ands; go_simp; with_reducible rfl)⟩) (by assumption) ?_
      try simp only [Act.put, List.setIfInBounds_toArray, List.set_cons_zero, List.set_cons_succ]
      refine wpAnyH_take (i := 3) (oi := ⟨some 29, _, _, _, _, _⟩) rfl (by kernel_rfl) (by kernel_rfl) (by kernel_rfl) (fun _ _ _ h => h) (Or.inl ⟨by rfl, fun w hw => by ((try dsimp only at hw); go_split_ands; go_simp; with_reducible rfl)⟩) (by assumption) ?_
      try simp only [Act.put, List.setIfInBounds_toArray, List.set_cons_zero, List.set_cons_succ]
      refine wpAnyH_take (i := 4) (oi := ⟨some 30, _, _, _, _, _⟩) rfl (by kernel_rfl) (by kernel_rfl) (by kernel_rfl) (fun _ _ _ h => h) (yieldsIf_load_mid (by rfl) _ _ rfl _ _ rfl _ _ (fun w hw => by (try dsimp only at hw); go_split_ands; assumption) (by assumption) rfl (by assumption)) (by assumption) ?_
      try simp only [Act.put, List.setIfInBounds_toArray, List.set_cons_zero, List.set_cons_succ]
      refine wpAnyH_take (i := 5) (oi := ⟨some 31, _, _, _, _, _⟩) rfl (by kernel_rfl) (by kernel_rfl) (by kernel_rfl) (fun _ _ _ h => h) (Or.inl ⟨by rfl, fun w hw => by ((try dsimp only at hw); go_split_ands; go_simp; with_reducible rfl)⟩) (by assumption) ?_
      try simp only [Act.put, List.setIfInBounds_toArray, List.set_cons_zero, List.set_cons_succ]
      refine wpAnyH_take (i := 6) (oi := ⟨some 32, _, _, _, _, _⟩) rfl (by kernel_rfl) (by kernel_rfl) (by kernel_rfl) (fun _ _ _ h => h) (Or.inl ⟨by rfl, fun w hw => by ((try dsimp only at hw); go_split_ands; go_simp; with_reducible rfl)⟩) (by assumption) ?_
      try simp only [Act.put, List.setIfInBounds_toArray, List.set_cons_zero, List.set_cons_succ]
      refine wpAnyH_take (i := 7) (oi := ⟨some 33, _, _, _, _, _⟩) rfl (by kernel_rfl) (by kernel_rfl) (by kernel_rfl) (fun _ _ _ h => h) (Or.inl ⟨by rfl, fun w hw => by ((try dsimp only at hw); go_split_ands; go_simp; with_reducible rfl)⟩) (by assumption) ?_
      try simp only [Act.put, List.setIfInBounds_toArray, List.set_cons_zero, List.set_cons_succ]
      refine wpAnyH_take (i := 8) (oi := ⟨some 34, _, _, _, _, _⟩) rfl (by kernel_rfl) (by kernel_rfl) (by kernel_rfl) (fun _ _ _ h => h) (Or.inl ⟨by rfl, fun w hw => by ((try dsimp only at hw); go_split_ands; go_simp; with_reducible rfl)⟩) (by assumption) ?_
      try simp only [Act.put, List.setIfInBounds_toArray, List.set_cons_zero, List.set_cons_succ]
      refine wpAnyH_ready (rs := [9, 10]) (by kernel_rfl) (by simp) ?_
      refine AllReadyH.cons rfl (fun K hK => ?_) (AllReadyH.cons rfl (fun K hK => ?_) AllReadyH.nil)
      · go_simp
        go_at_call 48
        refine (rleaf_any wd x.key Av x.val.length Cv x.val w0 HKX.out.2 HKX.out.1 (HVX.out.below HB0.out) (by have := HVL.out; omega) ⟨HT.out.1.below HB0.out, HT.out.2.below HB0.out⟩).mono ?_
        rintro e y1 ⟨rfl, hb1⟩
        have HB_1 : Hid (Below w.heap.size w y1) := HB0.out.trans (hb1.mono HB0.out.size)
        have HZ_1 : Hid (BlkB y1 w.heap.size 29 (zs 32)) := BlkIs.below HZ0.out hb1
        refine hK.out _ _ (HSS.out _ HB_1.out) (fun hH => ?_)
        clear hK hb1
        refine wpAnyH_ready (rs := [10]) (by kernel_rfl) (by simp) ?_
        refine AllReadyH.cons rfl (fun K hK => ?_) AllReadyH.nil
        refine wpOp_alloc (o := ⟨some 9, _, _, _, _, _⟩) (by rfl) 29 rfl _ _ info_dig ?_
        intro y2 hz2 hb2 hs2
        have hb2 := hb2.out
        have HB_2 : Hid (Below w.heap.size w y2) := HB_1.out.trans (hb2.mono HB_1.out.size)
        have HZ_2 : Hid (BlkB y2 w.heap.size 29 (zs 32)) := BlkIs.below HZ_1.out hb2
        have HD_2 : Hid (BlkB y2 y1.heap.size 29 (zs 32)) := hz2.out
        have HG_2 : Hid (w.heap.size < y1.heap.size) := HZ_1.out.lt
        refine hK.out _ _ (HSS.out _ HB_2.out) (fun hH => ?_)
        clear hK hb2
        refine wpAnyH_ready (rs := [11]) (by kernel_rfl) (by simp) ?_
        refine AllReadyH.cons (o := ⟨none, _, _, _, _, _⟩) rfl (fun K hK => ?_) AllReadyH.nil
        refine wpOp_store_part (o := ⟨none, _, _, _, _, _⟩) (by rfl) 29 (.tmp 9) (.tmp 35) rfl 0 [] (bvs (zs 32)) (bvs (nodeD wd (leafT x.key x.val))) [] rfl rfl (blk_in HD_2.out) rfl (by simp [bvs, zs, nodeD_length]) (by rw [size_dig]; simp [bvs, nodeD_length]) (fun u hu => bvs_oneCell _ u hu) ?_
        intro z1 hz1 gz1
        have HBz : Hid (Below w.heap.size w z1) := HB_2.out.grown gz1 HB_2.out.size fun k hk => by injection hk with hk; have := HG_2.out; omega
        have HZz : Hid (BlkB z1 w.heap.size 29 (zs 32)) := (Touch.one gz1).blk HZ_2.out (by have := HG_2.out; omega)
        refine hK.out _ _ (HSS.out _ HBz.out) (fun hH => ?_)
        clear hK
        refine wpAnyH_done (by kernel_rfl) ?_ _
        go_wp2_with fail
        go_meet
        case rel => exact ⟨y1.heap.size, rfl, HBz.out, blk_out hz1, HZz.out, HG_2.out⟩
      · refine wpOp_alloc (o := ⟨some 9, _, _, _, _, _⟩) (by rfl) 29 rfl _ _ info_dig ?_
        intro y3 hz3 hb3 hs3
        have hb3 := hb3.out
        have HB_3 : Hid (Below w.heap.size w y3) := HB0.out.trans (hb3.mono HB0.out.size)
        have HZ_3 : Hid (BlkB y3 w.heap.size 29 (zs 32)) := BlkIs.below HZ0.out hb3
        have HD_3 : Hid (BlkB y3 w0.heap.size 29 (zs 32)) := hz3.out
        have HG_3 : Hid (w.heap.size < w0.heap.size) := HZ0.out.lt
        refine hK.out _ _ (HSS.out _ HB_3.out) (fun hH => ?_)
        clear hK hb3
        refine wpAnyH_ready (rs := [9]) (by kernel_rfl) (by simp) ?_
        refine AllReadyH.cons rfl (fun K hK => ?_) AllReadyH.nil
        go_simp
        go_at_call 48
        refine (rleaf_any wd x.key Av x.val.length Cv x.val y3 HKX.out.2 HKX.out.1 (HVX.out.below HB_3.out) (by have := HVL.out; omega) ⟨HT.out.1.below HB_3.out, HT.out.2.below HB_3.out⟩).mono ?_
        rintro e y4 ⟨rfl, hb4⟩
        have HB_4 : Hid (Below w.heap.size w y4) := HB_3.out.trans (hb4.mono HB_3.out.size)
        have HZ_4 : Hid (BlkB y4 w.heap.size 29 (zs 32)) := BlkIs.below HZ_3.out hb4
        have HD_4 : Hid (BlkB y4 w0.heap.size 29 (zs 32)) := BlkIs.below HD_3.out hb4
        have HG_4 : Hid (w.heap.size < w0.heap.size) := HG_3.out
        refine hK.out _ _ (HSS.out _ HB_4.out) (fun hH => ?_)
        clear hK hb4
        refine wpAnyH_ready (rs := [11]) (by kernel_rfl) (by simp) ?_
        refine AllReadyH.cons (o := ⟨none, _, _, _, _, _⟩) rfl (fun K hK => ?_) AllReadyH.nil
        refine wpOp_store_part (o := ⟨none, _, _, _, _, _⟩) (by rfl) 29 (.tmp 9) (.tmp 35) rfl 0 [] (bvs (zs 32)) (bvs (nodeD wd (leafT x.key x.val))) [] rfl rfl (blk_in HD_4.out) rfl (by simp [bvs, zs, nodeD_length]) (by rw [size_dig]; simp [bvs, nodeD_length]) (fun u hu => bvs_oneCell _ u hu) ?_
        intro z1 hz1 gz1
        have HBz : Hid (Below w.heap.size w z1) := HB_4.out.grown gz1 HB_4.out.size fun k hk => by injection hk with hk; have := HG_4.out; omega
        have HZz : Hid (BlkB z1 w.heap.size 29 (zs 32)) := (Touch.one gz1).blk HZ_4.out (by have := HG_4.out; omega)
        refine hK.out _ _ (HSS.out _ HBz.out) (fun hH => ?_)
        clear hK
        refine wpAnyH_done (by kernel_rfl) ?_ _
        go_wp2_with fail
        go_meet
        case rel => exact ⟨w0.heap.size, rfl, HBz.out, blk_out hz1, HZz.out, HG_4.out⟩
    case rest =>
      obtain ⟨B, rfl, HB3, HD3, HZ3, HG3⟩ := hcut
      obtain ⟨w3, rfl⟩ : ∃ x, x = wc := ⟨_, rfl⟩
      have HCL := Lib.hid (fun W hb => rclimb_any g c wd x.key (nodeD wd (leafT x.key x.val)) h W (HE.out.below hb) hh HKX.out.2 HKX.out.1 (nodeD_isB _ _) (nodeD_length _ _) (nodeD_tidy _ _) ⟨HT.out.1.below hb, HT.out.2.below hb⟩)
      have HDL := Lib.hid (And.intro (nodeD_length wd (leafT x.key x.val)) (nodeD_isB wd (leafT x.key x.val)))
      rw [HRE.out] at HCL
      generalize nodeD wd (leafT x.key x.val) = D at *
      have hud := und_dig
      have hszd : (Tryd.prog.info? 29).map (·.size) = some (bvs D).length := by rw [size_dig]; simp [bvs, HDL.out.1]
      go_upto_region 5 with fail
      have HS3 : Hid (∀ W, Below w3.heap.size w3 W → W.rangeAt b o (bvs x.key) ∧ W.rangeAt B 0 (bvs D)) := fun W hb => ⟨(HSS.out W (HB3.out.trans (hb.mono HB3.out.size))).1, BlkIs.range (BlkIs.below HD3.out hb)⟩
      refine wp_region_held_drew (S := fun w' => w'.rangeAt b o (bvs x.key) ∧ w'.rangeAt B 0 (bvs D)) (by kernel_rfl) (HS3.out _ (drewN_below (Below.refl _ _) 1)) fun hH => ?_
      have HB0 : Hid (Below w3.heap.size w3 w3.drew) := drewN_below (Below.refl _ _) 1
      generalize w3.drew = w4 at *
      refine wpAnyH_take (i := 0) (oi := ⟨some 36, _, _, _, _, _⟩) rfl (by kernel_rfl) (by kernel_rfl) (by kernel_rfl) (fun _ _ _ h => h) (Or.inl ⟨by rfl, fun w hw => by ((try dsimp only at hw); go_split_ands; go_simp; with_reducible rfl)⟩) (by assumption) ?_
      try simp only [Act.put, List.setIfInBounds_toArray, List.set_cons_zero, List.set_cons_succ]
      refine wpAnyH_take (i := 1) (oi := ⟨some 37, _, _, _, _, _⟩) rfl (by kernel_rfl) (by kernel_rfl) (by kernel_rfl) (fun _ _ _ h => h) (Or.inl ⟨by rfl, fun w hw => by ((try dsimp only at hw); go_split_ands; go_simp; with_reducible rfl)⟩) (by assumption) ?_
      try simp only [Act.put, List.setIfInBounds_toArray, List.set_cons_zero, List.set_cons_succ]
      refine wpAnyH_take (i := 2) (oi := ⟨some 38, _, _, _, _, _⟩) rfl (by kernel_rfl) (by kernel_rfl) (by kernel_rfl) (fun _ _ _ h => h) (Or.inl ⟨by rfl, fun w hw => by ((try dsimp only at hw); go_split_ands; go_simp; with_reducible rfl)⟩) (by assumption) ?_
      try simp only [Act.put, List.setIfInBounds_toArray, List.set_cons_zero, List.set_cons_succ]
      refine wpAnyH_take (i := 3) (oi := ⟨some 39, _, _, _, _, _⟩) rfl (by kernel_rfl) (by kernel_rfl) (by kernel_rfl) (fun _ _ _ h => h) (Or.inl ⟨by rfl, fun w hw => by ((try dsimp only at hw); go_split_ands; go_simp; with_reducible rfl)⟩) (by assumption) ?_
      try simp only [Act.put, List.setIfInBounds_toArray, List.set_cons_zero, List.set_cons_succ]
      refine wpAnyH_take (i := 4) (oi := ⟨some 40, _, _, _, _, _⟩) rfl (by kernel_rfl) (by kernel_rfl) (by kernel_rfl) (fun _ _ _ h => h) (Or.inl ⟨by rfl, fun w hw => by ((try dsimp only at hw); go_split_ands; go_simp; with_reducible rfl)⟩) (by assumption) ?_
      try simp only [Act.put, List.setIfInBounds_toArray, List.set_cons_zero, List.set_cons_succ]
      refine wpAnyH_take (i := 5) (oi := ⟨some 41, _, _, _, _, _⟩) rfl (by kernel_rfl) (by kernel_rfl) (by kernel_rfl) (fun _ _ _ h => h) (yieldsIf_load_mid (by rfl) _ _ rfl _ _ rfl _ _ (fun w hw => by (try dsimp only at hw); go_split_ands; assumption) (by assumption) rfl (by assumption)) (by assumption) ?_
      try simp only [Act.put, List.setIfInBounds_toArray, List.set_cons_zero, List.set_cons_succ]
      refine wpAnyH_take (i := 6) (oi := ⟨some 42, _, _, _, _, _⟩) rfl (by kernel_rfl) (by kernel_rfl) (by kernel_rfl) (fun _ _ _ h => h) (yieldsIf_load_mid (by rfl) _ _ rfl _ _ rfl _ _ (fun w hw => by (try dsimp only at hw); go_split_ands; assumption) (by assumption) rfl (by assumption)) (by assumption) ?_
      try simp only [Act.put, List.setIfInBounds_toArray, List.set_cons_zero, List.set_cons_succ]
      refine wpAnyH_take (i := 7) (oi := ⟨some 43, _, _, _, _, _⟩) rfl (by kernel_rfl) (by kernel_rfl) (by kernel_rfl) (fun _ _ _ h => h) (Or.inl ⟨by rfl, fun w hw => by ((try dsimp only at hw); go_split_ands; go_simp; with_reducible rfl)⟩) (by assumption) ?_
      try simp only [Act.put, List.setIfInBounds_toArray, List.set_cons_zero, List.set_cons_succ]
      clear hH huk hszk hud hszd
      refine wpAnyH_ready (rs := [8]) (by kernel_rfl) (by simp) ?_
      refine AllReadyH.cons rfl (fun K hK => ?_) (AllReadyH.nil)
      go_simp
      go_at_call 49
      refine (HCL.out w4 (HB3.out.trans (HB0.out.mono HB3.out.size))).mono ?_
      rintro e w5 ⟨rfl, hb5⟩
      have HB5 : Hid (Below w3.heap.size w3 w5) := HB0.out.trans (hb5.mono HB0.out.size)
      refine hK.out _ _ (HS3.out _ HB5.out) (fun hH => ?_)
      clear hK hb5
      refine wpAnyH_ready (rs := [9]) (by kernel_rfl) (by simp) ?_
      refine AllReadyH.cons (o := ⟨none, _, _, _, _, _⟩) rfl (fun K hK => ?_) AllReadyH.nil
      refine wpOp_store_part (o := ⟨none, _, _, _, _, _⟩) (by rfl) 29 (.tmp 8) (.tmp 44) rfl 0 [] (bvs (zs 32)) (bvs R) [] rfl rfl (blk_in (BlkIs.below HZ3.out HB5.out)) rfl (by simp [bvs, zs, HRF.out.1]) (by rw [size_dig]; simp [bvs, HRF.out.1]) (fun u hu => bvs_oneCell _ u hu) ?_
      intro w6 h6 g6
      refine hK.out _ _ ⟨range_touch (Touch.one g6) (HS3.out _ HB5.out).1 (by have := HBL.out; have := HB3.out.size; have := HB5.out.size; omega) (by have := HBL.out; omega), BlkIs.range ((Touch.one g6).blk (BlkIs.below HD3.out HB5.out) (by have := HG3.out; omega))⟩ (fun hH => ?_)
      clear hK hH
      refine wpAnyH_done (by kernel_rfl) ?_ _
      go_wp2_with fail
      exact arr_ret rfl rfl (blk_out h6) HRF.out.1 row_dig size_dig rfl ⟨rfl, (HB3.out.trans (HB5.out.mono HB3.out.size)).grown g6 (Nat.le_trans HB3.out.size HB5.out.size) fun k hk => by injection hk with hk; omega⟩
  · have hN2 : 2 ≤ N := by omega
    have h00 : ¬ (N : Int) = 0 := by omega
    have h11 : ¬ (N : Int) = 1 := by omega
    have hp0 : 0 < h := HP.out.two hN2
    obtain ⟨m, hm⟩ : ∃ m, h = m + 1 := ⟨h - 1, by omega⟩
    have HP' := HP.out
    rw [show 256 - h = 255 - m by omega] at HP'
    have HM := Lib.hid (show m < 256 by omega)
    have HQ := Lib.hid HP'
    have HSB : Hid ((256 : Int) - (h : Int) = ((255 - m : Nat) : Int)) := by show _ = _; omega
    have HS1 : Hid ((h : Int) - 1 = (m : Int)) := by show _ = _; omega
    have HMH : Hid (m < h) := by show _ < _; omega
    rw [hm, subD_succ] at HRE
    have e0 : ((N : Int) == 0) = false := beq_eq_false_iff_ne.2 h00
    have e1 : ((N : Int) == 1) = false := beq_eq_false_iff_ne.2 h11
    clear HP HP' hm hp0 h0 h1 hN2
    go_wp2_with fail
    try rw [e0]
    try rw [e1]
    clear e0 e1
    go_loopw [10, 11, 12, 13] (fun l r i _ wr => ∃ k : Nat, k ≤ N ∧ i = .int .i64 k ∧ (∃ m1 Z1 Ad1 Cp1, m1 ≤ k ∧ Hid (EntsLow wr w.heap.size w2.heap.size l m1 Z1 Ad1 Cp1) ∧ Hid (lst Z1 m1 = sideL (lst X k) m 0)) ∧ (∃ m2 Z2 Ad2 Cp2, m2 ≤ k ∧ Hid (EntsLow wr w.heap.size w2.heap.size r m2 Z2 Ad2 Cp2) ∧ Hid (lst Z2 m2 = sideL (lst X k) m 1)) ∧ Hid (ApartV l r) ∧ Hid (Below w2.heap.size w2 wr)) (fun _ _ i _ _ => N - (intOf i).toNat)
    case atStart => exact ⟨0, by omega, rfl, ⟨0, fun _ => default, fun _ => none, fun _ => 0, Nat.le_refl _, EntsLow.nil _ _ _ _ _ _, rfl⟩, ⟨0, fun _ => default, fun _ => none, fun _ => 0, Nat.le_refl _, EntsLow.nil _ _ _ _ _ _, rfl⟩, (fun k hk => nomatch hk : ApartV (.slice none 0 0) (.slice none 0 0)), Below.refl _ _⟩
    case round =>
      obtain ⟨k, hk, rfl, ⟨m1, Z1, Ad1, Cp1, hm1, HO1, HZ1⟩, ⟨m2, Z2, Ad2, Cp2, hm2, HO2, HZ2'⟩, HAP, HB⟩ := hrel
      by_cases hlt : k < N
      · have hlt' : (k : Int) < N := by omega
        obtain ⟨b, o, Av, Cv, rfl, hb, hr, hkB, hkl, hvr, hvC, hCm, hnil⟩ := HQ.out.ents.2 k hlt
        have HR : Hid (∀ W, Below w.heap.size w W → W.rangeAt b (o + k * 33) (enC (X k) Av Cv)) := fun W hW => range_below hW hb hr
        have HKX := Lib.hid (And.intro hkB hkl)
        have HBw : Hid (Below w.heap.size w wr) := HW.out.trans (HB.out.mono HW.out.size)
        have HKR := Lib.hid (range_rb (en_key (HR.out _ HBw.out)) hkB hkl (Nat.lt_of_lt_of_le hb HBw.out.size))
        have HV := Lib.hid (show RB w Av (X k).val.length (X k).val ∧ (X k).val.length ≤ Cv ∧ Cv ≤ maxLen ∧ (Av = none → Cv = 0) from ⟨hvr, hvC, hCm, hnil⟩)
        have HAL : Hid (0 < (X k).val.length → ∀ ad, Av = some ad → ad.block < w.heap.size) := fun h0 ad e => by
          obtain ⟨ad', e', q1, _⟩ := hvr.2.2 h0
          rw [e] at e'
          injection e' with e'
          rw [e']
          exact q1
        have HN0 : Hid (sideL (lst X (k + 1)) m 0 = sideL (lst X k) m 0 ++ if bitK (X k).key (255 - m) = 0 then [X k] else []) := side_next X k m 0
        have HN1 : Hid (sideL (lst X (k + 1)) m 1 = sideL (lst X k) m 1 ++ if bitK (X k).key (255 - m) = 1 then [X k] else []) := side_next X k m 1
        clear hr hkB hkl hvr hvC hCm hnil hb
        generalize X k = x at *
        go_wp2_with (refine wpList_load_arrG (o := ⟨some 55, _, _, _, _, _⟩) (by rfl) 31 (.tmp 54) rfl ⟨b, o + k * 33, none⟩ 32 x.key rfl HKR.out (by omega) row_key size_key ?_)
        rw [HSB.out]
        refine (refbit_in x.key (255 - m) wr HKX.out.1 HKX.out.2 (by have := HM.out; omega)).mono ?_
        rintro e w5 ⟨rfl, hb5⟩
        have HO15 := Lib.hid (HO1.out.later hb5)
        have HO25 := Lib.hid (HO2.out.later hb5)
        have HB25 : Hid (Below w2.heap.size w2 w5) := HB.out.trans (hb5.mono HB.out.size)
        have HBw5 : Hid (Below w.heap.size w w5) := HW.out.trans (HB25.out.mono HW.out.size)
        have hV5 : RB w5 Av x.val.length x.val ∧ x.val.length ≤ Cv ∧ Cv ≤ maxLen ∧ (Av = none → Cv = 0) := ⟨HV.out.1.below HBw5.out, HV.out.2⟩
        have HV5 := Lib.hid hV5
        have hz2 := bitK_lt x.key (255 - m)
        clear hb5 HB HO1 HO2 HKR HBw hV5
        obtain ⟨z, hz⟩ : ∃ z, bitK x.key (255 - m) = z := ⟨_, rfl⟩
        rw [hz] at HN0 HN1 hz2 ⊢
        clear hz
        by_cases hz0 : z = 0
        · subst hz0
          have HN0' : Hid (sideL (lst X (k + 1)) m 0 = sideL (lst X k) m 0 ++ [x]) := by show _ = _; rw [HN0.out, if_pos rfl]
          have HN1' : Hid (lst Z2 m2 = sideL (lst X (k + 1)) m 1) := by show _ = _; rw [HN1.out, if_neg (by decide), List.append_nil]; exact HZ2'.out
          clear HN0 HN1 HZ2' hz2
          go_wp2_with (first
            | ((with_reducible refine stopAt (o := ⟨some 65, _, _, _, _, _⟩) ?_); refine loadRange (o := ⟨some 65, _, _, _, _, _⟩) (by rfl) 72 (.tmp 64) rfl b (o + k * 33) (enC x Av Cv) rfl (HR.out _ HBw5.out) row_ent (by rw [size_ent, enC_length HKX.out.2]) ?_)
            | ((with_reducible refine stopAt (o := ⟨some 66, _, _, _, _, _⟩) ?_); refine buildSlice1 (o := ⟨some 66, _, _, _, _, _⟩) rfl w5 36 72 _ 33 (.tmp 65) rfl und_enl info_ent (by decide) (by decide) (enC x Av Cv).toArray rfl (by rw [List.size_toArray, enC_length HKX.out.2]) ?_)
            | ((with_reducible refine stopAt (o := ⟨some 67, _, _, _, _, _⟩) ?_); refine append1E (o := ⟨some 67, _, _, _, _, _⟩) und_enl info_ent3 rfl w5 rfl (.tmp 61) (.tmp 66) rfl w2.heap.size _ m1 _ HO15.out.own.own (enC x Av Cv) (enC_length HKX.out.2) enC_one rfl rfl (by omega) (by omega) HB25.out.size ?_; intro v6 w6 ho6 hg6 hl6; have HT6 := Lib.hid (HO15.out.two HO25.out HAP.out HW.out.size HKX.out HV5.out HAL.out ho6 hg6 hl6); have HB6 : Hid (Below w2.heap.size w2 w6) := HB25.out.grown hg6 HB25.out.size HO15.out.own.ge; clear ho6 hg6 hl6))
          have HZ6 : Hid (lst (upd Z1 m1 x) (m1 + 1) = sideL (lst X (k + 1)) m 0) := by show _ = _; rw [HN0'.out, lst_upd, HZ1.out]
          go_roundw
          case rel => exact ⟨k + 1, by omega, by go_num, ⟨m1 + 1, _, _, _, by omega, HT6.out.1, HZ6.out⟩, ⟨m2, _, _, _, by omega, HT6.out.2.1, HN1'.out⟩, HT6.out.2.2, HB6.out⟩
          case measure => simp [intOf]; omega
        · have hz1 : ¬ (z : Int) = 0 := by omega
          have HN0' : Hid (lst Z1 m1 = sideL (lst X (k + 1)) m 0) := by show _ = _; rw [HN0.out, if_neg hz0, List.append_nil]; exact HZ1.out
          have HN1' : Hid (sideL (lst X (k + 1)) m 1 = sideL (lst X k) m 1 ++ [x]) := by show _ = _; rw [HN1.out, if_pos (by omega)]
          clear HN0 HN1 HZ1 hz2 hz0
          go_wp2_with (first
            | ((with_reducible refine stopAt (o := ⟨some 72, _, _, _, _, _⟩) ?_); refine loadRange (o := ⟨some 72, _, _, _, _, _⟩) (by rfl) 72 (.tmp 71) rfl b (o + k * 33) (enC x Av Cv) rfl (HR.out _ HBw5.out) row_ent (by rw [size_ent, enC_length HKX.out.2]) ?_)
            | ((with_reducible refine stopAt (o := ⟨some 73, _, _, _, _, _⟩) ?_); refine buildSlice1 (o := ⟨some 73, _, _, _, _, _⟩) rfl w5 36 72 _ 33 (.tmp 72) rfl und_enl info_ent (by decide) (by decide) (enC x Av Cv).toArray rfl (by rw [List.size_toArray, enC_length HKX.out.2]) ?_)
            | ((with_reducible refine stopAt (o := ⟨some 74, _, _, _, _, _⟩) ?_); refine append1E (o := ⟨some 74, _, _, _, _, _⟩) und_enl info_ent3 rfl w5 rfl (.tmp 68) (.tmp 73) rfl w2.heap.size _ m2 _ HO25.out.own.own (enC x Av Cv) (enC_length HKX.out.2) enC_one rfl rfl (by omega) (by omega) HB25.out.size ?_; intro v6 w6 ho6 hg6 hl6; have HT6 := Lib.hid (HO25.out.two HO15.out HAP.out.symm HW.out.size HKX.out HV5.out HAL.out ho6 hg6 hl6); have HB6 : Hid (Below w2.heap.size w2 w6) := HB25.out.grown hg6 HB25.out.size HO25.out.own.ge; clear ho6 hg6 hl6))
          have HZ6 : Hid (lst (upd Z2 m2 x) (m2 + 1) = sideL (lst X (k + 1)) m 1) := by show _ = _; rw [HN1'.out, lst_upd, HZ2'.out]
          go_roundw
          case rel => exact ⟨k + 1, by omega, by go_num, ⟨m1, _, _, _, by omega, HT6.out.2.1, HN0'.out⟩, ⟨m2 + 1, _, _, _, by omega, HT6.out.1, HZ6.out⟩, HT6.out.2.2.symm, HB6.out⟩
          case measure => simp [intOf]; omega
      · have hnlt : ¬ (k : Int) < N := by omega
        obtain rfl : k = N := by omega
        have HBw : Hid (Below w.heap.size w wr) := HW.out.trans (HB.out.mono HW.out.size)
        have HZr : Hid (BlkB wr w.heap.size 29 (zs 32)) := HZ2.out.below HB.out
        have HLT : Hid (w.heap.size < wr.heap.size) := HZr.out.lt
        obtain ⟨A1, C1, rfl, hx1, _⟩ := HO1.out.own.form
        obtain ⟨A2, C2, rfl, hx2, _⟩ := HO2.out.own.form
        have HP1 := Lib.hid (HQ.out.side HM.out hx1 HZ1.out)
        have HP2 := Lib.hid (HQ.out.side HM.out hx2 HZ2'.out)
        rw [← HZ1.out, ← HZ2'.out] at HRE
        clear hx1 hx2 HO1 HO2 HAP HZ1 HZ2' HB HZ2
        go_wp2_with fail
        rw [HS1.out]
        refine (HI.out m HMH.out A1 m1 C1 Z1 wr (by have := HM.out; omega) (HE.out.below HBw.out) HP1.out ⟨HT.out.1.below HBw.out, HT.out.2.below HBw.out⟩).mono ?_
        rintro e w4 ⟨rfl, hb4⟩
        have HF1 := Lib.hid (subD_facts wd m (lst Z1 m1))
        obtain ⟨D1, HD1⟩ : ∃ D, Hid (subD wd m (lst Z1 m1) = D) := ⟨_, rfl⟩
        rw [HD1.out] at HRE HF1 ⊢
        have HB4 : Hid (Below w.heap.size w w4) := HBw.out.trans (hb4.mono HBw.out.size)
        have HP24 := Lib.hid (HP2.out.below hb4)
        have HZ4 : Hid (BlkB w4 w.heap.size 29 (zs 32)) := BlkIs.below HZr.out hb4
        have HL4 : Hid (w.heap.size < w4.heap.size) := HZ4.out.lt
        clear hb4 HZr HP2 HLT
        go_wp2_with (first
          | ((with_reducible refine stopAt (o := ⟨some 14, _, _, _, _, _⟩) ?_); refine allocNew (o := ⟨some 14, _, _, _, _, _⟩) (by rfl) 29 rfl _ _ info_dig ?_; intro w5 HE5 HW5 HS5)
          | (refine wpList_store_part (o := ⟨none, _, _, _, _, _⟩) (by rfl) 29 (.tmp 14) (.tmp 80) rfl 0 [] (bvs (zs 32)) (bvs D1) [] rfl rfl (blk_in HE5.out) rfl (by simp [bvs, zs, HF1.out.1]) (by rw [size_dig]; simp [bvs, HF1.out.1]) (fun u hu => bvs_oneCell _ u hu) ?_; intro w6 h6 g6))
        have HB46 : Hid (Below w4.heap.size w4 w6) := HW5.out.grown g6 HW5.out.size fun k hk => by injection hk with hk; omega
        have HB6 : Hid (Below w.heap.size w w6) := HB4.out.trans (HB46.out.mono HB4.out.size)
        have HZ6 : Hid (BlkB w6 w.heap.size 29 (zs 32)) := HZ4.out.below HB46.out
        have HX6 : Hid (BlkB w6 w4.heap.size 29 D1) := blk_out h6
        have HP26 := Lib.hid (HP24.out.below HB46.out)
        clear h6 g6 HE5 HW5 HS5 HZ4 HP24
        rw [HS1.out]
        refine (HI.out m HMH.out A2 m2 C2 Z2 w6 (by have := HM.out; omega) (HE.out.below HB6.out) HP26.out ⟨HT.out.1.below HB6.out, HT.out.2.below HB6.out⟩).mono ?_
        rintro e w7 ⟨rfl, hb7⟩
        have HF2 := Lib.hid (subD_facts wd m (lst Z2 m2))
        obtain ⟨D2, HD2⟩ : ∃ D, Hid (subD wd m (lst Z2 m2) = D) := ⟨_, rfl⟩
        rw [HD2.out] at HRE HF2 ⊢
        have HB7 : Hid (Below w.heap.size w w7) := HB6.out.trans (hb7.mono HB6.out.size)
        have HZ7 : Hid (BlkB w7 w.heap.size 29 (zs 32)) := BlkIs.below HZ6.out hb7
        have HX7 : Hid (BlkB w7 w4.heap.size 29 D1) := BlkIs.below HX6.out hb7
        have HLT7 : Hid (w4.heap.size < w7.heap.size) := HX7.out.lt
        clear hb7 HZ6 HX6
        go_wp2_with (first
          | ((with_reducible refine stopAt (o := ⟨some 15, _, _, _, _, _⟩) ?_); refine allocNew (o := ⟨some 15, _, _, _, _, _⟩) (by rfl) 29 rfl _ _ info_dig ?_; intro w8 HE8 HW8 HS8)
          | (refine wpList_store_part (o := ⟨none, _, _, _, _, _⟩) (by rfl) 29 (.tmp 15) (.tmp 86) rfl 0 [] (bvs (zs 32)) (bvs D2) [] rfl rfl (blk_in HE8.out) rfl (by simp [bvs, zs, HF2.out.1]) (by rw [size_dig]; simp [bvs, HF2.out.1]) (fun u hu => bvs_oneCell _ u hu) ?_; intro w9 h9 g9; have HX9 : Hid (BlkB w9 w4.heap.size 29 D1) := (Touch.one g9).blk (BlkIs.below HX7.out HW8.out) (by have := HLT7.out; omega); have HY9 : Hid (BlkB w9 w7.heap.size 29 D2) := blk_out h9)
          | ((with_reducible refine stopAt (o := ⟨some 88, _, _, _, _, _⟩) ?_); refine wpList_load_arr (o := ⟨some 88, _, _, _, _, _⟩) (by rfl) 29 (.tmp 14) rfl ⟨w4.heap.size, 0, none⟩ 32 D1 rfl (HX9.out.whole HF1.out.2.1 HF1.out.1) (by omega) (by kernel_rfl) (by kernel_rfl) ?_)
          | ((with_reducible refine stopAt (o := ⟨some 89, _, _, _, _, _⟩) ?_); refine wpList_load_arr (o := ⟨some 89, _, _, _, _, _⟩) (by rfl) 29 (.tmp 15) rfl ⟨w7.heap.size, 0, none⟩ 32 D2 rfl (HY9.out.whole HF2.out.2.1 HF2.out.1) (by omega) (by kernel_rfl) (by kernel_rfl) ?_))
        have HB9 : Hid (Below w.heap.size w w9) := (HB7.out.trans (HW8.out.mono HB7.out.size)).grown g9 (Nat.le_trans HB7.out.size HW8.out.size) fun k hk => by injection hk with hk; have := HB7.out.size; omega
        have HZ9 : Hid (BlkB w9 w.heap.size 29 (zs 32)) := (Touch.one g9).blk (BlkIs.below HZ7.out HW8.out) (by have := HL4.out; have := HLT7.out; omega)
        clear h9 g9 HE8 HW8 HS8 HZ7
        refine (rbranch_any wd D1 D2 w9 HF1.out.2.1 HF1.out.1 HF2.out.2.1 HF2.out.1 ⟨HT.out.1.below HB9.out, HT.out.2.below HB9.out⟩).mono ?_
        rintro e w10 ⟨rfl, hb10⟩
        rw [HRE.out]
        have HZ10 : Hid (BlkB w10 w.heap.size 29 (zs 32)) := BlkIs.below HZ9.out hb10
        have HB10 : Hid (Below w.heap.size w w10) := HB9.out.trans (hb10.mono HB9.out.size)
        clear hb10
        go_wp2_with (refine wpList_store_part (o := ⟨none, _, _, _, _, _⟩) (by rfl) 29 (.tmp 8) (.tmp 90) rfl 0 [] (bvs (zs 32)) (bvs R) [] rfl rfl (blk_in HZ10.out) rfl (by simp [bvs, zs, HRF.out.1]) (by rw [size_dig]; simp [bvs, HRF.out.1]) (fun u hu => bvs_oneCell _ u hu) ?_; intro w11 h11 g11)
        exact arr_ret rfl rfl (blk_out h11) HRF.out.1 row_dig size_dig rfl ⟨rfl, HB10.out.grown g11 HB10.out.size fun k hk => by injection hk with hk; omega⟩
end Go.Proofs.YtfnlhfaihoojfaaDoor
