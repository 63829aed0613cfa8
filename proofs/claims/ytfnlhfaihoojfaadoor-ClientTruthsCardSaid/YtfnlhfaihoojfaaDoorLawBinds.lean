/- ledgerlaw13.ClientBinds: the walk. -/
import Derived.Test.YtfnlhfaihoojfaaDoorNone
import Derived.Test.YtfnlhfaihoojfaaDoorExtract
namespace Go.Proofs.YtfnlhfaihoojfaaDoor
open Go.RowKit
theorem own_facts {w : World} {base n c : Nat} {A : Option Addr} {xs : List Nat} (h : OwnU w base (.slice A n c) xs) : RB w A n xs ∧ (∀ ad, A = some ad → ad.block < w.heap.size) ∧ n ≤ c ∧ (A = none → c = 0) ∧ c ≤ maxLen := by
  obtain ⟨A', c', e, h1, h2, h3, h4⟩ := h.form
  injection e with e1 e2 e3
  subst e1 e2 e3
  refine ⟨h1, fun ad e => (h2 ad e).2, h4, h3, ?_⟩
  rcases h.1.2 with ⟨e, _⟩ | ⟨g, cap, cur, e, _, _, _, hc, _⟩
  · injection e with _ _ e
    rw [e]
    simp [maxLen]
  · injection e with _ _ e
    omega
/-- What Extract tells, as its caller reads it. -/
def ExtRes (wd : Int) (q1 q2 : Nat) (xs ys : List Nat) (w' : World) (X1 X2 : Value) (ok : Bool) : Prop :=
  (ok = false ∧ X1 = .slice none 0 0 ∧ X2 = .slice none 0 0 ∧ (q1 ≠ 0 ∨ q2 ≠ 0 ∨ xs = ys)) ∨
  (ok = true ∧ q1 = 0 ∧ q2 = 0 ∧ xs ≠ ys ∧ ∃ Xa xc T1 Xb xd T2, X1 = .slice Xa (List.length T1) xc ∧ X2 = .slice Xb (List.length T2) xd ∧ RB w' Xa T1.length T1 ∧ RB w' Xb T2.length T2 ∧ T1.length ≤ xc ∧ T2.length ≤ xd ∧ T1.length ≤ 200 ∧ T2.length ≤ 200 ∧ T1 ≠ T2 ∧ nodeD wd T1 = nodeD wd T2)
theorem textP_length {w : Int} {k : List Nat} {p : Pr} (hk : k.length = 32) (hp : p.Ok) (h : Nat) : (textP w k p h).length ≤ 200 := by
  cases h with
  | zero =>
    show (startT k p.found p.val).length ≤ 200
    unfold startT leafT
    have := hp.vl
    split
    · simp [hk]; omega
    · simp
  | succ h =>
    have := branchT_length w (sidesN k h (pathP w k p h) (nearP w p h)).1 (sidesN k h (pathP w k p h) (nearP w p h)).2
    show (upT w k h (pathP w k p h) (nearP w p h)).length ≤ 200
    unfold upT
    omega
theorem ext_res {wd : Int} {rs ks xs ys : List Nat} {w w' : World} {e : Ending} (hkl : ks.length = 32) (hx : IsB xs) (hy : IsB ys) (h : Extracted wd rs ks xs ys w e w') : Below w.heap.size w w' ∧ ∃ X1 X2 ok, e = .returned (.tuple #[X1, X2, .bool ok]) ∧ ExtRes wd (errP wd rs ks xs) (errP wd rs ks ys) xs ys w' X1 X2 ok := by
  obtain ⟨hb, h1, h2⟩ := h
  refine ⟨hb, ?_⟩
  by_cases hc : errP wd rs ks xs ≠ 0 ∨ errP wd rs ks ys ≠ 0 ∨ xs = ys
  · exact ⟨_, _, _, h1 hc, .inl ⟨rfl, rfl, rfl, hc⟩⟩
  · have a : errP wd rs ks xs = 0 := by omega
    have b : errP wd rs ks ys = 0 := by omega
    have c : xs ≠ ys := fun e => hc (.inr (.inr e))
    obtain ⟨V1, V2, h, p, q, rfl, hp, hq, hh, o1, o2, _, hne, hall⟩ := h2 a b c
    obtain ⟨_, _, p', hp', fp, rp⟩ := errP_ok a
    obtain ⟨_, _, q', hq', fq, rq⟩ := errP_ok b
    rw [hp] at hp'
    injection hp' with hp'
    subst hp'
    rw [hq] at hq'
    injection hq' with hq'
    subst hq'
    have op := (decN_some hx hp).1
    have oq := (decN_some hy hq).1
    have hm := texts_meet (w := wd) (k := ks) op oq fp fq (rp.trans rq.symm) hh hall
    rw [pathP_text, pathP_text] at hm
    obtain ⟨Xa, xc, rfl, r1, _, _, l1⟩ := o1.form
    obtain ⟨Xb, xd, rfl, r2, _, _, l2⟩ := o2.form
    exact ⟨_, _, _, rfl, .inr ⟨rfl, a, b, c, Xa, xc, _, Xb, xd, _, rfl, rfl, r1, r2, l1, l2, textP_length hkl op h, textP_length hkl oq h, hne, hm⟩⟩
set_option maxRecDepth 20000 in
set_option maxHeartbeats 4000000 in
theorem clientBinds_walk (wd : Int) (rs ks xs ys : List Nat) (A : Option Addr) (n k : Nat) (A2 : Option Addr) (n2 k2 : Nat) (w : World) (hr : rs.length = 32) (hrB : IsB rs) (hk : ks.length = 32) (hkB : IsB ks)
    (hx : RB w A n xs) (hlt : ∀ ad, A = some ad → ad.block < w.heap.size) (hnc : n ≤ k) (hA : A = none → k = 0) (hkm : k ≤ maxLen) (hn : n ≤ 140737488355328)
    (hx2 : RB w A2 n2 ys) (hlt2 : ∀ ad, A2 = some ad → ad.block < w.heap.size) (hnc2 : n2 ≤ k2) (hA2 : A2 = none → k2 = 0) (hkm2 : k2 ≤ maxLen) (hn2 : n2 ≤ 140737488355328) (ht : Tabs w) (ht1 : Tabs1 w) :
    Calls Tryd.prog 5 #[.int .i64 wd, .agg (bvs rs).toArray, .agg (bvs ks).toArray, .slice A n k, .slice A2 n2 k2] w fun e w' => e = .returned (.bool true) ∧ Below w.heap.size w w' := by
  have HRL := Lib.hid (And.intro hr hrB)
  have HKL := Lib.hid (And.intro hk hkB)
  have HTT : Hid (∀ W, Below w.heap.size w W → Tabs W ∧ Tabs1 W) := fun W hb => ⟨ht.below hb, ht1.1.below hb, ht1.2.below hb⟩
  obtain ⟨q0, HQ0⟩ : ∃ q : Nat, Hid ((if wd < 1 ∨ 32 < wd then 1 else 0) = q) := ⟨_, rfl⟩
  obtain ⟨q1, HQ1⟩ : ∃ q : Nat, Hid (errP wd rs ks xs = q) := ⟨_, rfl⟩
  obtain ⟨q2, HQ2⟩ : ∃ q : Nat, Hid (errP wd rs ks ys = q) := ⟨_, rfl⟩
  have HC1 : Hid (∀ W, Below w.heap.size w W → Calls Tryd.prog 16 #[.slice A n k] W fun e w' => ∃ Ac cc, e = .returned (.slice Ac xs.length cc) ∧ OwnU w' W.heap.size (.slice Ac xs.length cc) xs ∧ Below W.heap.size W w') := fun W hb =>
    (copied_any A n k xs W (hx.below hb) hA hn).mono fun e w' ⟨v, h1, h2, h3⟩ => by
      obtain ⟨Ac, cc, rfl, _⟩ := h2.form
      exact ⟨Ac, cc, h1, h2, h3⟩
  have HC2 : Hid (∀ W, Below w.heap.size w W → Calls Tryd.prog 16 #[.slice A2 n2 k2] W fun e w' => ∃ Ac cc, e = .returned (.slice Ac ys.length cc) ∧ OwnU w' W.heap.size (.slice Ac ys.length cc) ys ∧ Below W.heap.size W w') := fun W hb =>
    (copied_any A2 n2 k2 ys W (hx2.below hb) hA2 hn2).mono fun e w' ⟨v, h1, h2, h3⟩ => by
      obtain ⟨Ac, cc, rfl, _⟩ := h2.form
      exact ⟨Ac, cc, h1, h2, h3⟩
  have hxl := hx.1
  have hyl := hx2.1
  have HV1 : Hid (∀ W A c base, Below w.heap.size w W → OwnU W base (.slice A xs.length c) xs → Calls Tryd.prog 7 #[.int .i64 wd, .agg (bvs rs).toArray, .agg (bvs ks).toArray, .slice A xs.length c] W (Answers q1 xs W)) := fun W A c base hb ho => by
    obtain ⟨o1, o2, o3, o4, o5⟩ := own_facts ho
    exact verify_ans wd rs ks xs A xs.length c W hr hrB hk hkB o1 o2 o3 o4 o5 (by omega) (ht.below hb) q1 HQ1.out
  have HV2 : Hid (∀ W A c base, Below w.heap.size w W → OwnU W base (.slice A ys.length c) ys → Calls Tryd.prog 7 #[.int .i64 wd, .agg (bvs rs).toArray, .agg (bvs ks).toArray, .slice A ys.length c] W (Answers q2 ys W)) := fun W A c base hb ho => by
    obtain ⟨o1, o2, o3, o4, o5⟩ := own_facts ho
    exact verify_ans wd rs ks ys A ys.length c W hr hrB hk hkB o1 o2 o3 o4 o5 (by omega) (ht.below hb) q2 HQ2.out
  have HEX : Hid (∀ W A c base B d base2, Below w.heap.size w W → OwnU W base (.slice A xs.length c) xs → OwnU W base2 (.slice B ys.length d) ys → Calls Tryd.prog 15 #[.int .i64 wd, .agg (bvs rs).toArray, .agg (bvs ks).toArray, .slice A xs.length c, .slice B ys.length d] W fun e w' => Below W.heap.size W w' ∧ ∃ X1 X2 ok, e = .returned (.tuple #[X1, X2, .bool ok]) ∧ ExtRes wd q1 q2 xs ys w' X1 X2 ok) := fun W A c base B d base2 hb ho ho2 => by
    obtain ⟨o1, o2, o3, o4, o5⟩ := own_facts ho
    obtain ⟨p1, p2, p3, p4, p5⟩ := own_facts ho2
    refine (extract_any wd rs ks xs ys A xs.length c B ys.length d W hr hrB hk hkB o1 o2 o3 o4 o5 (by omega) p1 p2 p3 p4 p5 (by omega) (ht.below hb)).mono fun e w' h => ?_
    have := ext_res hk hx.2.1 hx2.2.1 h
    rwa [HQ1.out, HQ2.out] at this
  have HER : Hid (∀ W, Below w.heap.size w W → q1 ≠ 0 → Calls Tryd.prog 15 #[.int .i64 wd, .agg (bvs rs).toArray, .agg (bvs ks).toArray, .slice A n k, .slice A2 n2 k2] W fun e w' => e = .returned (.tuple #[.slice none 0 0, .slice none 0 0, .bool false]) ∧ Below W.heap.size W w') := fun W hb hq =>
    (extract_any wd rs ks xs ys A n k A2 n2 k2 W hr hrB hk hkB (hx.below hb) (fun ad e => Nat.lt_of_lt_of_le (hlt ad e) hb.size) hnc hA hkm hn (hx2.below hb) (fun ad e => Nat.lt_of_lt_of_le (hlt2 ad e) hb.size) hnc2 hA2 hkm2 hn2 (ht.below hb)).mono fun e w' h => ⟨h.2.1 (.inl (by rw [HQ1.out]; exact hq)), h.1⟩
  have HX1 := Lib.hid hx
  have HX2 := Lib.hid hx2
  have HQW : Hid (wd < 1 ∨ 32 < wd → q1 = 1) := fun h => by
    have h1 := HQ1.out
    unfold errP at h1
    rw [if_pos h] at h1
    exact h1.symm
  have HDG : Hid (∀ W A c (T : List Nat), Below w.heap.size w W → RB W A T.length T → T.length ≤ c → T.length ≤ 200 → Calls Tryd.prog 18 #[.slice A T.length c] W fun e w' => e = .returned (.agg (bvs (shaN T)).toArray) ∧ Below W.heap.size W w') := fun W A c T hb h1 h2 h3 => dsum_any A T.length c T W h1 h2 (by omega) (ht.below hb)
  clear hr hrB hk hkB hx hlt hnc hA hkm hn hx2 hlt2 hnc2 hA2 hkm2 hn2 ht ht1 hxl hyl
  obtain ⟨cs, HCS, hmk⟩ := make_bytes 33 (by omega)
  rw [show ((33 : Nat) : Int) = 33 from rfl] at hmk
  go_enter Tryd.func5, Tryd.ntmps5
  go_upto_region 1 with fail
  refine start2 (G := fun w2 => Code.wp _ _ _ _ w2) fun w2 H1 H2 HW HWS => ?_
  have HR2 : Hid (BlkB w2 w.heap.size 29 rs) := H1
  have HK2 : Hid (BlkB w2 (w.heap.size + 1) 31 ks) := H2
  clear H1 H2
  go_cut [11, 12] from 23 (fun s11 s12 wx => ∃ (B : Nat) (Av : Option Addr) (cv : Nat), s11 = .pointer (some ⟨B, 0, none⟩) ∧ s12 = .int .i64 (q0 : Nat) ∧ Hid (Below w.heap.size w wx) ∧ Hid (BlkB wx w.heap.size 29 rs) ∧ Hid (BlkB wx (w.heap.size + 1) 31 ks) ∧ Hid (BlkIs wx B 24 #[.bool false, .slice Av 0 cv]))
  case first =>
    have huk := und_key
    have hszk : (Tryd.prog.info? 31).map (·.size) = some (bvs ks).length := by rw [size_key]; simp [bvs, HKL.out.1]
    refine wp_region_held_drew (S := fun w' => w'.rangeAt (w.heap.size + 1) 0 (bvs ks)) (by kernel_rfl) (BlkIs.range (BlkIs.drew HK2.out)) fun hH => ?_
    have HB0 : Hid (Below w.heap.size w w2.drew) := drewN_below HW.out 1
    have HK0 : Hid (BlkB w2.drew (w.heap.size + 1) 31 ks) := HK2
    have HR0 : Hid (BlkB w2.drew w.heap.size 29 rs) := HR2
    generalize w2.drew = w0 at *
    refine wpAnyH_take (i := 0) (oi := ⟨some 24, _, _, _, _, _⟩) rfl (by kernel_rfl) (by kernel_rfl) (by kernel_rfl) (fun _ _ _ h => h) (Or.inl ⟨by rfl, fun w hw => by ((try dsimp only at hw); go_split_ands; go_simp; with_reducible rfl)⟩) (by assumption) ?_
    try simp only [Act.put, List.setIfInBounds_toArray, List.set_cons_zero, List.set_cons_succ]
    refine wpAnyH_take (i := 1) (oi := ⟨some 25, _, _, _, _, _⟩) rfl (by kernel_rfl) (by kernel_rfl) (by kernel_rfl) (fun _ _ _ h => h) (Or.inl ⟨by rfl, fun w hw => by ((try dsimp only at hw); go_split_ands; go_simp; with_reducible rfl)⟩) (by assumption) ?_
    try simp only [Act.put, List.setIfInBounds_toArray, List.set_cons_zero, List.set_cons_succ]
    refine wpAnyH_take (i := 3) (oi := ⟨some 27, _, _, _, _, _⟩) rfl (by kernel_rfl) (by kernel_rfl) (by kernel_rfl) (fun _ _ _ h => h) (yieldsIf_load_mid (by rfl) _ _ rfl _ _ rfl _ _ (fun w hw => by (try dsimp only at hw); go_split_ands; assumption) (by assumption) rfl (by assumption)) (by assumption) ?_
    try simp only [Act.put, List.setIfInBounds_toArray, List.set_cons_zero, List.set_cons_succ]
    refine wpAnyH_ready (rs := [2, 4, 9]) (by kernel_rfl) (by simp) ?_
    refine AllReadyH.cons rfl (fun K hK => ?_) (AllReadyH.cons rfl (fun K hK => ?_) (AllReadyH.cons rfl (fun K hK => ?_) AllReadyH.nil))
    · go_simp
      go_at_call 8
      refine (empty_at wd w0 (HTT.out w0 HB0.out).2).mono ?_
      rintro e y1 ⟨hb1, R, rfl, hR⟩
      have HR := Lib.hid hR
      clear hR
      have HB_1 : Hid (Below w.heap.size w y1) := HB0.out.trans (hb1.mono HB0.out.size)
      have HKk_1 : Hid (BlkB y1 (w.heap.size + 1) 31 ks) := BlkIs.below HK0.out hb1
      have HRr_1 : Hid (BlkB y1 w.heap.size 29 rs) := BlkIs.below HR0.out hb1
      refine hK.out _ _ (BlkIs.range HKk_1.out) (fun hH => ?_)
      clear hK hb1
      refine wpAnyH_ready (rs := [4, 9]) (by kernel_rfl) (by simp) ?_
      refine AllReadyH.cons rfl (fun K hK => ?_) (AllReadyH.cons rfl (fun K hK => ?_) AllReadyH.nil)
      · go_simp
        refine start1 (G := fun w' => K _ w') fun y2 hz2 hb2 hs2 => ?_
        have hb2 := hb2.out
        have HB_2 : Hid (Below w.heap.size w y2) := HB_1.out.trans (hb2.mono HB_1.out.size)
        have HKk_2 : Hid (BlkB y2 (w.heap.size + 1) 31 ks) := BlkIs.below HKk_1.out hb2
        have HRr_2 : Hid (BlkB y2 w.heap.size 29 rs) := BlkIs.below HRr_1.out hb2
        have HZ_2 : Hid (BlkB y2 y1.heap.size 5 (zs 33)) := by have h := hz2.out; rw [HCS.out] at h; exact h
        refine hK.out _ _ (BlkIs.range HKk_2.out) (fun hH => ?_)
        clear hK hb2
        refine wpAnyH_ready (rs := [5, 9]) (by kernel_rfl) (by simp) ?_
        refine AllReadyH.cons rfl (fun K hK => ?_) (AllReadyH.cons rfl (fun K hK => ?_) AllReadyH.nil)
        · go_simp
          go_at_call 7
          refine (verify_none wd ks R HR.out HKL.out.1 HKL.out.2 y1.heap.size y2 HZ_2.out (HTT.out y2 HB_2.out).1 q0 HQ0.out).mono ?_
          rintro e y3 ⟨hb3, Av, cv, rfl⟩
          have HB_3 : Hid (Below w.heap.size w y3) := HB_2.out.trans (hb3.mono HB_2.out.size)
          have HKk_3 : Hid (BlkB y3 (w.heap.size + 1) 31 ks) := BlkIs.below HKk_2.out hb3
          have HRr_3 : Hid (BlkB y3 w.heap.size 29 rs) := BlkIs.below HRr_2.out hb3
          have HZ_3 : Hid (BlkB y3 y1.heap.size 5 (zs 33)) := BlkIs.below HZ_2.out hb3
          refine hK.out _ _ (BlkIs.range HKk_3.out) (fun hH => ?_)
          clear hK hb3
          refine wpAnyH_take (i := 6) (oi := ⟨some 23, _, _, _, _, _⟩) rfl (by kernel_rfl) (by kernel_rfl) (by kernel_rfl) (fun _ _ _ h => h) (Or.inl ⟨by rfl, fun w hw => by ((try dsimp only at hw); go_split_ands; go_simp; with_reducible rfl)⟩) (by assumption) ?_
          try simp only [Act.put, List.setIfInBounds_toArray, List.set_cons_zero, List.set_cons_succ]
          refine wpAnyH_take (i := 7) (oi := ⟨some 30, _, _, _, _, _⟩) rfl (by kernel_rfl) (by kernel_rfl) (by kernel_rfl) (fun _ _ _ h => h) (Or.inl ⟨by rfl, fun w hw => by ((try dsimp only at hw); go_split_ands; go_simp; with_reducible rfl)⟩) (by assumption) ?_
          try simp only [Act.put, List.setIfInBounds_toArray, List.set_cons_zero, List.set_cons_succ]
          refine wpAnyH_take (i := 8) (oi := ⟨some 31, _, _, _, _, _⟩) rfl (by kernel_rfl) (by kernel_rfl) (by kernel_rfl) (fun _ _ _ h => h) (Or.inl ⟨by rfl, fun w hw => by ((try dsimp only at hw); go_split_ands; go_simp; with_reducible rfl)⟩) (by assumption) ?_
          try simp only [Act.put, List.setIfInBounds_toArray, List.set_cons_zero, List.set_cons_succ]
          refine wpAnyH_ready (rs := [9]) (by kernel_rfl) (by simp) ?_
          refine AllReadyH.cons rfl (fun K hK => ?_) AllReadyH.nil
          refine wpOp_alloc (o := ⟨some 11, _, _, _, _, _⟩) (by rfl) 24 rfl _ _ info_ans ?_
          intro y4 hz4 hb4 hs4
          have hb4 := hb4.out
          have HB_4 : Hid (Below w.heap.size w y4) := HB_3.out.trans (hb4.mono HB_3.out.size)
          have HKk_4 : Hid (BlkB y4 (w.heap.size + 1) 31 ks) := BlkIs.below HKk_3.out hb4
          have HRr_4 : Hid (BlkB y4 w.heap.size 29 rs) := BlkIs.below HRr_3.out hb4
          have HZ_4 : Hid (BlkB y4 y1.heap.size 5 (zs 33)) := BlkIs.below HZ_3.out hb4
          have HA_4 : Hid (BlkIs y4 y3.heap.size 24 (([] : List Value) ++ (([Value.bool false, Value.slice none 0 0] : List Value) ++ [])).toArray) := hz4
          have HG_4 : Hid (w.heap.size ≤ y3.heap.size) := HB_3.out.size
          have HGG_4 : Hid (w.heap.size + 1 < y3.heap.size) := HKk_3.out.lt
          refine hK.out _ _ (BlkIs.range HKk_4.out) (fun hH => ?_)
          clear hK hb4
          refine wpAnyH_ready (rs := [10]) (by kernel_rfl) (by simp) ?_
          refine AllReadyH.cons (o := ⟨none, _, _, _, _, _⟩) rfl (fun K hK => ?_) AllReadyH.nil
          refine wpOp_store_part (o := ⟨none, _, _, _, _, _⟩) (by rfl) 24 (.tmp 11) (.tmp 30) rfl 0 [] [.bool false, .slice none 0 0] [.bool false, .slice Av 0 cv] [] rfl rfl HA_4.out rfl rfl (by rw [size_ans]; rfl) (by intro u hu; simp at hu; rcases hu with rfl | rfl <;> rfl) ?_
          intro z1 hz1 gz1
          have HBz : Hid (Below w.heap.size w z1) := HB_4.out.grown gz1 HB_4.out.size fun k hk => by injection hk with hk; have := HG_4.out; omega
          have hne : y3.heap.size ≠ w.heap.size ∧ y3.heap.size ≠ w.heap.size + 1 := by have h1 := HG_4.out; have h2 := HKk_4.out.lt; have h3 := HRr_4.out.lt; have h4 := HWS.out; have h5 := HGG_4.out; omega
          have HKz : Hid (BlkB z1 (w.heap.size + 1) 31 ks) := (Touch.one gz1).blk HKk_4.out (Ne.symm hne.2)
          have HRz : Hid (BlkB z1 w.heap.size 29 rs) := (Touch.one gz1).blk HRr_4.out (Ne.symm hne.1)
          refine hK.out _ _ (BlkIs.range HKz.out) (fun hH => ?_)
          clear hK hne
          refine wpAnyH_take (i := 11) (oi := ⟨some 12, _, _, _, _, _⟩) rfl (by kernel_rfl) (by kernel_rfl) (by kernel_rfl) (fun _ _ _ h => h) (Or.inl ⟨by rfl, fun w hw => by ((try dsimp only at hw); go_split_ands; go_simp; with_reducible rfl)⟩) (by assumption) ?_
          try simp only [Act.put, List.setIfInBounds_toArray, List.set_cons_zero, List.set_cons_succ]
          refine wpAnyH_done (by kernel_rfl) ?_ _
          go_wp2_with fail
          go_meet
          case rel => exact ⟨y3.heap.size, Av, cv, rfl, rfl, HBz.out, HRz.out, HKz.out, hz1⟩
        · refine wpOp_alloc (o := ⟨some 11, _, _, _, _, _⟩) (by rfl) 24 rfl _ _ info_ans ?_
          intro y5 hz5 hb5 hs5
          have hb5 := hb5.out
          have HB_5 : Hid (Below w.heap.size w y5) := HB_2.out.trans (hb5.mono HB_2.out.size)
          have HKk_5 : Hid (BlkB y5 (w.heap.size + 1) 31 ks) := BlkIs.below HKk_2.out hb5
          have HRr_5 : Hid (BlkB y5 w.heap.size 29 rs) := BlkIs.below HRr_2.out hb5
          have HZ_5 : Hid (BlkB y5 y1.heap.size 5 (zs 33)) := BlkIs.below HZ_2.out hb5
          have HA_5 : Hid (BlkIs y5 y2.heap.size 24 (([] : List Value) ++ (([Value.bool false, Value.slice none 0 0] : List Value) ++ [])).toArray) := hz5
          have HG_5 : Hid (w.heap.size ≤ y2.heap.size) := HB_2.out.size
          have HGG_5 : Hid (w.heap.size + 1 < y2.heap.size) := HKk_2.out.lt
          refine hK.out _ _ (BlkIs.range HKk_5.out) (fun hH => ?_)
          clear hK hb5
          refine wpAnyH_ready (rs := [5]) (by kernel_rfl) (by simp) ?_
          refine AllReadyH.cons rfl (fun K hK => ?_) AllReadyH.nil
          go_simp
          go_at_call 7
          refine (verify_none wd ks R HR.out HKL.out.1 HKL.out.2 y1.heap.size y5 HZ_5.out (HTT.out y5 HB_5.out).1 q0 HQ0.out).mono ?_
          rintro e y6 ⟨hb6, Av, cv, rfl⟩
          have HB_6 : Hid (Below w.heap.size w y6) := HB_5.out.trans (hb6.mono HB_5.out.size)
          have HKk_6 : Hid (BlkB y6 (w.heap.size + 1) 31 ks) := BlkIs.below HKk_5.out hb6
          have HRr_6 : Hid (BlkB y6 w.heap.size 29 rs) := BlkIs.below HRr_5.out hb6
          have HZ_6 : Hid (BlkB y6 y1.heap.size 5 (zs 33)) := BlkIs.below HZ_5.out hb6
          have HA_6 : Hid (BlkIs y6 y2.heap.size 24 (([] : List Value) ++ (([Value.bool false, Value.slice none 0 0] : List Value) ++ [])).toArray) := BlkIs.below HA_5.out hb6
          have HG_6 : Hid (w.heap.size ≤ y2.heap.size) := HG_5.out
          have HGG_6 : Hid (w.heap.size + 1 < y2.heap.size) := HGG_5.out
          refine hK.out _ _ (BlkIs.range HKk_6.out) (fun hH => ?_)
          clear hK hb6
          refine wpAnyH_take (i := 6) (oi := ⟨some 23, _, _, _, _, _⟩) rfl (by kernel_rfl) (by kernel_rfl) (by kernel_rfl) (fun _ _ _ h => h) (Or.inl ⟨by rfl, fun w hw => by ((try dsimp only at hw); go_split_ands; go_simp; with_reducible rfl)⟩) (by assumption) ?_
          try simp only [Act.put, List.setIfInBounds_toArray, List.set_cons_zero, List.set_cons_succ]
          refine wpAnyH_take (i := 7) (oi := ⟨some 30, _, _, _, _, _⟩) rfl (by kernel_rfl) (by kernel_rfl) (by kernel_rfl) (fun _ _ _ h => h) (Or.inl ⟨by rfl, fun w hw => by ((try dsimp only at hw); go_split_ands; go_simp; with_reducible rfl)⟩) (by assumption) ?_
          try simp only [Act.put, List.setIfInBounds_toArray, List.set_cons_zero, List.set_cons_succ]
          refine wpAnyH_take (i := 8) (oi := ⟨some 31, _, _, _, _, _⟩) rfl (by kernel_rfl) (by kernel_rfl) (by kernel_rfl) (fun _ _ _ h => h) (Or.inl ⟨by rfl, fun w hw => by ((try dsimp only at hw); go_split_ands; go_simp; with_reducible rfl)⟩) (by assumption) ?_
          try simp only [Act.put, List.setIfInBounds_toArray, List.set_cons_zero, List.set_cons_succ]
          refine wpAnyH_ready (rs := [10]) (by kernel_rfl) (by simp) ?_
          refine AllReadyH.cons (o := ⟨none, _, _, _, _, _⟩) rfl (fun K hK => ?_) AllReadyH.nil
          refine wpOp_store_part (o := ⟨none, _, _, _, _, _⟩) (by rfl) 24 (.tmp 11) (.tmp 30) rfl 0 [] [.bool false, .slice none 0 0] [.bool false, .slice Av 0 cv] [] rfl rfl HA_6.out rfl rfl (by rw [size_ans]; rfl) (by intro u hu; simp at hu; rcases hu with rfl | rfl <;> rfl) ?_
          intro z1 hz1 gz1
          have HBz : Hid (Below w.heap.size w z1) := HB_6.out.grown gz1 HB_6.out.size fun k hk => by injection hk with hk; have := HG_6.out; omega
          have hne : y2.heap.size ≠ w.heap.size ∧ y2.heap.size ≠ w.heap.size + 1 := by have h1 := HG_6.out; have h2 := HKk_6.out.lt; have h3 := HRr_6.out.lt; have h4 := HWS.out; have h5 := HGG_6.out; omega
          have HKz : Hid (BlkB z1 (w.heap.size + 1) 31 ks) := (Touch.one gz1).blk HKk_6.out (Ne.symm hne.2)
          have HRz : Hid (BlkB z1 w.heap.size 29 rs) := (Touch.one gz1).blk HRr_6.out (Ne.symm hne.1)
          refine hK.out _ _ (BlkIs.range HKz.out) (fun hH => ?_)
          clear hK hne
          refine wpAnyH_take (i := 11) (oi := ⟨some 12, _, _, _, _, _⟩) rfl (by kernel_rfl) (by kernel_rfl) (by kernel_rfl) (fun _ _ _ h => h) (Or.inl ⟨by rfl, fun w hw => by ((try dsimp only at hw); go_split_ands; go_simp; with_reducible rfl)⟩) (by assumption) ?_
          try simp only [Act.put, List.setIfInBounds_toArray, List.set_cons_zero, List.set_cons_succ]
          refine wpAnyH_done (by kernel_rfl) ?_ _
          go_wp2_with fail
          go_meet
          case rel => exact ⟨y2.heap.size, Av, cv, rfl, rfl, HBz.out, HRz.out, HKz.out, hz1⟩
      · refine wpOp_alloc (o := ⟨some 11, _, _, _, _, _⟩) (by rfl) 24 rfl _ _ info_ans ?_
        intro y7 hz7 hb7 hs7
        have hb7 := hb7.out
        have HB_7 : Hid (Below w.heap.size w y7) := HB_1.out.trans (hb7.mono HB_1.out.size)
        have HKk_7 : Hid (BlkB y7 (w.heap.size + 1) 31 ks) := BlkIs.below HKk_1.out hb7
        have HRr_7 : Hid (BlkB y7 w.heap.size 29 rs) := BlkIs.below HRr_1.out hb7
        have HA_7 : Hid (BlkIs y7 y1.heap.size 24 (([] : List Value) ++ (([Value.bool false, Value.slice none 0 0] : List Value) ++ [])).toArray) := hz7
        have HG_7 : Hid (w.heap.size ≤ y1.heap.size) := HB_1.out.size
        have HGG_7 : Hid (w.heap.size + 1 < y1.heap.size) := HKk_1.out.lt
        refine hK.out _ _ (BlkIs.range HKk_7.out) (fun hH => ?_)
        clear hK hb7
        refine wpAnyH_ready (rs := [4]) (by kernel_rfl) (by simp) ?_
        refine AllReadyH.cons rfl (fun K hK => ?_) AllReadyH.nil
        go_simp
        refine start1 (G := fun w' => K _ w') fun y8 hz8 hb8 hs8 => ?_
        have hb8 := hb8.out
        have HB_8 : Hid (Below w.heap.size w y8) := HB_7.out.trans (hb8.mono HB_7.out.size)
        have HKk_8 : Hid (BlkB y8 (w.heap.size + 1) 31 ks) := BlkIs.below HKk_7.out hb8
        have HRr_8 : Hid (BlkB y8 w.heap.size 29 rs) := BlkIs.below HRr_7.out hb8
        have HA_8 : Hid (BlkIs y8 y1.heap.size 24 (([] : List Value) ++ (([Value.bool false, Value.slice none 0 0] : List Value) ++ [])).toArray) := BlkIs.below HA_7.out hb8
        have HG_8 : Hid (w.heap.size ≤ y1.heap.size) := HG_7.out
        have HGG_8 : Hid (w.heap.size + 1 < y1.heap.size) := HGG_7.out
        have HZ_8 : Hid (BlkB y8 y7.heap.size 5 (zs 33)) := by have h := hz8.out; rw [HCS.out] at h; exact h
        refine hK.out _ _ (BlkIs.range HKk_8.out) (fun hH => ?_)
        clear hK hb8
        refine wpAnyH_ready (rs := [5]) (by kernel_rfl) (by simp) ?_
        refine AllReadyH.cons rfl (fun K hK => ?_) AllReadyH.nil
        go_simp
        go_at_call 7
        refine (verify_none wd ks R HR.out HKL.out.1 HKL.out.2 y7.heap.size y8 HZ_8.out (HTT.out y8 HB_8.out).1 q0 HQ0.out).mono ?_
        rintro e y9 ⟨hb9, Av, cv, rfl⟩
        have HB_9 : Hid (Below w.heap.size w y9) := HB_8.out.trans (hb9.mono HB_8.out.size)
        have HKk_9 : Hid (BlkB y9 (w.heap.size + 1) 31 ks) := BlkIs.below HKk_8.out hb9
        have HRr_9 : Hid (BlkB y9 w.heap.size 29 rs) := BlkIs.below HRr_8.out hb9
        have HA_9 : Hid (BlkIs y9 y1.heap.size 24 (([] : List Value) ++ (([Value.bool false, Value.slice none 0 0] : List Value) ++ [])).toArray) := BlkIs.below HA_8.out hb9
        have HG_9 : Hid (w.heap.size ≤ y1.heap.size) := HG_8.out
        have HGG_9 : Hid (w.heap.size + 1 < y1.heap.size) := HGG_8.out
        have HZ_9 : Hid (BlkB y9 y7.heap.size 5 (zs 33)) := BlkIs.below HZ_8.out hb9
        refine hK.out _ _ (BlkIs.range HKk_9.out) (fun hH => ?_)
        clear hK hb9
        refine wpAnyH_take (i := 6) (oi := ⟨some 23, _, _, _, _, _⟩) rfl (by kernel_rfl) (by kernel_rfl) (by kernel_rfl) (fun _ _ _ h => h) (Or.inl ⟨by rfl, fun w hw => by ((try dsimp only at hw); go_split_ands; go_simp; with_reducible rfl)⟩) (by assumption) ?_
        try simp only [Act.put, List.setIfInBounds_toArray, List.set_cons_zero, List.set_cons_succ]
        refine wpAnyH_take (i := 7) (oi := ⟨some 30, _, _, _, _, _⟩) rfl (by kernel_rfl) (by kernel_rfl) (by kernel_rfl) (fun _ _ _ h => h) (Or.inl ⟨by rfl, fun w hw => by ((try dsimp only at hw); go_split_ands; go_simp; with_reducible rfl)⟩) (by assumption) ?_
        try simp only [Act.put, List.setIfInBounds_toArray, List.set_cons_zero, List.set_cons_succ]
        refine wpAnyH_take (i := 8) (oi := ⟨some 31, _, _, _, _, _⟩) rfl (by kernel_rfl) (by kernel_rfl) (by kernel_rfl) (fun _ _ _ h => h) (Or.inl ⟨by rfl, fun w hw => by ((try dsimp only at hw); go_split_ands; go_simp; with_reducible rfl)⟩) (by assumption) ?_
        try simp only [Act.put, List.setIfInBounds_toArray, List.set_cons_zero, List.set_cons_succ]
        refine wpAnyH_ready (rs := [10]) (by kernel_rfl) (by simp) ?_
        refine AllReadyH.cons (o := ⟨none, _, _, _, _, _⟩) rfl (fun K hK => ?_) AllReadyH.nil
        refine wpOp_store_part (o := ⟨none, _, _, _, _, _⟩) (by rfl) 24 (.tmp 11) (.tmp 30) rfl 0 [] [.bool false, .slice none 0 0] [.bool false, .slice Av 0 cv] [] rfl rfl HA_9.out rfl rfl (by rw [size_ans]; rfl) (by intro u hu; simp at hu; rcases hu with rfl | rfl <;> rfl) ?_
        intro z1 hz1 gz1
        have HBz : Hid (Below w.heap.size w z1) := HB_9.out.grown gz1 HB_9.out.size fun k hk => by injection hk with hk; have := HG_9.out; omega
        have hne : y1.heap.size ≠ w.heap.size ∧ y1.heap.size ≠ w.heap.size + 1 := by have h1 := HG_9.out; have h2 := HKk_9.out.lt; have h3 := HRr_9.out.lt; have h4 := HWS.out; have h5 := HGG_9.out; omega
        have HKz : Hid (BlkB z1 (w.heap.size + 1) 31 ks) := (Touch.one gz1).blk HKk_9.out (Ne.symm hne.2)
        have HRz : Hid (BlkB z1 w.heap.size 29 rs) := (Touch.one gz1).blk HRr_9.out (Ne.symm hne.1)
        refine hK.out _ _ (BlkIs.range HKz.out) (fun hH => ?_)
        clear hK hne
        refine wpAnyH_take (i := 11) (oi := ⟨some 12, _, _, _, _, _⟩) rfl (by kernel_rfl) (by kernel_rfl) (by kernel_rfl) (fun _ _ _ h => h) (Or.inl ⟨by rfl, fun w hw => by ((try dsimp only at hw); go_split_ands; go_simp; with_reducible rfl)⟩) (by assumption) ?_
        try simp only [Act.put, List.setIfInBounds_toArray, List.set_cons_zero, List.set_cons_succ]
        refine wpAnyH_done (by kernel_rfl) ?_ _
        go_wp2_with fail
        go_meet
        case rel => exact ⟨y1.heap.size, Av, cv, rfl, rfl, HBz.out, HRz.out, HKz.out, hz1⟩
    · go_simp
      refine start1 (G := fun w' => K _ w') fun y10 hz10 hb10 hs10 => ?_
      have hb10 := hb10.out
      have HB_10 : Hid (Below w.heap.size w y10) := HB0.out.trans (hb10.mono HB0.out.size)
      have HKk_10 : Hid (BlkB y10 (w.heap.size + 1) 31 ks) := BlkIs.below HK0.out hb10
      have HRr_10 : Hid (BlkB y10 w.heap.size 29 rs) := BlkIs.below HR0.out hb10
      have HZ_10 : Hid (BlkB y10 w0.heap.size 5 (zs 33)) := by have h := hz10.out; rw [HCS.out] at h; exact h
      refine hK.out _ _ (BlkIs.range HKk_10.out) (fun hH => ?_)
      clear hK hb10
      refine wpAnyH_ready (rs := [2, 9]) (by kernel_rfl) (by simp) ?_
      refine AllReadyH.cons rfl (fun K hK => ?_) (AllReadyH.cons rfl (fun K hK => ?_) AllReadyH.nil)
      · go_simp
        go_at_call 8
        refine (empty_at wd y10 (HTT.out y10 HB_10.out).2).mono ?_
        rintro e y11 ⟨hb11, R, rfl, hR⟩
        have HR := Lib.hid hR
        clear hR
        have HB_11 : Hid (Below w.heap.size w y11) := HB_10.out.trans (hb11.mono HB_10.out.size)
        have HKk_11 : Hid (BlkB y11 (w.heap.size + 1) 31 ks) := BlkIs.below HKk_10.out hb11
        have HRr_11 : Hid (BlkB y11 w.heap.size 29 rs) := BlkIs.below HRr_10.out hb11
        have HZ_11 : Hid (BlkB y11 w0.heap.size 5 (zs 33)) := BlkIs.below HZ_10.out hb11
        refine hK.out _ _ (BlkIs.range HKk_11.out) (fun hH => ?_)
        clear hK hb11
        refine wpAnyH_ready (rs := [5, 9]) (by kernel_rfl) (by simp) ?_
        refine AllReadyH.cons rfl (fun K hK => ?_) (AllReadyH.cons rfl (fun K hK => ?_) AllReadyH.nil)
        · go_simp
          go_at_call 7
          refine (verify_none wd ks R HR.out HKL.out.1 HKL.out.2 w0.heap.size y11 HZ_11.out (HTT.out y11 HB_11.out).1 q0 HQ0.out).mono ?_
          rintro e y12 ⟨hb12, Av, cv, rfl⟩
          have HB_12 : Hid (Below w.heap.size w y12) := HB_11.out.trans (hb12.mono HB_11.out.size)
          have HKk_12 : Hid (BlkB y12 (w.heap.size + 1) 31 ks) := BlkIs.below HKk_11.out hb12
          have HRr_12 : Hid (BlkB y12 w.heap.size 29 rs) := BlkIs.below HRr_11.out hb12
          have HZ_12 : Hid (BlkB y12 w0.heap.size 5 (zs 33)) := BlkIs.below HZ_11.out hb12
          refine hK.out _ _ (BlkIs.range HKk_12.out) (fun hH => ?_)
          clear hK hb12
          refine wpAnyH_take (i := 6) (oi := ⟨some 23, _, _, _, _, _⟩) rfl (by kernel_rfl) (by kernel_rfl) (by kernel_rfl) (fun _ _ _ h => h) (Or.inl ⟨by rfl, fun w hw => by ((try dsimp only at hw); go_split_ands; go_simp; with_reducible rfl)⟩) (by assumption) ?_
          try simp only [Act.put, List.setIfInBounds_toArray, List.set_cons_zero, List.set_cons_succ]
          refine wpAnyH_take (i := 7) (oi := ⟨some 30, _, _, _, _, _⟩) rfl (by kernel_rfl) (by kernel_rfl) (by kernel_rfl) (fun _ _ _ h => h) (Or.inl ⟨by rfl, fun w hw => by ((try dsimp only at hw); go_split_ands; go_simp; with_reducible rfl)⟩) (by assumption) ?_
          try simp only [Act.put, List.setIfInBounds_toArray, List.set_cons_zero, List.set_cons_succ]
          refine wpAnyH_take (i := 8) (oi := ⟨some 31, _, _, _, _, _⟩) rfl (by kernel_rfl) (by kernel_rfl) (by kernel_rfl) (fun _ _ _ h => h) (Or.inl ⟨by rfl, fun w hw => by ((try dsimp only at hw); go_split_ands; go_simp; with_reducible rfl)⟩) (by assumption) ?_
          try simp only [Act.put, List.setIfInBounds_toArray, List.set_cons_zero, List.set_cons_succ]
          refine wpAnyH_ready (rs := [9]) (by kernel_rfl) (by simp) ?_
          refine AllReadyH.cons rfl (fun K hK => ?_) AllReadyH.nil
          refine wpOp_alloc (o := ⟨some 11, _, _, _, _, _⟩) (by rfl) 24 rfl _ _ info_ans ?_
          intro y13 hz13 hb13 hs13
          have hb13 := hb13.out
          have HB_13 : Hid (Below w.heap.size w y13) := HB_12.out.trans (hb13.mono HB_12.out.size)
          have HKk_13 : Hid (BlkB y13 (w.heap.size + 1) 31 ks) := BlkIs.below HKk_12.out hb13
          have HRr_13 : Hid (BlkB y13 w.heap.size 29 rs) := BlkIs.below HRr_12.out hb13
          have HZ_13 : Hid (BlkB y13 w0.heap.size 5 (zs 33)) := BlkIs.below HZ_12.out hb13
          have HA_13 : Hid (BlkIs y13 y12.heap.size 24 (([] : List Value) ++ (([Value.bool false, Value.slice none 0 0] : List Value) ++ [])).toArray) := hz13
          have HG_13 : Hid (w.heap.size ≤ y12.heap.size) := HB_12.out.size
          have HGG_13 : Hid (w.heap.size + 1 < y12.heap.size) := HKk_12.out.lt
          refine hK.out _ _ (BlkIs.range HKk_13.out) (fun hH => ?_)
          clear hK hb13
          refine wpAnyH_ready (rs := [10]) (by kernel_rfl) (by simp) ?_
          refine AllReadyH.cons (o := ⟨none, _, _, _, _, _⟩) rfl (fun K hK => ?_) AllReadyH.nil
          refine wpOp_store_part (o := ⟨none, _, _, _, _, _⟩) (by rfl) 24 (.tmp 11) (.tmp 30) rfl 0 [] [.bool false, .slice none 0 0] [.bool false, .slice Av 0 cv] [] rfl rfl HA_13.out rfl rfl (by rw [size_ans]; rfl) (by intro u hu; simp at hu; rcases hu with rfl | rfl <;> rfl) ?_
          intro z1 hz1 gz1
          have HBz : Hid (Below w.heap.size w z1) := HB_13.out.grown gz1 HB_13.out.size fun k hk => by injection hk with hk; have := HG_13.out; omega
          have hne : y12.heap.size ≠ w.heap.size ∧ y12.heap.size ≠ w.heap.size + 1 := by have h1 := HG_13.out; have h2 := HKk_13.out.lt; have h3 := HRr_13.out.lt; have h4 := HWS.out; have h5 := HGG_13.out; omega
          have HKz : Hid (BlkB z1 (w.heap.size + 1) 31 ks) := (Touch.one gz1).blk HKk_13.out (Ne.symm hne.2)
          have HRz : Hid (BlkB z1 w.heap.size 29 rs) := (Touch.one gz1).blk HRr_13.out (Ne.symm hne.1)
          refine hK.out _ _ (BlkIs.range HKz.out) (fun hH => ?_)
          clear hK hne
          refine wpAnyH_take (i := 11) (oi := ⟨some 12, _, _, _, _, _⟩) rfl (by kernel_rfl) (by kernel_rfl) (by kernel_rfl) (fun _ _ _ h => h) (Or.inl ⟨by rfl, fun w hw => by ((try dsimp only at hw); go_split_ands; go_simp; with_reducible rfl)⟩) (by assumption) ?_
          try simp only [Act.put, List.setIfInBounds_toArray, List.set_cons_zero, List.set_cons_succ]
          refine wpAnyH_done (by kernel_rfl) ?_ _
          go_wp2_with fail
          go_meet
          case rel => exact ⟨y12.heap.size, Av, cv, rfl, rfl, HBz.out, HRz.out, HKz.out, hz1⟩
        · refine wpOp_alloc (o := ⟨some 11, _, _, _, _, _⟩) (by rfl) 24 rfl _ _ info_ans ?_
          intro y14 hz14 hb14 hs14
          have hb14 := hb14.out
          have HB_14 : Hid (Below w.heap.size w y14) := HB_11.out.trans (hb14.mono HB_11.out.size)
          have HKk_14 : Hid (BlkB y14 (w.heap.size + 1) 31 ks) := BlkIs.below HKk_11.out hb14
          have HRr_14 : Hid (BlkB y14 w.heap.size 29 rs) := BlkIs.below HRr_11.out hb14
          have HZ_14 : Hid (BlkB y14 w0.heap.size 5 (zs 33)) := BlkIs.below HZ_11.out hb14
          have HA_14 : Hid (BlkIs y14 y11.heap.size 24 (([] : List Value) ++ (([Value.bool false, Value.slice none 0 0] : List Value) ++ [])).toArray) := hz14
          have HG_14 : Hid (w.heap.size ≤ y11.heap.size) := HB_11.out.size
          have HGG_14 : Hid (w.heap.size + 1 < y11.heap.size) := HKk_11.out.lt
          refine hK.out _ _ (BlkIs.range HKk_14.out) (fun hH => ?_)
          clear hK hb14
          refine wpAnyH_ready (rs := [5]) (by kernel_rfl) (by simp) ?_
          refine AllReadyH.cons rfl (fun K hK => ?_) AllReadyH.nil
          go_simp
          go_at_call 7
          refine (verify_none wd ks R HR.out HKL.out.1 HKL.out.2 w0.heap.size y14 HZ_14.out (HTT.out y14 HB_14.out).1 q0 HQ0.out).mono ?_
          rintro e y15 ⟨hb15, Av, cv, rfl⟩
          have HB_15 : Hid (Below w.heap.size w y15) := HB_14.out.trans (hb15.mono HB_14.out.size)
          have HKk_15 : Hid (BlkB y15 (w.heap.size + 1) 31 ks) := BlkIs.below HKk_14.out hb15
          have HRr_15 : Hid (BlkB y15 w.heap.size 29 rs) := BlkIs.below HRr_14.out hb15
          have HZ_15 : Hid (BlkB y15 w0.heap.size 5 (zs 33)) := BlkIs.below HZ_14.out hb15
          have HA_15 : Hid (BlkIs y15 y11.heap.size 24 (([] : List Value) ++ (([Value.bool false, Value.slice none 0 0] : List Value) ++ [])).toArray) := BlkIs.below HA_14.out hb15
          have HG_15 : Hid (w.heap.size ≤ y11.heap.size) := HG_14.out
          have HGG_15 : Hid (w.heap.size + 1 < y11.heap.size) := HGG_14.out
          refine hK.out _ _ (BlkIs.range HKk_15.out) (fun hH => ?_)
          clear hK hb15
          refine wpAnyH_take (i := 6) (oi := ⟨some 23, _, _, _, _, _⟩) rfl (by kernel_rfl) (by kernel_rfl) (by kernel_rfl) (fun _ _ _ h => h) (Or.inl ⟨by rfl, fun w hw => by ((try dsimp only at hw); go_split_ands; go_simp; with_reducible rfl)⟩) (by assumption) ?_
          try simp only [Act.put, List.setIfInBounds_toArray, List.set_cons_zero, List.set_cons_succ]
          refine wpAnyH_take (i := 7) (oi := ⟨some 30, _, _, _, _, _⟩) rfl (by kernel_rfl) (by kernel_rfl) (by kernel_rfl) (fun _ _ _ h => h) (Or.inl ⟨by rfl, fun w hw => by ((try dsimp only at hw); go_split_ands; go_simp; with_reducible rfl)⟩) (by assumption) ?_
          try simp only [Act.put, List.setIfInBounds_toArray, List.set_cons_zero, List.set_cons_succ]
          refine wpAnyH_take (i := 8) (oi := ⟨some 31, _, _, _, _, _⟩) rfl (by kernel_rfl) (by kernel_rfl) (by kernel_rfl) (fun _ _ _ h => h) (Or.inl ⟨by rfl, fun w hw => by ((try dsimp only at hw); go_split_ands; go_simp; with_reducible rfl)⟩) (by assumption) ?_
          try simp only [Act.put, List.setIfInBounds_toArray, List.set_cons_zero, List.set_cons_succ]
          refine wpAnyH_ready (rs := [10]) (by kernel_rfl) (by simp) ?_
          refine AllReadyH.cons (o := ⟨none, _, _, _, _, _⟩) rfl (fun K hK => ?_) AllReadyH.nil
          refine wpOp_store_part (o := ⟨none, _, _, _, _, _⟩) (by rfl) 24 (.tmp 11) (.tmp 30) rfl 0 [] [.bool false, .slice none 0 0] [.bool false, .slice Av 0 cv] [] rfl rfl HA_15.out rfl rfl (by rw [size_ans]; rfl) (by intro u hu; simp at hu; rcases hu with rfl | rfl <;> rfl) ?_
          intro z1 hz1 gz1
          have HBz : Hid (Below w.heap.size w z1) := HB_15.out.grown gz1 HB_15.out.size fun k hk => by injection hk with hk; have := HG_15.out; omega
          have hne : y11.heap.size ≠ w.heap.size ∧ y11.heap.size ≠ w.heap.size + 1 := by have h1 := HG_15.out; have h2 := HKk_15.out.lt; have h3 := HRr_15.out.lt; have h4 := HWS.out; have h5 := HGG_15.out; omega
          have HKz : Hid (BlkB z1 (w.heap.size + 1) 31 ks) := (Touch.one gz1).blk HKk_15.out (Ne.symm hne.2)
          have HRz : Hid (BlkB z1 w.heap.size 29 rs) := (Touch.one gz1).blk HRr_15.out (Ne.symm hne.1)
          refine hK.out _ _ (BlkIs.range HKz.out) (fun hH => ?_)
          clear hK hne
          refine wpAnyH_take (i := 11) (oi := ⟨some 12, _, _, _, _, _⟩) rfl (by kernel_rfl) (by kernel_rfl) (by kernel_rfl) (fun _ _ _ h => h) (Or.inl ⟨by rfl, fun w hw => by ((try dsimp only at hw); go_split_ands; go_simp; with_reducible rfl)⟩) (by assumption) ?_
          try simp only [Act.put, List.setIfInBounds_toArray, List.set_cons_zero, List.set_cons_succ]
          refine wpAnyH_done (by kernel_rfl) ?_ _
          go_wp2_with fail
          go_meet
          case rel => exact ⟨y11.heap.size, Av, cv, rfl, rfl, HBz.out, HRz.out, HKz.out, hz1⟩
      · refine wpOp_alloc (o := ⟨some 11, _, _, _, _, _⟩) (by rfl) 24 rfl _ _ info_ans ?_
        intro y16 hz16 hb16 hs16
        have hb16 := hb16.out
        have HB_16 : Hid (Below w.heap.size w y16) := HB_10.out.trans (hb16.mono HB_10.out.size)
        have HKk_16 : Hid (BlkB y16 (w.heap.size + 1) 31 ks) := BlkIs.below HKk_10.out hb16
        have HRr_16 : Hid (BlkB y16 w.heap.size 29 rs) := BlkIs.below HRr_10.out hb16
        have HZ_16 : Hid (BlkB y16 w0.heap.size 5 (zs 33)) := BlkIs.below HZ_10.out hb16
        have HA_16 : Hid (BlkIs y16 y10.heap.size 24 (([] : List Value) ++ (([Value.bool false, Value.slice none 0 0] : List Value) ++ [])).toArray) := hz16
        have HG_16 : Hid (w.heap.size ≤ y10.heap.size) := HB_10.out.size
        have HGG_16 : Hid (w.heap.size + 1 < y10.heap.size) := HKk_10.out.lt
        refine hK.out _ _ (BlkIs.range HKk_16.out) (fun hH => ?_)
        clear hK hb16
        refine wpAnyH_ready (rs := [2]) (by kernel_rfl) (by simp) ?_
        refine AllReadyH.cons rfl (fun K hK => ?_) AllReadyH.nil
        go_simp
        go_at_call 8
        refine (empty_at wd y16 (HTT.out y16 HB_16.out).2).mono ?_
        rintro e y17 ⟨hb17, R, rfl, hR⟩
        have HR := Lib.hid hR
        clear hR
        have HB_17 : Hid (Below w.heap.size w y17) := HB_16.out.trans (hb17.mono HB_16.out.size)
        have HKk_17 : Hid (BlkB y17 (w.heap.size + 1) 31 ks) := BlkIs.below HKk_16.out hb17
        have HRr_17 : Hid (BlkB y17 w.heap.size 29 rs) := BlkIs.below HRr_16.out hb17
        have HZ_17 : Hid (BlkB y17 w0.heap.size 5 (zs 33)) := BlkIs.below HZ_16.out hb17
        have HA_17 : Hid (BlkIs y17 y10.heap.size 24 (([] : List Value) ++ (([Value.bool false, Value.slice none 0 0] : List Value) ++ [])).toArray) := BlkIs.below HA_16.out hb17
        have HG_17 : Hid (w.heap.size ≤ y10.heap.size) := HG_16.out
        have HGG_17 : Hid (w.heap.size + 1 < y10.heap.size) := HGG_16.out
        refine hK.out _ _ (BlkIs.range HKk_17.out) (fun hH => ?_)
        clear hK hb17
        refine wpAnyH_ready (rs := [5]) (by kernel_rfl) (by simp) ?_
        refine AllReadyH.cons rfl (fun K hK => ?_) AllReadyH.nil
        go_simp
        go_at_call 7
        refine (verify_none wd ks R HR.out HKL.out.1 HKL.out.2 w0.heap.size y17 HZ_17.out (HTT.out y17 HB_17.out).1 q0 HQ0.out).mono ?_
        rintro e y18 ⟨hb18, Av, cv, rfl⟩
        have HB_18 : Hid (Below w.heap.size w y18) := HB_17.out.trans (hb18.mono HB_17.out.size)
        have HKk_18 : Hid (BlkB y18 (w.heap.size + 1) 31 ks) := BlkIs.below HKk_17.out hb18
        have HRr_18 : Hid (BlkB y18 w.heap.size 29 rs) := BlkIs.below HRr_17.out hb18
        have HZ_18 : Hid (BlkB y18 w0.heap.size 5 (zs 33)) := BlkIs.below HZ_17.out hb18
        have HA_18 : Hid (BlkIs y18 y10.heap.size 24 (([] : List Value) ++ (([Value.bool false, Value.slice none 0 0] : List Value) ++ [])).toArray) := BlkIs.below HA_17.out hb18
        have HG_18 : Hid (w.heap.size ≤ y10.heap.size) := HG_17.out
        have HGG_18 : Hid (w.heap.size + 1 < y10.heap.size) := HGG_17.out
        refine hK.out _ _ (BlkIs.range HKk_18.out) (fun hH => ?_)
        clear hK hb18
        refine wpAnyH_take (i := 6) (oi := ⟨some 23, _, _, _, _, _⟩) rfl (by kernel_rfl) (by kernel_rfl) (by kernel_rfl) (fun _ _ _ h => h) (Or.inl ⟨by rfl, fun w hw => by ((try dsimp only at hw); go_split_ands; go_simp; with_reducible rfl)⟩) (by assumption) ?_
        try simp only [Act.put, List.setIfInBounds_toArray, List.set_cons_zero, List.set_cons_succ]
        refine wpAnyH_take (i := 7) (oi := ⟨some 30, _, _, _, _, _⟩) rfl (by kernel_rfl) (by kernel_rfl) (by kernel_rfl) (fun _ _ _ h => h) (Or.inl ⟨by rfl, fun w hw => by ((try dsimp only at hw); go_split_ands; go_simp; with_reducible rfl)⟩) (by assumption) ?_
        try simp only [Act.put, List.setIfInBounds_toArray, List.set_cons_zero, List.set_cons_succ]
        refine wpAnyH_take (i := 8) (oi := ⟨some 31, _, _, _, _, _⟩) rfl (by kernel_rfl) (by kernel_rfl) (by kernel_rfl) (fun _ _ _ h => h) (Or.inl ⟨by rfl, fun w hw => by ((try dsimp only at hw); go_split_ands; go_simp; with_reducible rfl)⟩) (by assumption) ?_
        try simp only [Act.put, List.setIfInBounds_toArray, List.set_cons_zero, List.set_cons_succ]
        refine wpAnyH_ready (rs := [10]) (by kernel_rfl) (by simp) ?_
        refine AllReadyH.cons (o := ⟨none, _, _, _, _, _⟩) rfl (fun K hK => ?_) AllReadyH.nil
        refine wpOp_store_part (o := ⟨none, _, _, _, _, _⟩) (by rfl) 24 (.tmp 11) (.tmp 30) rfl 0 [] [.bool false, .slice none 0 0] [.bool false, .slice Av 0 cv] [] rfl rfl HA_18.out rfl rfl (by rw [size_ans]; rfl) (by intro u hu; simp at hu; rcases hu with rfl | rfl <;> rfl) ?_
        intro z1 hz1 gz1
        have HBz : Hid (Below w.heap.size w z1) := HB_18.out.grown gz1 HB_18.out.size fun k hk => by injection hk with hk; have := HG_18.out; omega
        have hne : y10.heap.size ≠ w.heap.size ∧ y10.heap.size ≠ w.heap.size + 1 := by have h1 := HG_18.out; have h2 := HKk_18.out.lt; have h3 := HRr_18.out.lt; have h4 := HWS.out; have h5 := HGG_18.out; omega
        have HKz : Hid (BlkB z1 (w.heap.size + 1) 31 ks) := (Touch.one gz1).blk HKk_18.out (Ne.symm hne.2)
        have HRz : Hid (BlkB z1 w.heap.size 29 rs) := (Touch.one gz1).blk HRr_18.out (Ne.symm hne.1)
        refine hK.out _ _ (BlkIs.range HKz.out) (fun hH => ?_)
        clear hK hne
        refine wpAnyH_take (i := 11) (oi := ⟨some 12, _, _, _, _, _⟩) rfl (by kernel_rfl) (by kernel_rfl) (by kernel_rfl) (fun _ _ _ h => h) (Or.inl ⟨by rfl, fun w hw => by ((try dsimp only at hw); go_split_ands; go_simp; with_reducible rfl)⟩) (by assumption) ?_
        try simp only [Act.put, List.setIfInBounds_toArray, List.set_cons_zero, List.set_cons_succ]
        refine wpAnyH_done (by kernel_rfl) ?_ _
        go_wp2_with fail
        go_meet
        case rel => exact ⟨y10.heap.size, Av, cv, rfl, rfl, HBz.out, HRz.out, HKz.out, hz1⟩
    · refine wpOp_alloc (o := ⟨some 11, _, _, _, _, _⟩) (by rfl) 24 rfl _ _ info_ans ?_
      intro y19 hz19 hb19 hs19
      have hb19 := hb19.out
      have HB_19 : Hid (Below w.heap.size w y19) := HB0.out.trans (hb19.mono HB0.out.size)
      have HKk_19 : Hid (BlkB y19 (w.heap.size + 1) 31 ks) := BlkIs.below HK0.out hb19
      have HRr_19 : Hid (BlkB y19 w.heap.size 29 rs) := BlkIs.below HR0.out hb19
      have HA_19 : Hid (BlkIs y19 w0.heap.size 24 (([] : List Value) ++ (([Value.bool false, Value.slice none 0 0] : List Value) ++ [])).toArray) := hz19
      have HG_19 : Hid (w.heap.size ≤ w0.heap.size) := HB0.out.size
      have HGG_19 : Hid (w.heap.size + 1 < w0.heap.size) := HK0.out.lt
      refine hK.out _ _ (BlkIs.range HKk_19.out) (fun hH => ?_)
      clear hK hb19
      refine wpAnyH_ready (rs := [2, 4]) (by kernel_rfl) (by simp) ?_
      refine AllReadyH.cons rfl (fun K hK => ?_) (AllReadyH.cons rfl (fun K hK => ?_) AllReadyH.nil)
      · go_simp
        go_at_call 8
        refine (empty_at wd y19 (HTT.out y19 HB_19.out).2).mono ?_
        rintro e y20 ⟨hb20, R, rfl, hR⟩
        have HR := Lib.hid hR
        clear hR
        have HB_20 : Hid (Below w.heap.size w y20) := HB_19.out.trans (hb20.mono HB_19.out.size)
        have HKk_20 : Hid (BlkB y20 (w.heap.size + 1) 31 ks) := BlkIs.below HKk_19.out hb20
        have HRr_20 : Hid (BlkB y20 w.heap.size 29 rs) := BlkIs.below HRr_19.out hb20
        have HA_20 : Hid (BlkIs y20 w0.heap.size 24 (([] : List Value) ++ (([Value.bool false, Value.slice none 0 0] : List Value) ++ [])).toArray) := BlkIs.below HA_19.out hb20
        have HG_20 : Hid (w.heap.size ≤ w0.heap.size) := HG_19.out
        have HGG_20 : Hid (w.heap.size + 1 < w0.heap.size) := HGG_19.out
        refine hK.out _ _ (BlkIs.range HKk_20.out) (fun hH => ?_)
        clear hK hb20
        refine wpAnyH_ready (rs := [4]) (by kernel_rfl) (by simp) ?_
        refine AllReadyH.cons rfl (fun K hK => ?_) AllReadyH.nil
        go_simp
        refine start1 (G := fun w' => K _ w') fun y21 hz21 hb21 hs21 => ?_
        have hb21 := hb21.out
        have HB_21 : Hid (Below w.heap.size w y21) := HB_20.out.trans (hb21.mono HB_20.out.size)
        have HKk_21 : Hid (BlkB y21 (w.heap.size + 1) 31 ks) := BlkIs.below HKk_20.out hb21
        have HRr_21 : Hid (BlkB y21 w.heap.size 29 rs) := BlkIs.below HRr_20.out hb21
        have HA_21 : Hid (BlkIs y21 w0.heap.size 24 (([] : List Value) ++ (([Value.bool false, Value.slice none 0 0] : List Value) ++ [])).toArray) := BlkIs.below HA_20.out hb21
        have HG_21 : Hid (w.heap.size ≤ w0.heap.size) := HG_20.out
        have HGG_21 : Hid (w.heap.size + 1 < w0.heap.size) := HGG_20.out
        have HZ_21 : Hid (BlkB y21 y20.heap.size 5 (zs 33)) := by have h := hz21.out; rw [HCS.out] at h; exact h
        refine hK.out _ _ (BlkIs.range HKk_21.out) (fun hH => ?_)
        clear hK hb21
        refine wpAnyH_ready (rs := [5]) (by kernel_rfl) (by simp) ?_
        refine AllReadyH.cons rfl (fun K hK => ?_) AllReadyH.nil
        go_simp
        go_at_call 7
        refine (verify_none wd ks R HR.out HKL.out.1 HKL.out.2 y20.heap.size y21 HZ_21.out (HTT.out y21 HB_21.out).1 q0 HQ0.out).mono ?_
        rintro e y22 ⟨hb22, Av, cv, rfl⟩
        have HB_22 : Hid (Below w.heap.size w y22) := HB_21.out.trans (hb22.mono HB_21.out.size)
        have HKk_22 : Hid (BlkB y22 (w.heap.size + 1) 31 ks) := BlkIs.below HKk_21.out hb22
        have HRr_22 : Hid (BlkB y22 w.heap.size 29 rs) := BlkIs.below HRr_21.out hb22
        have HA_22 : Hid (BlkIs y22 w0.heap.size 24 (([] : List Value) ++ (([Value.bool false, Value.slice none 0 0] : List Value) ++ [])).toArray) := BlkIs.below HA_21.out hb22
        have HG_22 : Hid (w.heap.size ≤ w0.heap.size) := HG_21.out
        have HGG_22 : Hid (w.heap.size + 1 < w0.heap.size) := HGG_21.out
        have HZ_22 : Hid (BlkB y22 y20.heap.size 5 (zs 33)) := BlkIs.below HZ_21.out hb22
        refine hK.out _ _ (BlkIs.range HKk_22.out) (fun hH => ?_)
        clear hK hb22
        refine wpAnyH_take (i := 6) (oi := ⟨some 23, _, _, _, _, _⟩) rfl (by kernel_rfl) (by kernel_rfl) (by kernel_rfl) (fun _ _ _ h => h) (Or.inl ⟨by rfl, fun w hw => by ((try dsimp only at hw); go_split_ands; go_simp; with_reducible rfl)⟩) (by assumption) ?_
        try simp only [Act.put, List.setIfInBounds_toArray, List.set_cons_zero, List.set_cons_succ]
        refine wpAnyH_take (i := 7) (oi := ⟨some 30, _, _, _, _, _⟩) rfl (by kernel_rfl) (by kernel_rfl) (by kernel_rfl) (fun _ _ _ h => h) (Or.inl ⟨by rfl, fun w hw => by ((try dsimp only at hw); go_split_ands; go_simp; with_reducible rfl)⟩) (by assumption) ?_
        try simp only [Act.put, List.setIfInBounds_toArray, List.set_cons_zero, List.set_cons_succ]
        refine wpAnyH_take (i := 8) (oi := ⟨some 31, _, _, _, _, _⟩) rfl (by kernel_rfl) (by kernel_rfl) (by kernel_rfl) (fun _ _ _ h => h) (Or.inl ⟨by rfl, fun w hw => by ((try dsimp only at hw); go_split_ands; go_simp; with_reducible rfl)⟩) (by assumption) ?_
        try simp only [Act.put, List.setIfInBounds_toArray, List.set_cons_zero, List.set_cons_succ]
        refine wpAnyH_ready (rs := [10]) (by kernel_rfl) (by simp) ?_
        refine AllReadyH.cons (o := ⟨none, _, _, _, _, _⟩) rfl (fun K hK => ?_) AllReadyH.nil
        refine wpOp_store_part (o := ⟨none, _, _, _, _, _⟩) (by rfl) 24 (.tmp 11) (.tmp 30) rfl 0 [] [.bool false, .slice none 0 0] [.bool false, .slice Av 0 cv] [] rfl rfl HA_22.out rfl rfl (by rw [size_ans]; rfl) (by intro u hu; simp at hu; rcases hu with rfl | rfl <;> rfl) ?_
        intro z1 hz1 gz1
        have HBz : Hid (Below w.heap.size w z1) := HB_22.out.grown gz1 HB_22.out.size fun k hk => by injection hk with hk; have := HG_22.out; omega
        have hne : w0.heap.size ≠ w.heap.size ∧ w0.heap.size ≠ w.heap.size + 1 := by have h1 := HG_22.out; have h2 := HKk_22.out.lt; have h3 := HRr_22.out.lt; have h4 := HWS.out; have h5 := HGG_22.out; omega
        have HKz : Hid (BlkB z1 (w.heap.size + 1) 31 ks) := (Touch.one gz1).blk HKk_22.out (Ne.symm hne.2)
        have HRz : Hid (BlkB z1 w.heap.size 29 rs) := (Touch.one gz1).blk HRr_22.out (Ne.symm hne.1)
        refine hK.out _ _ (BlkIs.range HKz.out) (fun hH => ?_)
        clear hK hne
        refine wpAnyH_take (i := 11) (oi := ⟨some 12, _, _, _, _, _⟩) rfl (by kernel_rfl) (by kernel_rfl) (by kernel_rfl) (fun _ _ _ h => h) (Or.inl ⟨by rfl, fun w hw => by ((try dsimp only at hw); go_split_ands; go_simp; with_reducible rfl)⟩) (by assumption) ?_
        try simp only [Act.put, List.setIfInBounds_toArray, List.set_cons_zero, List.set_cons_succ]
        refine wpAnyH_done (by kernel_rfl) ?_ _
        go_wp2_with fail
        go_meet
        case rel => exact ⟨w0.heap.size, Av, cv, rfl, rfl, HBz.out, HRz.out, HKz.out, hz1⟩
      · go_simp
        refine start1 (G := fun w' => K _ w') fun y23 hz23 hb23 hs23 => ?_
        have hb23 := hb23.out
        have HB_23 : Hid (Below w.heap.size w y23) := HB_19.out.trans (hb23.mono HB_19.out.size)
        have HKk_23 : Hid (BlkB y23 (w.heap.size + 1) 31 ks) := BlkIs.below HKk_19.out hb23
        have HRr_23 : Hid (BlkB y23 w.heap.size 29 rs) := BlkIs.below HRr_19.out hb23
        have HA_23 : Hid (BlkIs y23 w0.heap.size 24 (([] : List Value) ++ (([Value.bool false, Value.slice none 0 0] : List Value) ++ [])).toArray) := BlkIs.below HA_19.out hb23
        have HG_23 : Hid (w.heap.size ≤ w0.heap.size) := HG_19.out
        have HGG_23 : Hid (w.heap.size + 1 < w0.heap.size) := HGG_19.out
        have HZ_23 : Hid (BlkB y23 y19.heap.size 5 (zs 33)) := by have h := hz23.out; rw [HCS.out] at h; exact h
        refine hK.out _ _ (BlkIs.range HKk_23.out) (fun hH => ?_)
        clear hK hb23
        refine wpAnyH_ready (rs := [2]) (by kernel_rfl) (by simp) ?_
        refine AllReadyH.cons rfl (fun K hK => ?_) AllReadyH.nil
        go_simp
        go_at_call 8
        refine (empty_at wd y23 (HTT.out y23 HB_23.out).2).mono ?_
        rintro e y24 ⟨hb24, R, rfl, hR⟩
        have HR := Lib.hid hR
        clear hR
        have HB_24 : Hid (Below w.heap.size w y24) := HB_23.out.trans (hb24.mono HB_23.out.size)
        have HKk_24 : Hid (BlkB y24 (w.heap.size + 1) 31 ks) := BlkIs.below HKk_23.out hb24
        have HRr_24 : Hid (BlkB y24 w.heap.size 29 rs) := BlkIs.below HRr_23.out hb24
        have HA_24 : Hid (BlkIs y24 w0.heap.size 24 (([] : List Value) ++ (([Value.bool false, Value.slice none 0 0] : List Value) ++ [])).toArray) := BlkIs.below HA_23.out hb24
        have HG_24 : Hid (w.heap.size ≤ w0.heap.size) := HG_23.out
        have HGG_24 : Hid (w.heap.size + 1 < w0.heap.size) := HGG_23.out
        have HZ_24 : Hid (BlkB y24 y19.heap.size 5 (zs 33)) := BlkIs.below HZ_23.out hb24
        refine hK.out _ _ (BlkIs.range HKk_24.out) (fun hH => ?_)
        clear hK hb24
        refine wpAnyH_ready (rs := [5]) (by kernel_rfl) (by simp) ?_
        refine AllReadyH.cons rfl (fun K hK => ?_) AllReadyH.nil
        go_simp
        go_at_call 7
        refine (verify_none wd ks R HR.out HKL.out.1 HKL.out.2 y19.heap.size y24 HZ_24.out (HTT.out y24 HB_24.out).1 q0 HQ0.out).mono ?_
        rintro e y25 ⟨hb25, Av, cv, rfl⟩
        have HB_25 : Hid (Below w.heap.size w y25) := HB_24.out.trans (hb25.mono HB_24.out.size)
        have HKk_25 : Hid (BlkB y25 (w.heap.size + 1) 31 ks) := BlkIs.below HKk_24.out hb25
        have HRr_25 : Hid (BlkB y25 w.heap.size 29 rs) := BlkIs.below HRr_24.out hb25
        have HA_25 : Hid (BlkIs y25 w0.heap.size 24 (([] : List Value) ++ (([Value.bool false, Value.slice none 0 0] : List Value) ++ [])).toArray) := BlkIs.below HA_24.out hb25
        have HG_25 : Hid (w.heap.size ≤ w0.heap.size) := HG_24.out
        have HGG_25 : Hid (w.heap.size + 1 < w0.heap.size) := HGG_24.out
        have HZ_25 : Hid (BlkB y25 y19.heap.size 5 (zs 33)) := BlkIs.below HZ_24.out hb25
        refine hK.out _ _ (BlkIs.range HKk_25.out) (fun hH => ?_)
        clear hK hb25
        refine wpAnyH_take (i := 6) (oi := ⟨some 23, _, _, _, _, _⟩) rfl (by kernel_rfl) (by kernel_rfl) (by kernel_rfl) (fun _ _ _ h => h) (Or.inl ⟨by rfl, fun w hw => by ((try dsimp only at hw); go_split_ands; go_simp; with_reducible rfl)⟩) (by assumption) ?_
        try simp only [Act.put, List.setIfInBounds_toArray, List.set_cons_zero, List.set_cons_succ]
        refine wpAnyH_take (i := 7) (oi := ⟨some 30, _, _, _, _, _⟩) rfl (by kernel_rfl) (by kernel_rfl) (by kernel_rfl) (fun _ _ _ h => h) (Or.inl ⟨by rfl, fun w hw => by ((try dsimp only at hw); go_split_ands; go_simp; with_reducible rfl)⟩) (by assumption) ?_
        try simp only [Act.put, List.setIfInBounds_toArray, List.set_cons_zero, List.set_cons_succ]
        refine wpAnyH_take (i := 8) (oi := ⟨some 31, _, _, _, _, _⟩) rfl (by kernel_rfl) (by kernel_rfl) (by kernel_rfl) (fun _ _ _ h => h) (Or.inl ⟨by rfl, fun w hw => by ((try dsimp only at hw); go_split_ands; go_simp; with_reducible rfl)⟩) (by assumption) ?_
        try simp only [Act.put, List.setIfInBounds_toArray, List.set_cons_zero, List.set_cons_succ]
        refine wpAnyH_ready (rs := [10]) (by kernel_rfl) (by simp) ?_
        refine AllReadyH.cons (o := ⟨none, _, _, _, _, _⟩) rfl (fun K hK => ?_) AllReadyH.nil
        refine wpOp_store_part (o := ⟨none, _, _, _, _, _⟩) (by rfl) 24 (.tmp 11) (.tmp 30) rfl 0 [] [.bool false, .slice none 0 0] [.bool false, .slice Av 0 cv] [] rfl rfl HA_25.out rfl rfl (by rw [size_ans]; rfl) (by intro u hu; simp at hu; rcases hu with rfl | rfl <;> rfl) ?_
        intro z1 hz1 gz1
        have HBz : Hid (Below w.heap.size w z1) := HB_25.out.grown gz1 HB_25.out.size fun k hk => by injection hk with hk; have := HG_25.out; omega
        have hne : w0.heap.size ≠ w.heap.size ∧ w0.heap.size ≠ w.heap.size + 1 := by have h1 := HG_25.out; have h2 := HKk_25.out.lt; have h3 := HRr_25.out.lt; have h4 := HWS.out; have h5 := HGG_25.out; omega
        have HKz : Hid (BlkB z1 (w.heap.size + 1) 31 ks) := (Touch.one gz1).blk HKk_25.out (Ne.symm hne.2)
        have HRz : Hid (BlkB z1 w.heap.size 29 rs) := (Touch.one gz1).blk HRr_25.out (Ne.symm hne.1)
        refine hK.out _ _ (BlkIs.range HKz.out) (fun hH => ?_)
        clear hK hne
        refine wpAnyH_take (i := 11) (oi := ⟨some 12, _, _, _, _, _⟩) rfl (by kernel_rfl) (by kernel_rfl) (by kernel_rfl) (fun _ _ _ h => h) (Or.inl ⟨by rfl, fun w hw => by ((try dsimp only at hw); go_split_ands; go_simp; with_reducible rfl)⟩) (by assumption) ?_
        try simp only [Act.put, List.setIfInBounds_toArray, List.set_cons_zero, List.set_cons_succ]
        refine wpAnyH_done (by kernel_rfl) ?_ _
        go_wp2_with fail
        go_meet
        case rel => exact ⟨w0.heap.size, Av, cv, rfl, rfl, HBz.out, HRz.out, HKz.out, hz1⟩
  case rest =>
    obtain ⟨B0, Av0, cv0, rfl, rfl, HB3, HR3, HK3, HA3⟩ := hcut
    obtain ⟨w3, rfl⟩ : ∃ x, x = wc := ⟨_, rfl⟩
    clear hmk HCS HR2 HK2 HW HWS
    by_cases hw : wd < 1 ∨ 32 < wd
    · have hq0 : q0 = 1 := by rw [← HQ0.out, if_pos hw]
      have hq1 : q1 ≠ 0 := by rw [HQW.out hw]; omega
      subst hq0
      have HQN := Lib.hid hq1
      clear hq1
      rcases hw with h | h
      · go_wp2_with (first
          | (refine wpList_load_arr (o := ⟨some 40, _, _, _, _, _⟩) (by rfl) 29 (.tmp 6) rfl ⟨w.heap.size, 0, none⟩ 32 rs rfl (HR3.out.whole HRL.out.2 HRL.out.1) (by omega) (by kernel_rfl) (by kernel_rfl) ?_)
          | (refine wpList_load_arr (o := ⟨some 41, _, _, _, _, _⟩) (by rfl) 31 (.tmp 7) rfl ⟨w.heap.size + 1, 0, none⟩ 32 ks rfl (HK3.out.whole HKL.out.2 HKL.out.1) (by omega) (by kernel_rfl) (by kernel_rfl) ?_))
        refine (HER.out w3 HB3.out HQN.out).mono ?_
        rintro e w4 ⟨rfl, hb4⟩
        go_wp2_with fail
        go_ret
        exact ⟨rfl, HB3.out.trans (hb4.mono HB3.out.size)⟩
      · have h' : ¬ wd < 1 := by omega
        go_wp2_with (first
          | (refine wpList_load_arr (o := ⟨some 40, _, _, _, _, _⟩) (by rfl) 29 (.tmp 6) rfl ⟨w.heap.size, 0, none⟩ 32 rs rfl (HR3.out.whole HRL.out.2 HRL.out.1) (by omega) (by kernel_rfl) (by kernel_rfl) ?_)
          | (refine wpList_load_arr (o := ⟨some 41, _, _, _, _, _⟩) (by rfl) 31 (.tmp 7) rfl ⟨w.heap.size + 1, 0, none⟩ 32 ks rfl (HK3.out.whole HKL.out.2 HKL.out.1) (by omega) (by kernel_rfl) (by kernel_rfl) ?_))
        refine (HER.out w3 HB3.out HQN.out).mono ?_
        rintro e w4 ⟨rfl, hb4⟩
        go_wp2_with fail
        go_ret
        exact ⟨rfl, HB3.out.trans (hb4.mono HB3.out.size)⟩
    · have hq0 : q0 = 0 := by rw [← HQ0.out, if_neg hw]
      have hw1 : ¬ wd < 1 := by omega
      have hw2 : ¬ 32 < wd := by omega
      subst hq0
      have hcell : w3.cell? ⟨B0, 0, none⟩ = some (.bool false) := BlkIs.cell HA3.out 0
      go_upto_region 7 with fail
      clear hcell hw1 hw2 HA3 HER HQW
      go_cut [16, 17] from 23 (fun s16 s17 wx => ∃ (B : Nat) (Av : Option Addr) (cv : Nat), s16 = .pointer (some ⟨B, 0, none⟩) ∧ s17 = .int .i64 (q1 : Nat) ∧ Hid (Below w.heap.size w wx) ∧ Hid (BlkB wx w.heap.size 29 rs) ∧ Hid (BlkB wx (w.heap.size + 1) 31 ks) ∧ Hid (BlkIs wx B 24 #[.bool (ansF q1 xs), .slice Av (ansV q1 xs).length cv]) ∧ Hid (OwnU wx w.heap.size (.slice Av (ansV q1 xs).length cv) (ansV q1 xs)))
      case first =>
        have hu := und_dig
        have huk := und_key
        have hszk : (Tryd.prog.info? 31).map (·.size) = some (bvs ks).length := by rw [size_key]; simp [bvs, HKL.out.1]
        have hszr : (Tryd.prog.info? 29).map (·.size) = some (bvs rs).length := by rw [size_dig]; simp [bvs, HRL.out.1]
        refine wp_region_held_drew (S := fun w' => w'.rangeAt w.heap.size 0 (bvs rs) ∧ w'.rangeAt (w.heap.size + 1) 0 (bvs ks)) (by kernel_rfl) ⟨BlkIs.range (BlkIs.drew HR3.out), BlkIs.range (BlkIs.drew HK3.out)⟩ fun hH => ?_
        have HB0 : Hid (Below w.heap.size w w3.drew) := drewN_below HB3.out 1
        have HK0 : Hid (BlkB w3.drew (w.heap.size + 1) 31 ks) := HK3
        have HR0 : Hid (BlkB w3.drew w.heap.size 29 rs) := HR3
        generalize w3.drew = w0 at *
        refine wpAnyH_take (i := 0) (oi := ⟨some 71, _, _, _, _, _⟩) rfl (by kernel_rfl) (by kernel_rfl) (by kernel_rfl) (fun _ _ _ h => h) (Or.inl ⟨by rfl, fun w hw => by ((try dsimp only at hw); go_split_ands; go_simp; with_reducible rfl)⟩) (by assumption) ?_
        try simp only [Act.put, List.setIfInBounds_toArray, List.set_cons_zero, List.set_cons_succ]
        refine wpAnyH_take (i := 1) (oi := ⟨some 72, _, _, _, _, _⟩) rfl (by kernel_rfl) (by kernel_rfl) (by kernel_rfl) (fun _ _ _ h => h) (yieldsIf_load_mid (by rfl) _ _ rfl _ _ rfl _ _ (fun w hw => by (try dsimp only at hw); go_split_ands; assumption) (by assumption) rfl (by assumption)) (by assumption) ?_
        try simp only [Act.put, List.setIfInBounds_toArray, List.set_cons_zero, List.set_cons_succ]
        refine wpAnyH_take (i := 2) (oi := ⟨some 73, _, _, _, _, _⟩) rfl (by kernel_rfl) (by kernel_rfl) (by kernel_rfl) (fun _ _ _ h => h) (yieldsIf_load_mid (by rfl) _ _ rfl _ _ rfl _ _ (fun w hw => by (try dsimp only at hw); go_split_ands; assumption) (by assumption) rfl (by assumption)) (by assumption) ?_
        try simp only [Act.put, List.setIfInBounds_toArray, List.set_cons_zero, List.set_cons_succ]
        refine wpAnyH_take (i := 3) (oi := ⟨some 74, _, _, _, _, _⟩) rfl (by kernel_rfl) (by kernel_rfl) (by kernel_rfl) (fun _ _ _ h => h) (Or.inl ⟨by rfl, fun w hw => by ((try dsimp only at hw); go_split_ands; go_simp; with_reducible rfl)⟩) (by assumption) ?_
        try simp only [Act.put, List.setIfInBounds_toArray, List.set_cons_zero, List.set_cons_succ]
        refine wpAnyH_ready (rs := [4, 9]) (by kernel_rfl) (by simp) ?_
        refine AllReadyH.cons rfl (fun K hK => ?_) (AllReadyH.cons rfl (fun K hK => ?_) AllReadyH.nil)
        · go_simp
          go_at_call 16
          refine (HC1.out w0 HB0.out).mono ?_
          rintro e y1 ⟨Ac, cc, rfl, hoc, hb1⟩
          have HB_1 : Hid (Below w.heap.size w y1) := HB0.out.trans (hb1.mono HB0.out.size)
          have HKk_1 : Hid (BlkB y1 (w.heap.size + 1) 31 ks) := BlkIs.below HK0.out hb1
          have HRr_1 : Hid (BlkB y1 w.heap.size 29 rs) := BlkIs.below HR0.out hb1
          have HO_1 : Hid (OwnU y1 w0.heap.size (.slice Ac xs.length cc) xs) := hoc
          refine hK.out _ _ (⟨BlkIs.range HRr_1.out, BlkIs.range HKk_1.out⟩) (fun hH => ?_)
          clear hK hb1
          refine wpAnyH_ready (rs := [5, 9]) (by kernel_rfl) (by simp) ?_
          refine AllReadyH.cons rfl (fun K hK => ?_) (AllReadyH.cons rfl (fun K hK => ?_) AllReadyH.nil)
          · go_simp
            go_at_call 7
            refine (HV1.out y1 _ _ _ HB_1.out HO_1.out).mono ?_
            rintro e y2 ⟨hb2, Av, cv, rfl, hov⟩
            have HB_2 : Hid (Below w.heap.size w y2) := HB_1.out.trans (hb2.mono HB_1.out.size)
            have HKk_2 : Hid (BlkB y2 (w.heap.size + 1) 31 ks) := BlkIs.below HKk_1.out hb2
            have HRr_2 : Hid (BlkB y2 w.heap.size 29 rs) := BlkIs.below HRr_1.out hb2
            have HO_2 : Hid (OwnU y2 w0.heap.size (.slice Ac xs.length cc) xs) := HO_1.out.below hb2
            have HV_2 : Hid (OwnU y2 y1.heap.size (.slice Av (ansV q1 xs).length cv) (ansV q1 xs)) := hov
            have HL_2 : Hid (w.heap.size + 1 < y1.heap.size) := HKk_1.out.lt
            refine hK.out _ _ (⟨BlkIs.range HRr_2.out, BlkIs.range HKk_2.out⟩) (fun hH => ?_)
            clear hK hb2
            refine wpAnyH_take (i := 6) (oi := ⟨some 70, _, _, _, _, _⟩) rfl (by kernel_rfl) (by kernel_rfl) (by kernel_rfl) (fun _ _ _ h => h) (Or.inl ⟨by rfl, fun w hw => by ((try dsimp only at hw); go_split_ands; go_simp; with_reducible rfl)⟩) (by assumption) ?_
            try simp only [Act.put, List.setIfInBounds_toArray, List.set_cons_zero, List.set_cons_succ]
            refine wpAnyH_take (i := 7) (oi := ⟨some 77, _, _, _, _, _⟩) rfl (by kernel_rfl) (by kernel_rfl) (by kernel_rfl) (fun _ _ _ h => h) (Or.inl ⟨by rfl, fun w hw => by ((try dsimp only at hw); go_split_ands; go_simp; with_reducible rfl)⟩) (by assumption) ?_
            try simp only [Act.put, List.setIfInBounds_toArray, List.set_cons_zero, List.set_cons_succ]
            refine wpAnyH_take (i := 8) (oi := ⟨some 78, _, _, _, _, _⟩) rfl (by kernel_rfl) (by kernel_rfl) (by kernel_rfl) (fun _ _ _ h => h) (Or.inl ⟨by rfl, fun w hw => by ((try dsimp only at hw); go_split_ands; go_simp; with_reducible rfl)⟩) (by assumption) ?_
            try simp only [Act.put, List.setIfInBounds_toArray, List.set_cons_zero, List.set_cons_succ]
            refine wpAnyH_ready (rs := [9]) (by kernel_rfl) (by simp) ?_
            refine AllReadyH.cons rfl (fun K hK => ?_) AllReadyH.nil
            refine wpOp_alloc (o := ⟨some 16, _, _, _, _, _⟩) (by rfl) 24 rfl _ _ info_ans ?_
            intro y3 hz3 hb3 hs3
            have hb3 := hb3.out
            have HB_3 : Hid (Below w.heap.size w y3) := HB_2.out.trans (hb3.mono HB_2.out.size)
            have HKk_3 : Hid (BlkB y3 (w.heap.size + 1) 31 ks) := BlkIs.below HKk_2.out hb3
            have HRr_3 : Hid (BlkB y3 w.heap.size 29 rs) := BlkIs.below HRr_2.out hb3
            have HO_3 : Hid (OwnU y3 w0.heap.size (.slice Ac xs.length cc) xs) := HO_2.out.below hb3
            have HV_3 : Hid (OwnU y3 y1.heap.size (.slice Av (ansV q1 xs).length cv) (ansV q1 xs)) := HV_2.out.below hb3
            have HL_3 : Hid (w.heap.size + 1 < y1.heap.size) := HL_2.out
            have HA_3 : Hid (BlkIs y3 y2.heap.size 24 (([] : List Value) ++ (([Value.bool false, Value.slice none 0 0] : List Value) ++ [])).toArray) := hz3
            have HG_3 : Hid (w.heap.size ≤ y2.heap.size) := HB_2.out.size
            have HGG_3 : Hid (w.heap.size + 1 < y2.heap.size) := HKk_2.out.lt
            refine hK.out _ _ (⟨BlkIs.range HRr_3.out, BlkIs.range HKk_3.out⟩) (fun hH => ?_)
            clear hK hb3
            refine wpAnyH_ready (rs := [10]) (by kernel_rfl) (by simp) ?_
            refine AllReadyH.cons (o := ⟨none, _, _, _, _, _⟩) rfl (fun K hK => ?_) AllReadyH.nil
            refine wpOp_store_part (o := ⟨none, _, _, _, _, _⟩) (by rfl) 24 (.tmp 16) (.tmp 77) rfl 0 [] [.bool false, .slice none 0 0] [.bool (ansF q1 xs), .slice Av (ansV q1 xs).length cv] [] rfl rfl HA_3.out rfl rfl (by rw [size_ans]; rfl) (by intro u hu; simp at hu; rcases hu with rfl | rfl <;> rfl) ?_
            intro z1 hz1 gz1
            have HBz : Hid (Below w.heap.size w z1) := HB_3.out.grown gz1 HB_3.out.size fun k hk => by injection hk with hk; have := HG_3.out; omega
            have hne : y2.heap.size ≠ w.heap.size ∧ y2.heap.size ≠ w.heap.size + 1 := by have h5 := HGG_3.out; omega
            have HKz : Hid (BlkB z1 (w.heap.size + 1) 31 ks) := (Touch.one gz1).blk HKk_3.out (Ne.symm hne.2)
            have HRz : Hid (BlkB z1 w.heap.size 29 rs) := (Touch.one gz1).blk HRr_3.out (Ne.symm hne.1)
            have HVz : Hid (OwnU z1 w.heap.size (.slice Av (ansV q1 xs).length cv) (ansV q1 xs)) := ((Touch.one gz1).own HV_3.out fun B hB e => row_blk HV_3.out.1 HA_3.out (by decide) (by rw [hB, e])).mono (by have := HL_3.out; omega)
            refine hK.out _ _ ⟨BlkIs.range HRz.out, BlkIs.range HKz.out⟩ (fun hH => ?_)
            clear hK hne
            refine wpAnyH_take (i := 11) (oi := ⟨some 17, _, _, _, _, _⟩) rfl (by kernel_rfl) (by kernel_rfl) (by kernel_rfl) (fun _ _ _ h => h) (Or.inl ⟨by rfl, fun w hw => by ((try dsimp only at hw); go_split_ands; go_simp; with_reducible rfl)⟩) (by assumption) ?_
            try simp only [Act.put, List.setIfInBounds_toArray, List.set_cons_zero, List.set_cons_succ]
            refine wpAnyH_done (by kernel_rfl) ?_ _
            go_wp2_with fail
            go_meet
            case rel => exact ⟨y2.heap.size, Av, cv, rfl, rfl, HBz.out, HRz.out, HKz.out, hz1, HVz.out⟩
          · refine wpOp_alloc (o := ⟨some 16, _, _, _, _, _⟩) (by rfl) 24 rfl _ _ info_ans ?_
            intro y4 hz4 hb4 hs4
            have hb4 := hb4.out
            have HB_4 : Hid (Below w.heap.size w y4) := HB_1.out.trans (hb4.mono HB_1.out.size)
            have HKk_4 : Hid (BlkB y4 (w.heap.size + 1) 31 ks) := BlkIs.below HKk_1.out hb4
            have HRr_4 : Hid (BlkB y4 w.heap.size 29 rs) := BlkIs.below HRr_1.out hb4
            have HO_4 : Hid (OwnU y4 w0.heap.size (.slice Ac xs.length cc) xs) := HO_1.out.below hb4
            have HA_4 : Hid (BlkIs y4 y1.heap.size 24 (([] : List Value) ++ (([Value.bool false, Value.slice none 0 0] : List Value) ++ [])).toArray) := hz4
            have HG_4 : Hid (w.heap.size ≤ y1.heap.size) := HB_1.out.size
            have HGG_4 : Hid (w.heap.size + 1 < y1.heap.size) := HKk_1.out.lt
            refine hK.out _ _ (⟨BlkIs.range HRr_4.out, BlkIs.range HKk_4.out⟩) (fun hH => ?_)
            clear hK hb4
            refine wpAnyH_ready (rs := [5]) (by kernel_rfl) (by simp) ?_
            refine AllReadyH.cons rfl (fun K hK => ?_) AllReadyH.nil
            go_simp
            go_at_call 7
            refine (HV1.out y4 _ _ _ HB_4.out HO_4.out).mono ?_
            rintro e y5 ⟨hb5, Av, cv, rfl, hov⟩
            have HB_5 : Hid (Below w.heap.size w y5) := HB_4.out.trans (hb5.mono HB_4.out.size)
            have HKk_5 : Hid (BlkB y5 (w.heap.size + 1) 31 ks) := BlkIs.below HKk_4.out hb5
            have HRr_5 : Hid (BlkB y5 w.heap.size 29 rs) := BlkIs.below HRr_4.out hb5
            have HO_5 : Hid (OwnU y5 w0.heap.size (.slice Ac xs.length cc) xs) := HO_4.out.below hb5
            have HA_5 : Hid (BlkIs y5 y1.heap.size 24 (([] : List Value) ++ (([Value.bool false, Value.slice none 0 0] : List Value) ++ [])).toArray) := BlkIs.below HA_4.out hb5
            have HG_5 : Hid (w.heap.size ≤ y1.heap.size) := HG_4.out
            have HGG_5 : Hid (w.heap.size + 1 < y1.heap.size) := HGG_4.out
            have HV_5 : Hid (OwnU y5 y4.heap.size (.slice Av (ansV q1 xs).length cv) (ansV q1 xs)) := hov
            have HL_5 : Hid (w.heap.size + 1 < y4.heap.size) := HKk_4.out.lt
            refine hK.out _ _ (⟨BlkIs.range HRr_5.out, BlkIs.range HKk_5.out⟩) (fun hH => ?_)
            clear hK hb5
            refine wpAnyH_take (i := 6) (oi := ⟨some 70, _, _, _, _, _⟩) rfl (by kernel_rfl) (by kernel_rfl) (by kernel_rfl) (fun _ _ _ h => h) (Or.inl ⟨by rfl, fun w hw => by ((try dsimp only at hw); go_split_ands; go_simp; with_reducible rfl)⟩) (by assumption) ?_
            try simp only [Act.put, List.setIfInBounds_toArray, List.set_cons_zero, List.set_cons_succ]
            refine wpAnyH_take (i := 7) (oi := ⟨some 77, _, _, _, _, _⟩) rfl (by kernel_rfl) (by kernel_rfl) (by kernel_rfl) (fun _ _ _ h => h) (Or.inl ⟨by rfl, fun w hw => by ((try dsimp only at hw); go_split_ands; go_simp; with_reducible rfl)⟩) (by assumption) ?_
            try simp only [Act.put, List.setIfInBounds_toArray, List.set_cons_zero, List.set_cons_succ]
            refine wpAnyH_take (i := 8) (oi := ⟨some 78, _, _, _, _, _⟩) rfl (by kernel_rfl) (by kernel_rfl) (by kernel_rfl) (fun _ _ _ h => h) (Or.inl ⟨by rfl, fun w hw => by ((try dsimp only at hw); go_split_ands; go_simp; with_reducible rfl)⟩) (by assumption) ?_
            try simp only [Act.put, List.setIfInBounds_toArray, List.set_cons_zero, List.set_cons_succ]
            refine wpAnyH_ready (rs := [10]) (by kernel_rfl) (by simp) ?_
            refine AllReadyH.cons (o := ⟨none, _, _, _, _, _⟩) rfl (fun K hK => ?_) AllReadyH.nil
            refine wpOp_store_part (o := ⟨none, _, _, _, _, _⟩) (by rfl) 24 (.tmp 16) (.tmp 77) rfl 0 [] [.bool false, .slice none 0 0] [.bool (ansF q1 xs), .slice Av (ansV q1 xs).length cv] [] rfl rfl HA_5.out rfl rfl (by rw [size_ans]; rfl) (by intro u hu; simp at hu; rcases hu with rfl | rfl <;> rfl) ?_
            intro z1 hz1 gz1
            have HBz : Hid (Below w.heap.size w z1) := HB_5.out.grown gz1 HB_5.out.size fun k hk => by injection hk with hk; have := HG_5.out; omega
            have hne : y1.heap.size ≠ w.heap.size ∧ y1.heap.size ≠ w.heap.size + 1 := by have h5 := HGG_5.out; omega
            have HKz : Hid (BlkB z1 (w.heap.size + 1) 31 ks) := (Touch.one gz1).blk HKk_5.out (Ne.symm hne.2)
            have HRz : Hid (BlkB z1 w.heap.size 29 rs) := (Touch.one gz1).blk HRr_5.out (Ne.symm hne.1)
            have HVz : Hid (OwnU z1 w.heap.size (.slice Av (ansV q1 xs).length cv) (ansV q1 xs)) := ((Touch.one gz1).own HV_5.out fun B hB e => row_blk HV_5.out.1 HA_5.out (by decide) (by rw [hB, e])).mono (by have := HL_5.out; omega)
            refine hK.out _ _ ⟨BlkIs.range HRz.out, BlkIs.range HKz.out⟩ (fun hH => ?_)
            clear hK hne
            refine wpAnyH_take (i := 11) (oi := ⟨some 17, _, _, _, _, _⟩) rfl (by kernel_rfl) (by kernel_rfl) (by kernel_rfl) (fun _ _ _ h => h) (Or.inl ⟨by rfl, fun w hw => by ((try dsimp only at hw); go_split_ands; go_simp; with_reducible rfl)⟩) (by assumption) ?_
            try simp only [Act.put, List.setIfInBounds_toArray, List.set_cons_zero, List.set_cons_succ]
            refine wpAnyH_done (by kernel_rfl) ?_ _
            go_wp2_with fail
            go_meet
            case rel => exact ⟨y1.heap.size, Av, cv, rfl, rfl, HBz.out, HRz.out, HKz.out, hz1, HVz.out⟩
        · refine wpOp_alloc (o := ⟨some 16, _, _, _, _, _⟩) (by rfl) 24 rfl _ _ info_ans ?_
          intro y6 hz6 hb6 hs6
          have hb6 := hb6.out
          have HB_6 : Hid (Below w.heap.size w y6) := HB0.out.trans (hb6.mono HB0.out.size)
          have HKk_6 : Hid (BlkB y6 (w.heap.size + 1) 31 ks) := BlkIs.below HK0.out hb6
          have HRr_6 : Hid (BlkB y6 w.heap.size 29 rs) := BlkIs.below HR0.out hb6
          have HA_6 : Hid (BlkIs y6 w0.heap.size 24 (([] : List Value) ++ (([Value.bool false, Value.slice none 0 0] : List Value) ++ [])).toArray) := hz6
          have HG_6 : Hid (w.heap.size ≤ w0.heap.size) := HB0.out.size
          have HGG_6 : Hid (w.heap.size + 1 < w0.heap.size) := HK0.out.lt
          refine hK.out _ _ (⟨BlkIs.range HRr_6.out, BlkIs.range HKk_6.out⟩) (fun hH => ?_)
          clear hK hb6
          refine wpAnyH_ready (rs := [4]) (by kernel_rfl) (by simp) ?_
          refine AllReadyH.cons rfl (fun K hK => ?_) AllReadyH.nil
          go_simp
          go_at_call 16
          refine (HC1.out y6 HB_6.out).mono ?_
          rintro e y7 ⟨Ac, cc, rfl, hoc, hb7⟩
          have HB_7 : Hid (Below w.heap.size w y7) := HB_6.out.trans (hb7.mono HB_6.out.size)
          have HKk_7 : Hid (BlkB y7 (w.heap.size + 1) 31 ks) := BlkIs.below HKk_6.out hb7
          have HRr_7 : Hid (BlkB y7 w.heap.size 29 rs) := BlkIs.below HRr_6.out hb7
          have HA_7 : Hid (BlkIs y7 w0.heap.size 24 (([] : List Value) ++ (([Value.bool false, Value.slice none 0 0] : List Value) ++ [])).toArray) := BlkIs.below HA_6.out hb7
          have HG_7 : Hid (w.heap.size ≤ w0.heap.size) := HG_6.out
          have HGG_7 : Hid (w.heap.size + 1 < w0.heap.size) := HGG_6.out
          have HO_7 : Hid (OwnU y7 y6.heap.size (.slice Ac xs.length cc) xs) := hoc
          refine hK.out _ _ (⟨BlkIs.range HRr_7.out, BlkIs.range HKk_7.out⟩) (fun hH => ?_)
          clear hK hb7
          refine wpAnyH_ready (rs := [5]) (by kernel_rfl) (by simp) ?_
          refine AllReadyH.cons rfl (fun K hK => ?_) AllReadyH.nil
          go_simp
          go_at_call 7
          refine (HV1.out y7 _ _ _ HB_7.out HO_7.out).mono ?_
          rintro e y8 ⟨hb8, Av, cv, rfl, hov⟩
          have HB_8 : Hid (Below w.heap.size w y8) := HB_7.out.trans (hb8.mono HB_7.out.size)
          have HKk_8 : Hid (BlkB y8 (w.heap.size + 1) 31 ks) := BlkIs.below HKk_7.out hb8
          have HRr_8 : Hid (BlkB y8 w.heap.size 29 rs) := BlkIs.below HRr_7.out hb8
          have HA_8 : Hid (BlkIs y8 w0.heap.size 24 (([] : List Value) ++ (([Value.bool false, Value.slice none 0 0] : List Value) ++ [])).toArray) := BlkIs.below HA_7.out hb8
          have HG_8 : Hid (w.heap.size ≤ w0.heap.size) := HG_7.out
          have HGG_8 : Hid (w.heap.size + 1 < w0.heap.size) := HGG_7.out
          have HO_8 : Hid (OwnU y8 y6.heap.size (.slice Ac xs.length cc) xs) := HO_7.out.below hb8
          have HV_8 : Hid (OwnU y8 y7.heap.size (.slice Av (ansV q1 xs).length cv) (ansV q1 xs)) := hov
          have HL_8 : Hid (w.heap.size + 1 < y7.heap.size) := HKk_7.out.lt
          refine hK.out _ _ (⟨BlkIs.range HRr_8.out, BlkIs.range HKk_8.out⟩) (fun hH => ?_)
          clear hK hb8
          refine wpAnyH_take (i := 6) (oi := ⟨some 70, _, _, _, _, _⟩) rfl (by kernel_rfl) (by kernel_rfl) (by kernel_rfl) (fun _ _ _ h => h) (Or.inl ⟨by rfl, fun w hw => by ((try dsimp only at hw); go_split_ands; go_simp; with_reducible rfl)⟩) (by assumption) ?_
          try simp only [Act.put, List.setIfInBounds_toArray, List.set_cons_zero, List.set_cons_succ]
          refine wpAnyH_take (i := 7) (oi := ⟨some 77, _, _, _, _, _⟩) rfl (by kernel_rfl) (by kernel_rfl) (by kernel_rfl) (fun _ _ _ h => h) (Or.inl ⟨by rfl, fun w hw => by ((try dsimp only at hw); go_split_ands; go_simp; with_reducible rfl)⟩) (by assumption) ?_
          try simp only [Act.put, List.setIfInBounds_toArray, List.set_cons_zero, List.set_cons_succ]
          refine wpAnyH_take (i := 8) (oi := ⟨some 78, _, _, _, _, _⟩) rfl (by kernel_rfl) (by kernel_rfl) (by kernel_rfl) (fun _ _ _ h => h) (Or.inl ⟨by rfl, fun w hw => by ((try dsimp only at hw); go_split_ands; go_simp; with_reducible rfl)⟩) (by assumption) ?_
          try simp only [Act.put, List.setIfInBounds_toArray, List.set_cons_zero, List.set_cons_succ]
          refine wpAnyH_ready (rs := [10]) (by kernel_rfl) (by simp) ?_
          refine AllReadyH.cons (o := ⟨none, _, _, _, _, _⟩) rfl (fun K hK => ?_) AllReadyH.nil
          refine wpOp_store_part (o := ⟨none, _, _, _, _, _⟩) (by rfl) 24 (.tmp 16) (.tmp 77) rfl 0 [] [.bool false, .slice none 0 0] [.bool (ansF q1 xs), .slice Av (ansV q1 xs).length cv] [] rfl rfl HA_8.out rfl rfl (by rw [size_ans]; rfl) (by intro u hu; simp at hu; rcases hu with rfl | rfl <;> rfl) ?_
          intro z1 hz1 gz1
          have HBz : Hid (Below w.heap.size w z1) := HB_8.out.grown gz1 HB_8.out.size fun k hk => by injection hk with hk; have := HG_8.out; omega
          have hne : w0.heap.size ≠ w.heap.size ∧ w0.heap.size ≠ w.heap.size + 1 := by have h5 := HGG_8.out; omega
          have HKz : Hid (BlkB z1 (w.heap.size + 1) 31 ks) := (Touch.one gz1).blk HKk_8.out (Ne.symm hne.2)
          have HRz : Hid (BlkB z1 w.heap.size 29 rs) := (Touch.one gz1).blk HRr_8.out (Ne.symm hne.1)
          have HVz : Hid (OwnU z1 w.heap.size (.slice Av (ansV q1 xs).length cv) (ansV q1 xs)) := ((Touch.one gz1).own HV_8.out fun B hB e => row_blk HV_8.out.1 HA_8.out (by decide) (by rw [hB, e])).mono (by have := HL_8.out; omega)
          refine hK.out _ _ ⟨BlkIs.range HRz.out, BlkIs.range HKz.out⟩ (fun hH => ?_)
          clear hK hne
          refine wpAnyH_take (i := 11) (oi := ⟨some 17, _, _, _, _, _⟩) rfl (by kernel_rfl) (by kernel_rfl) (by kernel_rfl) (fun _ _ _ h => h) (Or.inl ⟨by rfl, fun w hw => by ((try dsimp only at hw); go_split_ands; go_simp; with_reducible rfl)⟩) (by assumption) ?_
          try simp only [Act.put, List.setIfInBounds_toArray, List.set_cons_zero, List.set_cons_succ]
          refine wpAnyH_done (by kernel_rfl) ?_ _
          go_wp2_with fail
          go_meet
          case rel => exact ⟨w0.heap.size, Av, cv, rfl, rfl, HBz.out, HRz.out, HKz.out, hz1, HVz.out⟩
      case rest =>
        obtain ⟨B1, A1, c1, rfl, rfl, HB4, HR4, HK4, HE4, HF4⟩ := hcut
        obtain ⟨w4, rfl⟩ : ∃ x, x = wc := ⟨_, rfl⟩
        clear HR3 HK3 HB3
        have HL1 : Hid (B1 < w4.heap.size) := BlkIs.lt HE4.out
        have HL2 : Hid (∀ B, (Value.slice A1 (ansV q1 xs).length c1).ownBlock = some B → B < w4.heap.size) := fun B hB => (HF4.out.lt B hB).2
        go_upto_region 8 with fail
        go_cut [18, 19] from 23 (fun s18 s19 wx => ∃ (B : Nat) (Av : Option Addr) (cv : Nat), s18 = .pointer (some ⟨B, 0, none⟩) ∧ s19 = .int .i64 (q2 : Nat) ∧ Hid (Below w.heap.size w wx) ∧ Hid (BlkB wx w.heap.size 29 rs) ∧ Hid (BlkB wx (w.heap.size + 1) 31 ks) ∧ Hid (BlkIs wx B 24 #[.bool (ansF q2 ys), .slice Av (ansV q2 ys).length cv]) ∧ Hid (OwnU wx w.heap.size (.slice Av (ansV q2 ys).length cv) (ansV q2 ys)) ∧ Hid (BlkIs wx B1 24 #[.bool (ansF q1 xs), .slice A1 (ansV q1 xs).length c1]) ∧ Hid (OwnU wx w.heap.size (.slice A1 (ansV q1 xs).length c1) (ansV q1 xs)))
        case first =>
          have hu := und_dig
          have huk := und_key
          have hszk : (Tryd.prog.info? 31).map (·.size) = some (bvs ks).length := by rw [size_key]; simp [bvs, HKL.out.1]
          have hszr : (Tryd.prog.info? 29).map (·.size) = some (bvs rs).length := by rw [size_dig]; simp [bvs, HRL.out.1]
          refine wp_region_held_drew (S := fun w' => w'.rangeAt w.heap.size 0 (bvs rs) ∧ w'.rangeAt (w.heap.size + 1) 0 (bvs ks)) (by kernel_rfl) ⟨BlkIs.range (BlkIs.drew HR4.out), BlkIs.range (BlkIs.drew HK4.out)⟩ fun hH => ?_
          have HB0 : Hid (Below w.heap.size w w4.drew) := drewN_below HB4.out 1
          have HK0 : Hid (BlkB w4.drew (w.heap.size + 1) 31 ks) := HK4
          have HR0 : Hid (BlkB w4.drew w.heap.size 29 rs) := HR4
          have HE0 : Hid (BlkIs w4.drew B1 24 #[.bool (ansF q1 xs), .slice A1 (ansV q1 xs).length c1]) := HE4
          have HF0 : Hid (OwnU w4.drew w.heap.size (.slice A1 (ansV q1 xs).length c1) (ansV q1 xs)) := HF4
          have HQ4 : Hid (w4.heap.size ≤ w4.drew.heap.size) := Nat.le_refl _
          obtain ⟨N4, HN4⟩ : ∃ N4, Hid (N4 = w4.heap.size) := ⟨_, rfl⟩
          rw [← HN4.out] at HQ4 HL1 HL2
          generalize w4.drew = w0 at *
          refine wpAnyH_take (i := 0) (oi := ⟨some 80, _, _, _, _, _⟩) rfl (by kernel_rfl) (by kernel_rfl) (by kernel_rfl) (fun _ _ _ h => h) (Or.inl ⟨by rfl, fun w hw => by ((try dsimp only at hw); go_split_ands; go_simp; with_reducible rfl)⟩) (by assumption) ?_
          try simp only [Act.put, List.setIfInBounds_toArray, List.set_cons_zero, List.set_cons_succ]
          refine wpAnyH_take (i := 1) (oi := ⟨some 81, _, _, _, _, _⟩) rfl (by kernel_rfl) (by kernel_rfl) (by kernel_rfl) (fun _ _ _ h => h) (yieldsIf_load_mid (by rfl) _ _ rfl _ _ rfl _ _ (fun w hw => by (try dsimp only at hw); go_split_ands; assumption) (by assumption) rfl (by assumption)) (by assumption) ?_
          try simp only [Act.put, List.setIfInBounds_toArray, List.set_cons_zero, List.set_cons_succ]
          refine wpAnyH_take (i := 2) (oi := ⟨some 82, _, _, _, _, _⟩) rfl (by kernel_rfl) (by kernel_rfl) (by kernel_rfl) (fun _ _ _ h => h) (yieldsIf_load_mid (by rfl) _ _ rfl _ _ rfl _ _ (fun w hw => by (try dsimp only at hw); go_split_ands; assumption) (by assumption) rfl (by assumption)) (by assumption) ?_
          try simp only [Act.put, List.setIfInBounds_toArray, List.set_cons_zero, List.set_cons_succ]
          refine wpAnyH_take (i := 3) (oi := ⟨some 83, _, _, _, _, _⟩) rfl (by kernel_rfl) (by kernel_rfl) (by kernel_rfl) (fun _ _ _ h => h) (Or.inl ⟨by rfl, fun w hw => by ((try dsimp only at hw); go_split_ands; go_simp; with_reducible rfl)⟩) (by assumption) ?_
          try simp only [Act.put, List.setIfInBounds_toArray, List.set_cons_zero, List.set_cons_succ]
          refine wpAnyH_ready (rs := [4, 9]) (by kernel_rfl) (by simp) ?_
          refine AllReadyH.cons rfl (fun K hK => ?_) (AllReadyH.cons rfl (fun K hK => ?_) AllReadyH.nil)
          · go_simp
            go_at_call 16
            refine (HC2.out w0 HB0.out).mono ?_
            rintro e y1 ⟨Ac, cc, rfl, hoc, hb1⟩
            have HB_1 : Hid (Below w.heap.size w y1) := HB0.out.trans (hb1.mono HB0.out.size)
            have HKk_1 : Hid (BlkB y1 (w.heap.size + 1) 31 ks) := BlkIs.below HK0.out hb1
            have HRr_1 : Hid (BlkB y1 w.heap.size 29 rs) := BlkIs.below HR0.out hb1
            have HE_1 : Hid (BlkIs y1 B1 24 #[.bool (ansF q1 xs), .slice A1 (ansV q1 xs).length c1]) := BlkIs.below HE0.out hb1
            have HFr_1 : Hid (OwnU y1 w.heap.size (.slice A1 (ansV q1 xs).length c1) (ansV q1 xs)) := HF0.out.below hb1
            have HQ_1 : Hid (N4 ≤ y1.heap.size) := Nat.le_trans HQ4.out hb1.size
            have HO_1 : Hid (OwnU y1 w0.heap.size (.slice Ac ys.length cc) ys) := hoc
            refine hK.out _ _ (⟨BlkIs.range HRr_1.out, BlkIs.range HKk_1.out⟩) (fun hH => ?_)
            clear hK hb1
            refine wpAnyH_ready (rs := [5, 9]) (by kernel_rfl) (by simp) ?_
            refine AllReadyH.cons rfl (fun K hK => ?_) (AllReadyH.cons rfl (fun K hK => ?_) AllReadyH.nil)
            · go_simp
              go_at_call 7
              refine (HV2.out y1 _ _ _ HB_1.out HO_1.out).mono ?_
              rintro e y2 ⟨hb2, Av, cv, rfl, hov⟩
              have HB_2 : Hid (Below w.heap.size w y2) := HB_1.out.trans (hb2.mono HB_1.out.size)
              have HKk_2 : Hid (BlkB y2 (w.heap.size + 1) 31 ks) := BlkIs.below HKk_1.out hb2
              have HRr_2 : Hid (BlkB y2 w.heap.size 29 rs) := BlkIs.below HRr_1.out hb2
              have HE_2 : Hid (BlkIs y2 B1 24 #[.bool (ansF q1 xs), .slice A1 (ansV q1 xs).length c1]) := BlkIs.below HE_1.out hb2
              have HFr_2 : Hid (OwnU y2 w.heap.size (.slice A1 (ansV q1 xs).length c1) (ansV q1 xs)) := HFr_1.out.below hb2
              have HQ_2 : Hid (N4 ≤ y2.heap.size) := Nat.le_trans HQ_1.out hb2.size
              have HO_2 : Hid (OwnU y2 w0.heap.size (.slice Ac ys.length cc) ys) := HO_1.out.below hb2
              have HV_2 : Hid (OwnU y2 y1.heap.size (.slice Av (ansV q2 ys).length cv) (ansV q2 ys)) := hov
              have HL_2 : Hid (w.heap.size + 1 < y1.heap.size) := HKk_1.out.lt
              refine hK.out _ _ (⟨BlkIs.range HRr_2.out, BlkIs.range HKk_2.out⟩) (fun hH => ?_)
              clear hK hb2
              refine wpAnyH_take (i := 6) (oi := ⟨some 79, _, _, _, _, _⟩) rfl (by kernel_rfl) (by kernel_rfl) (by kernel_rfl) (fun _ _ _ h => h) (Or.inl ⟨by rfl, fun w hw => by ((try dsimp only at hw); go_split_ands; go_simp; with_reducible rfl)⟩) (by assumption) ?_
              try simp only [Act.put, List.setIfInBounds_toArray, List.set_cons_zero, List.set_cons_succ]
              refine wpAnyH_take (i := 7) (oi := ⟨some 86, _, _, _, _, _⟩) rfl (by kernel_rfl) (by kernel_rfl) (by kernel_rfl) (fun _ _ _ h => h) (Or.inl ⟨by rfl, fun w hw => by ((try dsimp only at hw); go_split_ands; go_simp; with_reducible rfl)⟩) (by assumption) ?_
              try simp only [Act.put, List.setIfInBounds_toArray, List.set_cons_zero, List.set_cons_succ]
              refine wpAnyH_take (i := 8) (oi := ⟨some 87, _, _, _, _, _⟩) rfl (by kernel_rfl) (by kernel_rfl) (by kernel_rfl) (fun _ _ _ h => h) (Or.inl ⟨by rfl, fun w hw => by ((try dsimp only at hw); go_split_ands; go_simp; with_reducible rfl)⟩) (by assumption) ?_
              try simp only [Act.put, List.setIfInBounds_toArray, List.set_cons_zero, List.set_cons_succ]
              refine wpAnyH_ready (rs := [9]) (by kernel_rfl) (by simp) ?_
              refine AllReadyH.cons rfl (fun K hK => ?_) AllReadyH.nil
              refine wpOp_alloc (o := ⟨some 18, _, _, _, _, _⟩) (by rfl) 24 rfl _ _ info_ans ?_
              intro y3 hz3 hb3 hs3
              have hb3 := hb3.out
              have HB_3 : Hid (Below w.heap.size w y3) := HB_2.out.trans (hb3.mono HB_2.out.size)
              have HKk_3 : Hid (BlkB y3 (w.heap.size + 1) 31 ks) := BlkIs.below HKk_2.out hb3
              have HRr_3 : Hid (BlkB y3 w.heap.size 29 rs) := BlkIs.below HRr_2.out hb3
              have HE_3 : Hid (BlkIs y3 B1 24 #[.bool (ansF q1 xs), .slice A1 (ansV q1 xs).length c1]) := BlkIs.below HE_2.out hb3
              have HFr_3 : Hid (OwnU y3 w.heap.size (.slice A1 (ansV q1 xs).length c1) (ansV q1 xs)) := HFr_2.out.below hb3
              have HQ_3 : Hid (N4 ≤ y3.heap.size) := Nat.le_trans HQ_2.out hb3.size
              have HO_3 : Hid (OwnU y3 w0.heap.size (.slice Ac ys.length cc) ys) := HO_2.out.below hb3
              have HV_3 : Hid (OwnU y3 y1.heap.size (.slice Av (ansV q2 ys).length cv) (ansV q2 ys)) := HV_2.out.below hb3
              have HL_3 : Hid (w.heap.size + 1 < y1.heap.size) := HL_2.out
              have HA_3 : Hid (BlkIs y3 y2.heap.size 24 (([] : List Value) ++ (([Value.bool false, Value.slice none 0 0] : List Value) ++ [])).toArray) := hz3
              have HG_3 : Hid (w.heap.size ≤ y2.heap.size) := HB_2.out.size
              have HGG_3 : Hid (w.heap.size + 1 < y2.heap.size) := HKk_2.out.lt
              have HGE_3 : Hid (N4 ≤ y2.heap.size) := HQ_2.out
              refine hK.out _ _ (⟨BlkIs.range HRr_3.out, BlkIs.range HKk_3.out⟩) (fun hH => ?_)
              clear hK hb3
              refine wpAnyH_ready (rs := [10]) (by kernel_rfl) (by simp) ?_
              refine AllReadyH.cons (o := ⟨none, _, _, _, _, _⟩) rfl (fun K hK => ?_) AllReadyH.nil
              refine wpOp_store_part (o := ⟨none, _, _, _, _, _⟩) (by rfl) 24 (.tmp 18) (.tmp 86) rfl 0 [] [.bool false, .slice none 0 0] [.bool (ansF q2 ys), .slice Av (ansV q2 ys).length cv] [] rfl rfl HA_3.out rfl rfl (by rw [size_ans]; rfl) (by intro u hu; simp at hu; rcases hu with rfl | rfl <;> rfl) ?_
              intro z1 hz1 gz1
              have HBz : Hid (Below w.heap.size w z1) := HB_3.out.grown gz1 HB_3.out.size fun k hk => by injection hk with hk; have := HG_3.out; omega
              have hne : y2.heap.size ≠ w.heap.size ∧ y2.heap.size ≠ w.heap.size + 1 := by have h5 := HGG_3.out; omega
              have HKz : Hid (BlkB z1 (w.heap.size + 1) 31 ks) := (Touch.one gz1).blk HKk_3.out (Ne.symm hne.2)
              have HRz : Hid (BlkB z1 w.heap.size 29 rs) := (Touch.one gz1).blk HRr_3.out (Ne.symm hne.1)
              have HVz : Hid (OwnU z1 w.heap.size (.slice Av (ansV q2 ys).length cv) (ansV q2 ys)) := ((Touch.one gz1).own HV_3.out fun B hB e => row_blk HV_3.out.1 HA_3.out (by decide) (by rw [hB, e])).mono (by have := HL_3.out; omega)
              have HEz : Hid (BlkIs z1 B1 24 #[.bool (ansF q1 xs), .slice A1 (ansV q1 xs).length c1]) := (Touch.one gz1).blk HE_3.out (by have h1 := HL1.out; have h2 := HGE_3.out; omega)
              have HFz : Hid (OwnU z1 w.heap.size (.slice A1 (ansV q1 xs).length c1) (ansV q1 xs)) := (Touch.one gz1).own HFr_3.out fun B hB e => by have h1 := HL2.out B hB; have h2 := HGE_3.out; omega
              refine hK.out _ _ ⟨BlkIs.range HRz.out, BlkIs.range HKz.out⟩ (fun hH => ?_)
              clear hK hne
              refine wpAnyH_take (i := 11) (oi := ⟨some 19, _, _, _, _, _⟩) rfl (by kernel_rfl) (by kernel_rfl) (by kernel_rfl) (fun _ _ _ h => h) (Or.inl ⟨by rfl, fun w hw => by ((try dsimp only at hw); go_split_ands; go_simp; with_reducible rfl)⟩) (by assumption) ?_
              try simp only [Act.put, List.setIfInBounds_toArray, List.set_cons_zero, List.set_cons_succ]
              refine wpAnyH_done (by kernel_rfl) ?_ _
              go_wp2_with fail
              go_meet
              case rel => exact ⟨y2.heap.size, Av, cv, rfl, rfl, HBz.out, HRz.out, HKz.out, hz1, HVz.out, HEz.out, HFz.out⟩
            · refine wpOp_alloc (o := ⟨some 18, _, _, _, _, _⟩) (by rfl) 24 rfl _ _ info_ans ?_
              intro y4 hz4 hb4 hs4
              have hb4 := hb4.out
              have HB_4 : Hid (Below w.heap.size w y4) := HB_1.out.trans (hb4.mono HB_1.out.size)
              have HKk_4 : Hid (BlkB y4 (w.heap.size + 1) 31 ks) := BlkIs.below HKk_1.out hb4
              have HRr_4 : Hid (BlkB y4 w.heap.size 29 rs) := BlkIs.below HRr_1.out hb4
              have HE_4 : Hid (BlkIs y4 B1 24 #[.bool (ansF q1 xs), .slice A1 (ansV q1 xs).length c1]) := BlkIs.below HE_1.out hb4
              have HFr_4 : Hid (OwnU y4 w.heap.size (.slice A1 (ansV q1 xs).length c1) (ansV q1 xs)) := HFr_1.out.below hb4
              have HQ_4 : Hid (N4 ≤ y4.heap.size) := Nat.le_trans HQ_1.out hb4.size
              have HO_4 : Hid (OwnU y4 w0.heap.size (.slice Ac ys.length cc) ys) := HO_1.out.below hb4
              have HA_4 : Hid (BlkIs y4 y1.heap.size 24 (([] : List Value) ++ (([Value.bool false, Value.slice none 0 0] : List Value) ++ [])).toArray) := hz4
              have HG_4 : Hid (w.heap.size ≤ y1.heap.size) := HB_1.out.size
              have HGG_4 : Hid (w.heap.size + 1 < y1.heap.size) := HKk_1.out.lt
              have HGE_4 : Hid (N4 ≤ y1.heap.size) := HQ_1.out
              refine hK.out _ _ (⟨BlkIs.range HRr_4.out, BlkIs.range HKk_4.out⟩) (fun hH => ?_)
              clear hK hb4
              refine wpAnyH_ready (rs := [5]) (by kernel_rfl) (by simp) ?_
              refine AllReadyH.cons rfl (fun K hK => ?_) AllReadyH.nil
              go_simp
              go_at_call 7
              refine (HV2.out y4 _ _ _ HB_4.out HO_4.out).mono ?_
              rintro e y5 ⟨hb5, Av, cv, rfl, hov⟩
              have HB_5 : Hid (Below w.heap.size w y5) := HB_4.out.trans (hb5.mono HB_4.out.size)
              have HKk_5 : Hid (BlkB y5 (w.heap.size + 1) 31 ks) := BlkIs.below HKk_4.out hb5
              have HRr_5 : Hid (BlkB y5 w.heap.size 29 rs) := BlkIs.below HRr_4.out hb5
              have HE_5 : Hid (BlkIs y5 B1 24 #[.bool (ansF q1 xs), .slice A1 (ansV q1 xs).length c1]) := BlkIs.below HE_4.out hb5
              have HFr_5 : Hid (OwnU y5 w.heap.size (.slice A1 (ansV q1 xs).length c1) (ansV q1 xs)) := HFr_4.out.below hb5
              have HQ_5 : Hid (N4 ≤ y5.heap.size) := Nat.le_trans HQ_4.out hb5.size
              have HO_5 : Hid (OwnU y5 w0.heap.size (.slice Ac ys.length cc) ys) := HO_4.out.below hb5
              have HA_5 : Hid (BlkIs y5 y1.heap.size 24 (([] : List Value) ++ (([Value.bool false, Value.slice none 0 0] : List Value) ++ [])).toArray) := BlkIs.below HA_4.out hb5
              have HG_5 : Hid (w.heap.size ≤ y1.heap.size) := HG_4.out
              have HGG_5 : Hid (w.heap.size + 1 < y1.heap.size) := HGG_4.out
              have HGE_5 : Hid (N4 ≤ y1.heap.size) := HGE_4.out
              have HV_5 : Hid (OwnU y5 y4.heap.size (.slice Av (ansV q2 ys).length cv) (ansV q2 ys)) := hov
              have HL_5 : Hid (w.heap.size + 1 < y4.heap.size) := HKk_4.out.lt
              refine hK.out _ _ (⟨BlkIs.range HRr_5.out, BlkIs.range HKk_5.out⟩) (fun hH => ?_)
              clear hK hb5
              refine wpAnyH_take (i := 6) (oi := ⟨some 79, _, _, _, _, _⟩) rfl (by kernel_rfl) (by kernel_rfl) (by kernel_rfl) (fun _ _ _ h => h) (Or.inl ⟨by rfl, fun w hw => by ((try dsimp only at hw); go_split_ands; go_simp; with_reducible rfl)⟩) (by assumption) ?_
              try simp only [Act.put, List.setIfInBounds_toArray, List.set_cons_zero, List.set_cons_succ]
              refine wpAnyH_take (i := 7) (oi := ⟨some 86, _, _, _, _, _⟩) rfl (by kernel_rfl) (by kernel_rfl) (by kernel_rfl) (fun _ _ _ h => h) (Or.inl ⟨by rfl, fun w hw => by ((try dsimp only at hw); go_split_ands; go_simp; with_reducible rfl)⟩) (by assumption) ?_
              try simp only [Act.put, List.setIfInBounds_toArray, List.set_cons_zero, List.set_cons_succ]
              refine wpAnyH_take (i := 8) (oi := ⟨some 87, _, _, _, _, _⟩) rfl (by kernel_rfl) (by kernel_rfl) (by kernel_rfl) (fun _ _ _ h => h) (Or.inl ⟨by rfl, fun w hw => by ((try dsimp only at hw); go_split_ands; go_simp; with_reducible rfl)⟩) (by assumption) ?_
              try simp only [Act.put, List.setIfInBounds_toArray, List.set_cons_zero, List.set_cons_succ]
              refine wpAnyH_ready (rs := [10]) (by kernel_rfl) (by simp) ?_
              refine AllReadyH.cons (o := ⟨none, _, _, _, _, _⟩) rfl (fun K hK => ?_) AllReadyH.nil
              refine wpOp_store_part (o := ⟨none, _, _, _, _, _⟩) (by rfl) 24 (.tmp 18) (.tmp 86) rfl 0 [] [.bool false, .slice none 0 0] [.bool (ansF q2 ys), .slice Av (ansV q2 ys).length cv] [] rfl rfl HA_5.out rfl rfl (by rw [size_ans]; rfl) (by intro u hu; simp at hu; rcases hu with rfl | rfl <;> rfl) ?_
              intro z1 hz1 gz1
              have HBz : Hid (Below w.heap.size w z1) := HB_5.out.grown gz1 HB_5.out.size fun k hk => by injection hk with hk; have := HG_5.out; omega
              have hne : y1.heap.size ≠ w.heap.size ∧ y1.heap.size ≠ w.heap.size + 1 := by have h5 := HGG_5.out; omega
              have HKz : Hid (BlkB z1 (w.heap.size + 1) 31 ks) := (Touch.one gz1).blk HKk_5.out (Ne.symm hne.2)
              have HRz : Hid (BlkB z1 w.heap.size 29 rs) := (Touch.one gz1).blk HRr_5.out (Ne.symm hne.1)
              have HVz : Hid (OwnU z1 w.heap.size (.slice Av (ansV q2 ys).length cv) (ansV q2 ys)) := ((Touch.one gz1).own HV_5.out fun B hB e => row_blk HV_5.out.1 HA_5.out (by decide) (by rw [hB, e])).mono (by have := HL_5.out; omega)
              have HEz : Hid (BlkIs z1 B1 24 #[.bool (ansF q1 xs), .slice A1 (ansV q1 xs).length c1]) := (Touch.one gz1).blk HE_5.out (by have h1 := HL1.out; have h2 := HGE_5.out; omega)
              have HFz : Hid (OwnU z1 w.heap.size (.slice A1 (ansV q1 xs).length c1) (ansV q1 xs)) := (Touch.one gz1).own HFr_5.out fun B hB e => by have h1 := HL2.out B hB; have h2 := HGE_5.out; omega
              refine hK.out _ _ ⟨BlkIs.range HRz.out, BlkIs.range HKz.out⟩ (fun hH => ?_)
              clear hK hne
              refine wpAnyH_take (i := 11) (oi := ⟨some 19, _, _, _, _, _⟩) rfl (by kernel_rfl) (by kernel_rfl) (by kernel_rfl) (fun _ _ _ h => h) (Or.inl ⟨by rfl, fun w hw => by ((try dsimp only at hw); go_split_ands; go_simp; with_reducible rfl)⟩) (by assumption) ?_
              try simp only [Act.put, List.setIfInBounds_toArray, List.set_cons_zero, List.set_cons_succ]
              refine wpAnyH_done (by kernel_rfl) ?_ _
              go_wp2_with fail
              go_meet
              case rel => exact ⟨y1.heap.size, Av, cv, rfl, rfl, HBz.out, HRz.out, HKz.out, hz1, HVz.out, HEz.out, HFz.out⟩
          · refine wpOp_alloc (o := ⟨some 18, _, _, _, _, _⟩) (by rfl) 24 rfl _ _ info_ans ?_
            intro y6 hz6 hb6 hs6
            have hb6 := hb6.out
            have HB_6 : Hid (Below w.heap.size w y6) := HB0.out.trans (hb6.mono HB0.out.size)
            have HKk_6 : Hid (BlkB y6 (w.heap.size + 1) 31 ks) := BlkIs.below HK0.out hb6
            have HRr_6 : Hid (BlkB y6 w.heap.size 29 rs) := BlkIs.below HR0.out hb6
            have HE_6 : Hid (BlkIs y6 B1 24 #[.bool (ansF q1 xs), .slice A1 (ansV q1 xs).length c1]) := BlkIs.below HE0.out hb6
            have HFr_6 : Hid (OwnU y6 w.heap.size (.slice A1 (ansV q1 xs).length c1) (ansV q1 xs)) := HF0.out.below hb6
            have HQ_6 : Hid (N4 ≤ y6.heap.size) := Nat.le_trans HQ4.out hb6.size
            have HA_6 : Hid (BlkIs y6 w0.heap.size 24 (([] : List Value) ++ (([Value.bool false, Value.slice none 0 0] : List Value) ++ [])).toArray) := hz6
            have HG_6 : Hid (w.heap.size ≤ w0.heap.size) := HB0.out.size
            have HGG_6 : Hid (w.heap.size + 1 < w0.heap.size) := HK0.out.lt
            have HGE_6 : Hid (N4 ≤ w0.heap.size) := HQ4.out
            refine hK.out _ _ (⟨BlkIs.range HRr_6.out, BlkIs.range HKk_6.out⟩) (fun hH => ?_)
            clear hK hb6
            refine wpAnyH_ready (rs := [4]) (by kernel_rfl) (by simp) ?_
            refine AllReadyH.cons rfl (fun K hK => ?_) AllReadyH.nil
            go_simp
            go_at_call 16
            refine (HC2.out y6 HB_6.out).mono ?_
            rintro e y7 ⟨Ac, cc, rfl, hoc, hb7⟩
            have HB_7 : Hid (Below w.heap.size w y7) := HB_6.out.trans (hb7.mono HB_6.out.size)
            have HKk_7 : Hid (BlkB y7 (w.heap.size + 1) 31 ks) := BlkIs.below HKk_6.out hb7
            have HRr_7 : Hid (BlkB y7 w.heap.size 29 rs) := BlkIs.below HRr_6.out hb7
            have HE_7 : Hid (BlkIs y7 B1 24 #[.bool (ansF q1 xs), .slice A1 (ansV q1 xs).length c1]) := BlkIs.below HE_6.out hb7
            have HFr_7 : Hid (OwnU y7 w.heap.size (.slice A1 (ansV q1 xs).length c1) (ansV q1 xs)) := HFr_6.out.below hb7
            have HQ_7 : Hid (N4 ≤ y7.heap.size) := Nat.le_trans HQ_6.out hb7.size
            have HA_7 : Hid (BlkIs y7 w0.heap.size 24 (([] : List Value) ++ (([Value.bool false, Value.slice none 0 0] : List Value) ++ [])).toArray) := BlkIs.below HA_6.out hb7
            have HG_7 : Hid (w.heap.size ≤ w0.heap.size) := HG_6.out
            have HGG_7 : Hid (w.heap.size + 1 < w0.heap.size) := HGG_6.out
            have HGE_7 : Hid (N4 ≤ w0.heap.size) := HGE_6.out
            have HO_7 : Hid (OwnU y7 y6.heap.size (.slice Ac ys.length cc) ys) := hoc
            refine hK.out _ _ (⟨BlkIs.range HRr_7.out, BlkIs.range HKk_7.out⟩) (fun hH => ?_)
            clear hK hb7
            refine wpAnyH_ready (rs := [5]) (by kernel_rfl) (by simp) ?_
            refine AllReadyH.cons rfl (fun K hK => ?_) AllReadyH.nil
            go_simp
            go_at_call 7
            refine (HV2.out y7 _ _ _ HB_7.out HO_7.out).mono ?_
            rintro e y8 ⟨hb8, Av, cv, rfl, hov⟩
            have HB_8 : Hid (Below w.heap.size w y8) := HB_7.out.trans (hb8.mono HB_7.out.size)
            have HKk_8 : Hid (BlkB y8 (w.heap.size + 1) 31 ks) := BlkIs.below HKk_7.out hb8
            have HRr_8 : Hid (BlkB y8 w.heap.size 29 rs) := BlkIs.below HRr_7.out hb8
            have HE_8 : Hid (BlkIs y8 B1 24 #[.bool (ansF q1 xs), .slice A1 (ansV q1 xs).length c1]) := BlkIs.below HE_7.out hb8
            have HFr_8 : Hid (OwnU y8 w.heap.size (.slice A1 (ansV q1 xs).length c1) (ansV q1 xs)) := HFr_7.out.below hb8
            have HQ_8 : Hid (N4 ≤ y8.heap.size) := Nat.le_trans HQ_7.out hb8.size
            have HA_8 : Hid (BlkIs y8 w0.heap.size 24 (([] : List Value) ++ (([Value.bool false, Value.slice none 0 0] : List Value) ++ [])).toArray) := BlkIs.below HA_7.out hb8
            have HG_8 : Hid (w.heap.size ≤ w0.heap.size) := HG_7.out
            have HGG_8 : Hid (w.heap.size + 1 < w0.heap.size) := HGG_7.out
            have HGE_8 : Hid (N4 ≤ w0.heap.size) := HGE_7.out
            have HO_8 : Hid (OwnU y8 y6.heap.size (.slice Ac ys.length cc) ys) := HO_7.out.below hb8
            have HV_8 : Hid (OwnU y8 y7.heap.size (.slice Av (ansV q2 ys).length cv) (ansV q2 ys)) := hov
            have HL_8 : Hid (w.heap.size + 1 < y7.heap.size) := HKk_7.out.lt
            refine hK.out _ _ (⟨BlkIs.range HRr_8.out, BlkIs.range HKk_8.out⟩) (fun hH => ?_)
            clear hK hb8
            refine wpAnyH_take (i := 6) (oi := ⟨some 79, _, _, _, _, _⟩) rfl (by kernel_rfl) (by kernel_rfl) (by kernel_rfl) (fun _ _ _ h => h) (Or.inl ⟨by rfl, fun w hw => by ((try dsimp only at hw); go_split_ands; go_simp; with_reducible rfl)⟩) (by assumption) ?_
            try simp only [Act.put, List.setIfInBounds_toArray, List.set_cons_zero, List.set_cons_succ]
            refine wpAnyH_take (i := 7) (oi := ⟨some 86, _, _, _, _, _⟩) rfl (by kernel_rfl) (by kernel_rfl) (by kernel_rfl) (fun _ _ _ h => h) (Or.inl ⟨by rfl, fun w hw => by ((try dsimp only at hw); go_split_ands; go_simp; with_reducible rfl)⟩) (by assumption) ?_
            try simp only [Act.put, List.setIfInBounds_toArray, List.set_cons_zero, List.set_cons_succ]
            refine wpAnyH_take (i := 8) (oi := ⟨some 87, _, _, _, _, _⟩) rfl (by kernel_rfl) (by kernel_rfl) (by kernel_rfl) (fun _ _ _ h => h) (Or.inl ⟨by rfl, fun w hw => by ((try dsimp only at hw); go_split_ands; go_simp; with_reducible rfl)⟩) (by assumption) ?_
            try simp only [Act.put, List.setIfInBounds_toArray, List.set_cons_zero, List.set_cons_succ]
            refine wpAnyH_ready (rs := [10]) (by kernel_rfl) (by simp) ?_
            refine AllReadyH.cons (o := ⟨none, _, _, _, _, _⟩) rfl (fun K hK => ?_) AllReadyH.nil
            refine wpOp_store_part (o := ⟨none, _, _, _, _, _⟩) (by rfl) 24 (.tmp 18) (.tmp 86) rfl 0 [] [.bool false, .slice none 0 0] [.bool (ansF q2 ys), .slice Av (ansV q2 ys).length cv] [] rfl rfl HA_8.out rfl rfl (by rw [size_ans]; rfl) (by intro u hu; simp at hu; rcases hu with rfl | rfl <;> rfl) ?_
            intro z1 hz1 gz1
            have HBz : Hid (Below w.heap.size w z1) := HB_8.out.grown gz1 HB_8.out.size fun k hk => by injection hk with hk; have := HG_8.out; omega
            have hne : w0.heap.size ≠ w.heap.size ∧ w0.heap.size ≠ w.heap.size + 1 := by have h5 := HGG_8.out; omega
            have HKz : Hid (BlkB z1 (w.heap.size + 1) 31 ks) := (Touch.one gz1).blk HKk_8.out (Ne.symm hne.2)
            have HRz : Hid (BlkB z1 w.heap.size 29 rs) := (Touch.one gz1).blk HRr_8.out (Ne.symm hne.1)
            have HVz : Hid (OwnU z1 w.heap.size (.slice Av (ansV q2 ys).length cv) (ansV q2 ys)) := ((Touch.one gz1).own HV_8.out fun B hB e => row_blk HV_8.out.1 HA_8.out (by decide) (by rw [hB, e])).mono (by have := HL_8.out; omega)
            have HEz : Hid (BlkIs z1 B1 24 #[.bool (ansF q1 xs), .slice A1 (ansV q1 xs).length c1]) := (Touch.one gz1).blk HE_8.out (by have h1 := HL1.out; have h2 := HGE_8.out; omega)
            have HFz : Hid (OwnU z1 w.heap.size (.slice A1 (ansV q1 xs).length c1) (ansV q1 xs)) := (Touch.one gz1).own HFr_8.out fun B hB e => by have h1 := HL2.out B hB; have h2 := HGE_8.out; omega
            refine hK.out _ _ ⟨BlkIs.range HRz.out, BlkIs.range HKz.out⟩ (fun hH => ?_)
            clear hK hne
            refine wpAnyH_take (i := 11) (oi := ⟨some 19, _, _, _, _, _⟩) rfl (by kernel_rfl) (by kernel_rfl) (by kernel_rfl) (fun _ _ _ h => h) (Or.inl ⟨by rfl, fun w hw => by ((try dsimp only at hw); go_split_ands; go_simp; with_reducible rfl)⟩) (by assumption) ?_
            try simp only [Act.put, List.setIfInBounds_toArray, List.set_cons_zero, List.set_cons_succ]
            refine wpAnyH_done (by kernel_rfl) ?_ _
            go_wp2_with fail
            go_meet
            case rel => exact ⟨w0.heap.size, Av, cv, rfl, rfl, HBz.out, HRz.out, HKz.out, hz1, HVz.out, HEz.out, HFz.out⟩
        case rest =>
          obtain ⟨B2, A2', c2, rfl, rfl, HB5, HR5, HK5, HE5, HF5, HE5', HF5'⟩ := hcut
          obtain ⟨w5, rfl⟩ : ∃ x, x = wc := ⟨_, rfl⟩
          clear HR4 HK4 HB4 HE4 HF4 HL1 HL2
          go_upto_region 9 with fail
          go_cut [20, 21, 22] from 23 (fun s20 s21 s22 wx => ∃ (X1 X2 : Value) (ok : Bool), s20 = X1 ∧ s21 = X2 ∧ s22 = .bool ok ∧ Hid (Below w.heap.size w wx) ∧ Hid (BlkIs wx B1 24 #[.bool (ansF q1 xs), .slice A1 (ansV q1 xs).length c1]) ∧ Hid (OwnU wx w.heap.size (.slice A1 (ansV q1 xs).length c1) (ansV q1 xs)) ∧ Hid (BlkIs wx B2 24 #[.bool (ansF q2 ys), .slice A2' (ansV q2 ys).length c2]) ∧ Hid (OwnU wx w.heap.size (.slice A2' (ansV q2 ys).length c2) (ansV q2 ys)) ∧ ExtRes wd q1 q2 xs ys wx X1 X2 ok)
          case first =>
            have hu := und_dig
            have huk := und_key
            have hszk : (Tryd.prog.info? 31).map (·.size) = some (bvs ks).length := by rw [size_key]; simp [bvs, HKL.out.1]
            have hszr : (Tryd.prog.info? 29).map (·.size) = some (bvs rs).length := by rw [size_dig]; simp [bvs, HRL.out.1]
            refine wp_region_held_drew (S := fun w' => w'.rangeAt w.heap.size 0 (bvs rs) ∧ w'.rangeAt (w.heap.size + 1) 0 (bvs ks)) (by kernel_rfl) ⟨BlkIs.range (BlkIs.drew HR5.out), BlkIs.range (BlkIs.drew HK5.out)⟩ fun hH => ?_
            have HB0 : Hid (Below w.heap.size w w5.drew) := drewN_below HB5.out 1
            have HK0 : Hid (BlkB w5.drew (w.heap.size + 1) 31 ks) := HK5
            have HR0 : Hid (BlkB w5.drew w.heap.size 29 rs) := HR5
            have HE0 : Hid (BlkIs w5.drew B1 24 #[.bool (ansF q1 xs), .slice A1 (ansV q1 xs).length c1]) := HE5'
            have HF0 : Hid (OwnU w5.drew w.heap.size (.slice A1 (ansV q1 xs).length c1) (ansV q1 xs)) := HF5'
            have HE1 : Hid (BlkIs w5.drew B2 24 #[.bool (ansF q2 ys), .slice A2' (ansV q2 ys).length c2]) := HE5
            have HF1 : Hid (OwnU w5.drew w.heap.size (.slice A2' (ansV q2 ys).length c2) (ansV q2 ys)) := HF5
            generalize w5.drew = w0 at *
            refine wpAnyH_take (i := 0) (oi := ⟨some 89, _, _, _, _, _⟩) rfl (by kernel_rfl) (by kernel_rfl) (by kernel_rfl) (fun _ _ _ h => h) (Or.inl ⟨by rfl, fun w hw => by ((try dsimp only at hw); go_split_ands; go_simp; with_reducible rfl)⟩) (by assumption) ?_
            try simp only [Act.put, List.setIfInBounds_toArray, List.set_cons_zero, List.set_cons_succ]
            refine wpAnyH_take (i := 1) (oi := ⟨some 90, _, _, _, _, _⟩) rfl (by kernel_rfl) (by kernel_rfl) (by kernel_rfl) (fun _ _ _ h => h) (yieldsIf_load_mid (by rfl) _ _ rfl _ _ rfl _ _ (fun w hw => by (try dsimp only at hw); go_split_ands; assumption) (by assumption) rfl (by assumption)) (by assumption) ?_
            try simp only [Act.put, List.setIfInBounds_toArray, List.set_cons_zero, List.set_cons_succ]
            refine wpAnyH_take (i := 2) (oi := ⟨some 91, _, _, _, _, _⟩) rfl (by kernel_rfl) (by kernel_rfl) (by kernel_rfl) (fun _ _ _ h => h) (yieldsIf_load_mid (by rfl) _ _ rfl _ _ rfl _ _ (fun w hw => by (try dsimp only at hw); go_split_ands; assumption) (by assumption) rfl (by assumption)) (by assumption) ?_
            try simp only [Act.put, List.setIfInBounds_toArray, List.set_cons_zero, List.set_cons_succ]
            refine wpAnyH_take (i := 3) (oi := ⟨some 92, _, _, _, _, _⟩) rfl (by kernel_rfl) (by kernel_rfl) (by kernel_rfl) (fun _ _ _ h => h) (Or.inl ⟨by rfl, fun w hw => by ((try dsimp only at hw); go_split_ands; go_simp; with_reducible rfl)⟩) (by assumption) ?_
            try simp only [Act.put, List.setIfInBounds_toArray, List.set_cons_zero, List.set_cons_succ]
            refine wpAnyH_take (i := 5) (oi := ⟨some 94, _, _, _, _, _⟩) rfl (by kernel_rfl) (by kernel_rfl) (by kernel_rfl) (fun _ _ _ h => h) (Or.inl ⟨by rfl, fun w hw => by ((try dsimp only at hw); go_split_ands; go_simp; with_reducible rfl)⟩) (by assumption) ?_
            try simp only [Act.put, List.setIfInBounds_toArray, List.set_cons_zero, List.set_cons_succ]
            refine wpAnyH_ready (rs := [4]) (by kernel_rfl) (by simp) ?_
            refine AllReadyH.cons rfl (fun K hK => ?_) AllReadyH.nil
            go_simp
            go_at_call 16
            refine (HC1.out w0 HB0.out).mono ?_
            rintro e y1 ⟨Aa, ca, rfl, hocO, hb1⟩
            have HB_1 : Hid (Below w.heap.size w y1) := HB0.out.trans (hb1.mono HB0.out.size)
            have HKk_1 : Hid (BlkB y1 (w.heap.size + 1) 31 ks) := BlkIs.below HK0.out hb1
            have HRr_1 : Hid (BlkB y1 w.heap.size 29 rs) := BlkIs.below HR0.out hb1
            have HE_1 : Hid (BlkIs y1 B1 24 #[.bool (ansF q1 xs), .slice A1 (ansV q1 xs).length c1]) := BlkIs.below HE0.out hb1
            have HFr_1 : Hid (OwnU y1 w.heap.size (.slice A1 (ansV q1 xs).length c1) (ansV q1 xs)) := HF0.out.below hb1
            have HE2_1 : Hid (BlkIs y1 B2 24 #[.bool (ansF q2 ys), .slice A2' (ansV q2 ys).length c2]) := BlkIs.below HE1.out hb1
            have HF2_1 : Hid (OwnU y1 w.heap.size (.slice A2' (ansV q2 ys).length c2) (ansV q2 ys)) := HF1.out.below hb1
            have HO_1 : Hid (OwnU y1 w0.heap.size (.slice Aa xs.length ca) xs) := hocO
            refine hK.out _ _ (⟨BlkIs.range HRr_1.out, BlkIs.range HKk_1.out⟩) (fun hH => ?_)
            clear hK hb1
            refine wpAnyH_ready (rs := [6]) (by kernel_rfl) (by simp) ?_
            refine AllReadyH.cons rfl (fun K hK => ?_) AllReadyH.nil
            go_simp
            go_at_call 16
            refine (HC2.out y1 HB_1.out).mono ?_
            rintro e y2 ⟨Ab, cb, rfl, hocP, hb2⟩
            have HB_2 : Hid (Below w.heap.size w y2) := HB_1.out.trans (hb2.mono HB_1.out.size)
            have HKk_2 : Hid (BlkB y2 (w.heap.size + 1) 31 ks) := BlkIs.below HKk_1.out hb2
            have HRr_2 : Hid (BlkB y2 w.heap.size 29 rs) := BlkIs.below HRr_1.out hb2
            have HE_2 : Hid (BlkIs y2 B1 24 #[.bool (ansF q1 xs), .slice A1 (ansV q1 xs).length c1]) := BlkIs.below HE_1.out hb2
            have HFr_2 : Hid (OwnU y2 w.heap.size (.slice A1 (ansV q1 xs).length c1) (ansV q1 xs)) := HFr_1.out.below hb2
            have HE2_2 : Hid (BlkIs y2 B2 24 #[.bool (ansF q2 ys), .slice A2' (ansV q2 ys).length c2]) := BlkIs.below HE2_1.out hb2
            have HF2_2 : Hid (OwnU y2 w.heap.size (.slice A2' (ansV q2 ys).length c2) (ansV q2 ys)) := HF2_1.out.below hb2
            have HO_2 : Hid (OwnU y2 w0.heap.size (.slice Aa xs.length ca) xs) := HO_1.out.below hb2
            have HP_2 : Hid (OwnU y2 y1.heap.size (.slice Ab ys.length cb) ys) := hocP
            refine hK.out _ _ (⟨BlkIs.range HRr_2.out, BlkIs.range HKk_2.out⟩) (fun hH => ?_)
            clear hK hb2
            refine wpAnyH_ready (rs := [7]) (by kernel_rfl) (by simp) ?_
            refine AllReadyH.cons rfl (fun K hK => ?_) AllReadyH.nil
            go_simp
            go_at_call 15
            refine (HEX.out y2 _ _ _ _ _ _ HB_2.out HO_2.out HP_2.out).mono ?_
            rintro e y3 ⟨hb3, X1, X2, ok, rfl, hres⟩
            have HB_3 : Hid (Below w.heap.size w y3) := HB_2.out.trans (hb3.mono HB_2.out.size)
            have HKk_3 : Hid (BlkB y3 (w.heap.size + 1) 31 ks) := BlkIs.below HKk_2.out hb3
            have HRr_3 : Hid (BlkB y3 w.heap.size 29 rs) := BlkIs.below HRr_2.out hb3
            have HE_3 : Hid (BlkIs y3 B1 24 #[.bool (ansF q1 xs), .slice A1 (ansV q1 xs).length c1]) := BlkIs.below HE_2.out hb3
            have HFr_3 : Hid (OwnU y3 w.heap.size (.slice A1 (ansV q1 xs).length c1) (ansV q1 xs)) := HFr_2.out.below hb3
            have HE2_3 : Hid (BlkIs y3 B2 24 #[.bool (ansF q2 ys), .slice A2' (ansV q2 ys).length c2]) := BlkIs.below HE2_2.out hb3
            have HF2_3 : Hid (OwnU y3 w.heap.size (.slice A2' (ansV q2 ys).length c2) (ansV q2 ys)) := HF2_2.out.below hb3
            have HO_3 : Hid (OwnU y3 w0.heap.size (.slice Aa xs.length ca) xs) := HO_2.out.below hb3
            have HP_3 : Hid (OwnU y3 y1.heap.size (.slice Ab ys.length cb) ys) := HP_2.out.below hb3
            refine hK.out _ _ (⟨BlkIs.range HRr_3.out, BlkIs.range HKk_3.out⟩) (fun hH => ?_)
            clear hK hb3
            refine wpAnyH_take (i := 8) (oi := ⟨some 88, _, _, _, _, _⟩) rfl (by kernel_rfl) (by kernel_rfl) (by kernel_rfl) (fun _ _ _ h => h) (Or.inl ⟨by rfl, fun w hw => by ((try dsimp only at hw); go_split_ands; go_simp; with_reducible rfl)⟩) (by assumption) ?_
            try simp only [Act.put, List.setIfInBounds_toArray, List.set_cons_zero, List.set_cons_succ]
            refine wpAnyH_take (i := 9) (oi := ⟨some 97, _, _, _, _, _⟩) rfl (by kernel_rfl) (by kernel_rfl) (by kernel_rfl) (fun _ _ _ h => h) (Or.inl ⟨by rfl, fun w hw => by ((try dsimp only at hw); go_split_ands; go_simp; with_reducible rfl)⟩) (by assumption) ?_
            try simp only [Act.put, List.setIfInBounds_toArray, List.set_cons_zero, List.set_cons_succ]
            refine wpAnyH_take (i := 10) (oi := ⟨some 98, _, _, _, _, _⟩) rfl (by kernel_rfl) (by kernel_rfl) (by kernel_rfl) (fun _ _ _ h => h) (Or.inl ⟨by rfl, fun w hw => by ((try dsimp only at hw); go_split_ands; go_simp; with_reducible rfl)⟩) (by assumption) ?_
            try simp only [Act.put, List.setIfInBounds_toArray, List.set_cons_zero, List.set_cons_succ]
            refine wpAnyH_take (i := 11) (oi := ⟨some 99, _, _, _, _, _⟩) rfl (by kernel_rfl) (by kernel_rfl) (by kernel_rfl) (fun _ _ _ h => h) (Or.inl ⟨by rfl, fun w hw => by ((try dsimp only at hw); go_split_ands; go_simp; with_reducible rfl)⟩) (by assumption) ?_
            try simp only [Act.put, List.setIfInBounds_toArray, List.set_cons_zero, List.set_cons_succ]
            refine wpAnyH_take (i := 12) (oi := ⟨some 20, _, _, _, _, _⟩) rfl (by kernel_rfl) (by kernel_rfl) (by kernel_rfl) (fun _ _ _ h => h) (Or.inl ⟨by rfl, fun w hw => by ((try dsimp only at hw); go_split_ands; go_simp; with_reducible rfl)⟩) (by assumption) ?_
            try simp only [Act.put, List.setIfInBounds_toArray, List.set_cons_zero, List.set_cons_succ]
            refine wpAnyH_take (i := 13) (oi := ⟨some 21, _, _, _, _, _⟩) rfl (by kernel_rfl) (by kernel_rfl) (by kernel_rfl) (fun _ _ _ h => h) (Or.inl ⟨by rfl, fun w hw => by ((try dsimp only at hw); go_split_ands; go_simp; with_reducible rfl)⟩) (by assumption) ?_
            try simp only [Act.put, List.setIfInBounds_toArray, List.set_cons_zero, List.set_cons_succ]
            refine wpAnyH_take (i := 14) (oi := ⟨some 22, _, _, _, _, _⟩) rfl (by kernel_rfl) (by kernel_rfl) (by kernel_rfl) (fun _ _ _ h => h) (Or.inl ⟨by rfl, fun w hw => by ((try dsimp only at hw); go_split_ands; go_simp; with_reducible rfl)⟩) (by assumption) ?_
            try simp only [Act.put, List.setIfInBounds_toArray, List.set_cons_zero, List.set_cons_succ]
            refine wpAnyH_done (by kernel_rfl) ?_ _
            go_wp2_with fail
            go_meet
            case rel => exact ⟨X1, X2, ok, rfl, rfl, rfl, HB_3.out, HE_3.out, HFr_3.out, HE2_3.out, HF2_3.out, hres⟩
          case rest =>
            obtain ⟨X1, X2, ok, rfl, rfl, rfl, HB6, HE1, HF1, HE2, HF2, hres⟩ := hcut
            obtain ⟨w6, rfl⟩ : ∃ x, x = wc := ⟨_, rfl⟩
            have hcv1 := conv_rb 22 9 5 und_bytes (by kernel_rfl) (by kernel_rfl) (HX1.out.below HB6.out)
            have hcv2 := conv_rb 22 9 5 und_bytes (by kernel_rfl) (by kernel_rfl) (HX2.out.below HB6.out)
            have hse := strB_eq HX1.out.2.1 HX2.out.2.1
            by_cases hxy : xs = ys
            · subst hxy
              have hq : q2 = q1 := by rw [← HQ1.out, ← HQ2.out]
              subst hq
              rcases hres with ⟨rfl, rfl, rfl, _⟩ | ⟨_, _, _, hne, _⟩
              · have hv1 := conv_rb 22 9 5 und_bytes (by kernel_rfl) (by kernel_rfl) HF1.out.reads
                have hv2 := conv_rb 22 9 5 und_bytes (by kernel_rfl) (by kernel_rfl) HF2.out.reads
                have ca0 := BlkIs.cell HE1.out 0
                have ca1 := BlkIs.cell HE1.out 1
                have cb0 := BlkIs.cell HE2.out 0
                have cb1 := BlkIs.cell HE2.out 1
                clear hse
                generalize strB xs = s1 at *
                generalize strB (ansV q2 xs) = s3 at *
                clear HE1 HF1 HE2 HF2 HEX HV1 HV2 HC1 HC2
                generalize ansF q2 xs = f at *
                generalize (ansV q2 xs).length = l at *
                by_cases hq0 : q2 = 0
                · subst hq0
                  go_wp2_with fail
                  go_ret
                  exact ⟨by simp, HB6.out⟩
                · have hq1 : ¬ (q2 : Int) = 0 := by omega
                  clear hq0
                  go_wp2_with fail
                  go_ret
                  exact ⟨by simp, HB6.out⟩
              · exact absurd rfl hne
            · have hs1 : ((strB xs).toList == (strB ys).toList) = false := by rw [hse]; exact decide_eq_false hxy
              clear hse
              rcases hres with ⟨rfl, rfl, rfl, hc⟩ | ⟨rfl, h1, h2, hne, Xa, xc, T1, Xb, xd, T2, rfl, rfl, r1, r2, l1, l2, l3, l4, htn, hnd⟩
              · have hc' : q1 ≠ 0 ∨ q2 ≠ 0 := by
                  rcases hc with h | h | h
                  · exact .inl h
                  · exact .inr h
                  · exact absurd h hxy
                clear hc hxy HEX HV1 HV2 HC1 HC2
                generalize strB xs = s1 at *
                generalize strB ys = s2 at *
                by_cases hq1 : q1 = 0
                · have hq2 : ¬ (q2 : Int) = 0 := by omega
                  subst hq1
                  clear hc'
                  go_wp2_with fail
                  go_ret
                  exact ⟨by simp, HB6.out⟩
                · have hq2 : ¬ (q1 : Int) = 0 := by omega
                  clear hc' hq1
                  go_wp2_with fail
                  go_ret
                  exact ⟨by simp, HB6.out⟩
              · have hx1 := conv_rb 22 9 5 und_bytes (by kernel_rfl) (by kernel_rfl) r1
                have hx2 := conv_rb 22 9 5 und_bytes (by kernel_rfl) (by kernel_rfl) r2
                have hs3 : ((strB T1).toList == (strB T2).toList) = false := by rw [strB_eq r1.2.1 r2.2.1]; exact decide_eq_false htn
                have HR1 := Lib.hid (And.intro r1 (And.intro l1 l3))
                have HR2' := Lib.hid (And.intro r2 (And.intro l2 l4))
                have HND : Hid (cutN (shaN T1) wd = cutN (shaN T2) wd) := hnd
                have HS1 := Lib.hid (And.intro (shaN_isB T1) (shaN_length T1))
                have HS2 := Lib.hid (And.intro (shaN_isB T2) (shaN_length T2))
                have HD1 := Lib.hid (HDG.out w6 Xa xc T1 HB6.out r1 l1 l3)
                have HD2 : Hid (∀ W, Below w6.heap.size w6 W → Calls Tryd.prog 18 #[.slice Xb T2.length xd] W fun e w' => e = .returned (.agg (bvs (shaN T2)).toArray) ∧ Below W.heap.size W w') := fun W hb => HDG.out W Xb xd T2 (HB6.out.trans (hb.mono HB6.out.size)) (r2.below hb) l2 l4
                clear r1 r2 l1 l2 l3 l4 htn hnd HDG HEX HV1 HV2 HC1 HC2 hxy hne
                subst h1 h2
                generalize strB xs = s1 at *
                generalize strB ys = s2 at *
                generalize strB T1 = s3 at *
                generalize strB T2 = s4 at *
                generalize shaN T1 = S1 at *
                generalize shaN T2 = S2 at *
                have HCL := Lib.hid (And.intro (cutN_isB HS1.out.1 wd) (cutN_length HS1.out.2 wd))
                have HCU1 : Hid (∀ W, Calls Tryd.prog 17 #[.agg (bvs S1).toArray, .int .i64 wd] W fun e w' => e = .returned (.agg (bvs (cutN S1 wd)).toArray) ∧ Below W.heap.size W w') := fun W => cut_any S1 wd W HS1.out.1 HS1.out.2
                have HCU2 : Hid (∀ W, Calls Tryd.prog 17 #[.agg (bvs S2).toArray, .int .i64 wd] W fun e w' => e = .returned (.agg (bvs (cutN S1 wd)).toArray) ∧ Below W.heap.size W w') := fun W => by rw [HND.out]; exact cut_any S2 wd W HS2.out.1 HS2.out.2
                clear HND
                generalize cutN S1 wd = D at *
                have heq : ∀ w : World, (Op.equalIn 10000 29 (.agg (bvs D).toArray) (.agg (bvs D).toArray)).run Tryd.prog w = .ok true w := fun w => by
                  have := dig_cmp w HCL.out.1 HCL.out.1 HCL.out.2 HCL.out.2
                  rwa [decide_eq_true rfl] at this
                go_wp2_with fail
                refine HD1.out.mono ?_
                rintro e v1 ⟨rfl, hb1⟩
                have HBv1 : Hid (Below w6.heap.size w6 v1) := hb1
                clear hb1
                go_wp2_with fail
                refine (HCU1.out v1).mono ?_
                rintro e v2 ⟨rfl, hb2⟩
                have HBv2 : Hid (Below w6.heap.size w6 v2) := HBv1.out.trans (hb2.mono HBv1.out.size)
                clear hb2
                go_wp2_with fail
                refine (HD2.out v2 HBv2.out).mono ?_
                rintro e v3 ⟨rfl, hb3⟩
                have HBv3 : Hid (Below w6.heap.size w6 v3) := HBv2.out.trans (hb3.mono HBv2.out.size)
                clear hb3
                go_wp2_with fail
                refine (HCU2.out v3).mono ?_
                rintro e v4 ⟨rfl, hb4⟩
                have HBv4 : Hid (Below w6.heap.size w6 v4) := HBv3.out.trans (hb4.mono HBv3.out.size)
                clear hb4
                go_wp2_with fail
                go_ret
                exact ⟨by simp, HB6.out.trans (HBv4.out.mono HB6.out.size)⟩
end Go.Proofs.YtfnlhfaihoojfaaDoor
