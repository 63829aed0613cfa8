/- ledgerref12: Prove, Encode. (printed by gen_r12e.py) -/
import Derived.Test.YtfnlhfaihoojfaaDoorFs
namespace Go.Proofs.YtfnlhfaihoojfaaDoor
open Go.RowKit
theorem prM_len (wd : Int) (m : List Chg) (ks : List Nat) : (prM wd m ks).bits.length = 32 := bitsU_length _ _
set_option maxHeartbeats 1000000 in
theorem rprove_any (wd : Int) (A : Option Addr) (N cap : Nat) (X : Nat → Chg) (ks : List Nat) (w : World) (hx : EntsAt w A N X) (hN : N ≤ 1048576) (hv : ∀ k, k < N → (X k).val.length ≤ 128) (hnd : (keysOf (lst X N)).Nodup) (hk : IsB ks) (hkl : ks.length = 32) (hT : Tabs1 w) :
    Calls Tryd.prog 28 #[.int .i64 wd, .slice A N cap, .agg (bvs ks).toArray] w (ProveRet wd (lst X N) ks w) := by
  have HX := Lib.hid hx
  have HT := Lib.hid hT
  have HK := Lib.hid (And.intro hkl hk)
  have HP := Lib.hid (fun W g c (hW : Below w.heap.size w W) (hE : EsAt W g wd) => rproveWith_any wd g c A N cap X ks W hE (hx.below hW) hN hv hnd hk hkl ⟨hT.1.below hW, hT.2.below hW⟩)
  have HPL := Lib.hid (prM_len wd (lst X N) ks)
  clear hx hT hk hkl hnd hv hN
  go_enter Tryd.func28, Tryd.ntmps28
  go_wp2_with fail
  refine start2 (G := fun w2 => Calls _ _ _ w2 _) fun w2 H1 H2 HW HS => ?_
  have HK2 : Hid (BlkB w2 w.heap.size 31 ks) := H1
  have HR2 : Hid (PrIs w2 (w.heap.size + 1) false (.slice none 0 0) (zs 32) (.slice none 0 0)) := H2
  clear H1 H2
  refine (empties_any wd w2 ⟨HT.out.1.below HW.out, HT.out.2.below HW.out⟩).mono ?_
  rintro e w3 ⟨g, c, rfl, hE, _, _, hb3⟩
  have HB3 : Hid (Below w.heap.size w w3) := HW.out.trans (hb3.mono HW.out.size)
  have HE := Lib.hid hE
  have HK3 : Hid (BlkB w3 w.heap.size 31 ks) := BlkIs.below HK2.out hb3
  have HR3 : Hid (PrIs w3 (w.heap.size + 1) false (.slice none 0 0) (zs 32) (.slice none 0 0)) := BlkIs.below HR2.out hb3
  clear hE hb3 HK2 HR2
  go_wp2_with (refine wpList_load_arr (o := ⟨some 13, _, _, _, _, _⟩) (by rfl) 31 (.tmp 5) rfl ⟨w.heap.size, 0, none⟩ 32 ks rfl (HK3.out.whole HK.out.2 HK.out.1) (by omega) (by kernel_rfl) (by kernel_rfl) ?_)
  refine (HP.out w3 g c HB3.out HE.out).mono ?_
  rintro e w4 ⟨V, S, rfl, hv, hs, hb⟩
  have HR4 : Hid (PrIs w4 (w.heap.size + 1) false (.slice none 0 0) (zs 32) (.slice none 0 0)) := BlkIs.below HR3.out hb
  have HV := Lib.hid hv
  have HSm := Lib.hid hs
  have HV1 : Hid (V.oneCell' = true) := row_oneCell hv.1
  have HS1 : Hid (S.oneCell' = true) := row_oneCell hs
  have HB4 : Hid (Below w.heap.size w w4) := HB3.out.trans (hb.mono HB3.out.size)
  have HR3L : Hid (w.heap.size + 1 < w3.heap.size) := HR3.out.lt
  have HRET : Hid (∀ W : World, OwnU W w.heap.size V (prM wd (lst X N) ks).val → SumsAt W w.heap.size S (prM wd (lst X N) ks).sums → Below w.heap.size w W → ProveRet wd (lst X N) ks w (.returned (.agg (prC (prM wd (lst X N) ks).found V (prM wd (lst X N) ks).bits S).toArray)) W) := fun W h1 h2 h3 => ⟨V, S, rfl, h1, h2, h3⟩
  clear hv hs hb HK3 HR3
  generalize prM wd (lst X N) ks = p at *
  go_wp2_with (refine storePr (o := ⟨none, _, _, _, _, _⟩) rfl (.tmp 6) (.tmp 14) rfl (w.heap.size + 1) p.found V p.bits S rfl rfl HR4.out HPL.out HV1.out HS1.out ?_; intro w5 hp5 hg5)
  refine pr_ret1 rfl rfl hp5 HPL.out rfl (HRET.out w5 ?_ ?_ ?_)
  · exact ⟨row_mono ((Touch.one hg5).row HV.out.1 fun B hB e => by have := (row_lt HV.out.1 hB).1; have := HR3L.out; omega) HB3.out.size, HV.out.2⟩
  · exact row_mono ((Touch.one hg5).row HSm.out fun B hB e => by have := (row_lt HSm.out hB).1; have := HR3L.out; omega) HB3.out.size
  · exact HB4.out.grown hg5 HB4.out.size fun k hk => by injection hk with hk; omega
theorem own_three {w : World} (a b c : Nat) (ha : a < 256) (hb : b < 256) (hc : c < 256) : OwnU (w.alloc (.cells #[.int .u8 (a : Int), .int .u8 (b : Int), .int .u8 (c : Int)] 5)) w.heap.size (.slice (some ⟨w.heap.size, 0, none⟩) 3 3) [a, b, c] :=
  ⟨⟨rfl, .inr ⟨w.heap.size, 3, #[.int .u8 (a : Int), .int .u8 (b : Int), .int .u8 (c : Int)], rfl, Nat.le_refl _, heap_alloc_new w _, Nat.le_refl _, by simp [maxLen], rfl, rfl⟩⟩, fun x hx => by simp at hx; omega⟩
theorem size_bits : (Tryd.prog.info? 28).map (·.size) = some 32 := by kernel_rfl
theorem flat_len {ds : List (List Nat)} (h : ∀ s ∈ ds, s.length = 32) : ds.flatten.length = ds.length * 32 := by
  induction ds with
  | nil => rfl
  | cons a r ih =>
    rw [List.flatten_cons, List.length_append, h a (by simp), ih fun s hs => h s (by simp [hs]), List.length_cons]
    omega
/-- A cell of a list of digests. -/
theorem sums_cell {w : World} {base : Nat} {S : Value} {ds : List (List Nat)} (h : SumsAt w base S ds) (hl : ds.flatten.length = ds.length * 32) {As : Option Addr} {n cs : Nat} (hS : S = .slice As n cs) {i : Nat} (hi : i < ds.length * 32) :
    n = ds.length ∧ n ≤ cs ∧ ∃ g, As = some ⟨g, 0, none⟩ ∧ w.cell? ⟨g, i, none⟩ = some (.int .u8 (ds.flatten.getD i 0 : Nat)) := by
  obtain ⟨g, c, e, h1, h2, h3⟩ := own_head h (by omega)
  rw [hS] at e
  injection e with e1 e2 e3
  subst e1 e2 e3
  refine ⟨rfl, h3, g, rfl, ?_⟩
  rw [hS] at h
  rw [World.ownsRow.cellAt h _ hi, bvs, List.getElem?_map, List.getD_eq_getElem?_getD, List.getElem?_eq_getElem (by omega)]
  rfl
/-- What Encode tells. -/
def EncRet (base : Nat) (p : Pr) (w : World) (e : Ending) (w' : World) : Prop := ∃ v, e = .returned (.tuple #[v, .int .i64 0]) ∧ OwnU w' base v (encN p) ∧ Below w.heap.size w w'
set_option maxRecDepth 20000 in
set_option maxHeartbeats 4000000 in
theorem rencode_any (base : Nat) (p : Pr) (V S : Value) (w : World) (hp : p.Ok) (hV : OwnU w base V p.val) (hS : SumsAt w base S p.sums) :
    Calls Tryd.prog 29 #[.agg (prC p.found V p.bits S).toArray] w (EncRet w.heap.size p w) := by
  have hl := hp.vl
  obtain ⟨AV, cV, rfl, hr, _⟩ := hV.form
  obtain ⟨As, ns, cs, hSf⟩ := row_form hS
  have hns : ns = p.sums.length := by
    rcases hS.2 with ⟨e, h0⟩ | ⟨g, cap, cur, e, _⟩
    · rw [hSf] at e; injection e with e1 e2 e3; omega
    · rw [hSf] at e; injection e with e1 e2 e3
  subst hSf hns
  obtain ⟨fl, HFL⟩ : ∃ fl, Hid (p.sums.flatten = fl) := ⟨_, rfl⟩
  have HLN : Hid (fl.length = p.sums.length * 32) := by show _ = _; rw [← HFL.out]; exact flat_len fun s h => (hp.sB s h).2
  have HFB : Hid (IsB fl) := fun x hx => by
    rw [← HFL.out] at hx
    obtain ⟨s, h1, h2⟩ := List.mem_flatten.1 hx
    exact (hp.sB s h1).1 x h2
  have HSC : Hid (∀ W, Below w.heap.size w W → ∀ i, i < p.sums.length * 32 → p.sums.length ≤ cs ∧ ∃ g, As = some ⟨g, 0, none⟩ ∧ W.cell? ⟨g, i, none⟩ = some (.int .u8 (fl.getD i 0 : Nat))) := fun W hW i hi => by
    rw [← HFL.out]
    exact (sums_cell ((Touch.ofBelow hW).row hS fun _ _ h => h) (by rw [HFL.out]; exact HLN.out) rfl hi).2
  have HON : Hid (onesN p.bits = p.sums.length) := hp.sl.symm
  have hone : onesN p.bits ≤ 256 := by have := onesN_le (ds := p.bits); have := hp.bl; omega
  have hnI : (p.sums.length : Int) ≤ 256 := by rw [← hp.sl] at hone; omega
  have HBF := Lib.hid (And.intro hp.bl hp.bB)
  have HVF : Hid (IsB p.val ∧ (p.found = false → p.val = [])) := ⟨hp.vB, hp.vn⟩
  have HVR := Lib.hid hr
  have hvI : (p.val.length : Int) ≤ 128 := by omega
  have HENC : Hid (encN p = (if p.found then 1 :: p.val.length % 256 :: p.val.length / 256 :: p.val else [0]) ++ (p.bits ++ fl)) := by show _ = _; rw [← HFL.out]; rfl
  obtain ⟨R, HR⟩ : ∃ R, Hid (encN p = R) := ⟨_, rfl⟩
  have HPO : Hid (∀ e w', (∃ v, e = .returned (.tuple #[v, .int .i64 0]) ∧ OwnU w' w.heap.size v R ∧ Below w.heap.size w w') → EncRet w.heap.size p w e w') := fun e w' hp => by
    unfold EncRet
    rw [HR.out]
    exact hp
  rw [HR.out] at HENC
  refine Calls.mono ?_ HPO.out
  clear hp hV hS hl hr hone HFL HR HPO
  obtain ⟨f, vl, bits, sums⟩ := p
  dsimp only at *
  generalize sums.length = n at *
  go_enter Tryd.func29, Tryd.ntmps29
  go_upto_region 1 with fail
  refine start1 (G := fun w2 => Code.wp _ _ _ _ w2) fun w2 H1 HW HS => ?_
  have HP2 : Hid (PrIs w2 w.heap.size f (.slice AV vl.length cV) bits (.slice As n cs)) := H1
  clear H1
  have HSS : Hid (∀ W, Below w2.heap.size w2 W → W.cell? ⟨w.heap.size, 0, none⟩ = some (.bool f) ∧ W.cell? ⟨w.heap.size, 1, none⟩ = some (.slice AV vl.length cV) ∧ W.cell? ⟨w.heap.size, 34, none⟩ = some (.slice As n cs) ∧ W.rangeAt w.heap.size 2 (bvs bits)) := fun W hb => by
    have h1 := BlkIs.below HP2.out hb
    exact ⟨h1.cell 0, h1.cell 1, PrIs.sumsCell h1 HBF.out.1, BlkIs.rangeOf (X := [.bool f, .slice AV vl.length cV]) (Z := [.slice As n cs]) h1 rfl⟩
  have hub := und_bits
  have hszb : (Tryd.prog.info? 28).map (·.size) = some (bvs bits).length := by rw [size_bits]; simp [bvs, HBF.out.1]
  have HB0 : Hid (Below w2.heap.size w2 w2.drew) := drewN_below (Below.refl _ _) 1
  have h128 : ¬ (128 : Int) < (vl.length : Int) := by omega
  cases f with
  | false =>
    have hvn := HVF.out.2 rfl
    subst hvn
    refine wp_region_held_drew (S := fun w' => w'.cell? ⟨w.heap.size, 0, none⟩ = some (.bool false) ∧ w'.cell? ⟨w.heap.size, 1, none⟩ = some (.slice AV 0 cV) ∧ w'.cell? ⟨w.heap.size, 34, none⟩ = some (.slice As n cs) ∧ w'.rangeAt w.heap.size 2 (bvs bits)) (by kernel_rfl) (HSS.out _ HB0.out) fun hH => ?_
    generalize w2.drew = w3 at *
    refine wpAnyH_take (i := 0) (oi := ⟨some 9, _, _, _, _, _⟩) rfl (by kernel_rfl) (by kernel_rfl) (by kernel_rfl) (fun _ _ _ h => h) (Or.inl ⟨by rfl, fun w hw => by ((try dsimp only at hw); go_split_ands; go_simp; with_reducible rfl)⟩) (by assumption) ?_
    try simp only [Act.put, List.setIfInBounds_toArray, List.set_cons_zero, List.set_cons_succ]
    refine wpAnyH_take (i := 1) (oi := ⟨some 10, _, _, _, _, _⟩) rfl (by kernel_rfl) (by kernel_rfl) (by kernel_rfl) (fun _ _ _ h => h) (Or.inl ⟨by rfl, fun w hw => by ((try dsimp only at hw); go_split_ands; go_simp; with_reducible rfl)⟩) (by assumption) ?_
    try simp only [Act.put, List.setIfInBounds_toArray, List.set_cons_zero, List.set_cons_succ]
    refine wpAnyH_take (i := 2) (oi := ⟨some 11, _, _, _, _, _⟩) rfl (by kernel_rfl) (by kernel_rfl) (by kernel_rfl) (fun _ _ _ h => h) (Or.inl ⟨by rfl, fun w hw => by ((try dsimp only at hw); go_split_ands; go_simp; with_reducible rfl)⟩) (by assumption) ?_
    try simp only [Act.put, List.setIfInBounds_toArray, List.set_cons_zero, List.set_cons_succ]
    refine wpAnyH_take (i := 3) (oi := ⟨some 12, _, _, _, _, _⟩) rfl (by kernel_rfl) (by kernel_rfl) (by kernel_rfl) (fun _ _ _ h => h) (Or.inl ⟨by rfl, fun w hw => by ((try dsimp only at hw); go_split_ands; go_simp; with_reducible rfl)⟩) (by assumption) ?_
    try simp only [Act.put, List.setIfInBounds_toArray, List.set_cons_zero, List.set_cons_succ]
    refine wpAnyH_take (i := 4) (oi := ⟨some 13, _, _, _, _, _⟩) rfl (by kernel_rfl) (by kernel_rfl) (by kernel_rfl) (fun _ _ _ h => h) (Or.inl ⟨by rfl, fun w hw => by ((try dsimp only at hw); go_split_ands; go_simp; with_reducible rfl)⟩) (by assumption) ?_
    try simp only [Act.put, List.setIfInBounds_toArray, List.set_cons_zero, List.set_cons_succ]
    refine wpAnyH_take (i := 5) (oi := ⟨some 14, _, _, _, _, _⟩) rfl (by kernel_rfl) (by kernel_rfl) (by kernel_rfl) (fun _ _ _ h => h) (Or.inl ⟨by rfl, fun w hw => by ((try dsimp only at hw); go_split_ands; go_simp; with_reducible rfl)⟩) (by assumption) ?_
    try simp only [Act.put, List.setIfInBounds_toArray, List.set_cons_zero, List.set_cons_succ]
    refine wpAnyH_take (i := 6) (oi := ⟨some 15, _, _, _, _, _⟩) rfl (by kernel_rfl) (by kernel_rfl) (by kernel_rfl) (fun _ _ _ h => h) (Or.inl ⟨by rfl, fun w hw => by ((try dsimp only at hw); go_split_ands; go_simp; with_reducible rfl)⟩) (by assumption) ?_
    try simp only [Act.put, List.setIfInBounds_toArray, List.set_cons_zero, List.set_cons_succ]
    refine wpAnyH_take (i := 7) (oi := ⟨some 16, _, _, _, _, _⟩) rfl (by kernel_rfl) (by kernel_rfl) (by kernel_rfl) (fun _ _ _ h => h) (Or.inl ⟨by rfl, fun w hw => by ((try dsimp only at hw); go_split_ands; go_simp; with_reducible rfl)⟩) (by assumption) ?_
    try simp only [Act.put, List.setIfInBounds_toArray, List.set_cons_zero, List.set_cons_succ]
    refine wpAnyH_take (i := 8) (oi := ⟨some 17, _, _, _, _, _⟩) rfl (by kernel_rfl) (by kernel_rfl) (by kernel_rfl) (fun _ _ _ h => h) (Or.inl ⟨by rfl, fun w hw => by ((try dsimp only at hw); go_split_ands; go_simp; with_reducible rfl)⟩) (by assumption) ?_
    try simp only [Act.put, List.setIfInBounds_toArray, List.set_cons_zero, List.set_cons_succ]
    refine wpAnyH_take (i := 9) (oi := ⟨some 18, _, _, _, _, _⟩) rfl (by kernel_rfl) (by kernel_rfl) (by kernel_rfl) (fun _ _ _ h => h) (Or.inl ⟨by rfl, fun w hw => by ((try dsimp only at hw); go_split_ands; go_simp; with_reducible rfl)⟩) (by assumption) ?_
    try simp only [Act.put, List.setIfInBounds_toArray, List.set_cons_zero, List.set_cons_succ]
    refine wpAnyH_take (i := 10) (oi := ⟨some 19, _, _, _, _, _⟩) rfl (by kernel_rfl) (by kernel_rfl) (by kernel_rfl) (fun _ _ _ h => h) (Or.inl ⟨by rfl, fun w hw => by ((try dsimp only at hw); go_split_ands; go_simp; with_reducible rfl)⟩) (by assumption) ?_
    try simp only [Act.put, List.setIfInBounds_toArray, List.set_cons_zero, List.set_cons_succ]
    refine wpAnyH_take (i := 11) (oi := ⟨some 20, _, _, _, _, _⟩) rfl (by kernel_rfl) (by kernel_rfl) (by kernel_rfl) (fun _ _ _ h => h) (Or.inl ⟨by rfl, fun w hw => by ((try dsimp only at hw); go_split_ands; go_simp; with_reducible rfl)⟩) (by assumption) ?_
    try simp only [Act.put, List.setIfInBounds_toArray, List.set_cons_zero, List.set_cons_succ]
    refine wpAnyH_take (i := 12) (oi := ⟨some 21, _, _, _, _, _⟩) rfl (by kernel_rfl) (by kernel_rfl) (by kernel_rfl) (fun _ _ _ h => h) (Or.inl ⟨by rfl, fun w hw => by ((try dsimp only at hw); go_split_ands; go_simp; with_reducible rfl)⟩) (by assumption) ?_
    try simp only [Act.put, List.setIfInBounds_toArray, List.set_cons_zero, List.set_cons_succ]
    refine wpAnyH_take (i := 13) (oi := ⟨some 22, _, _, _, _, _⟩) rfl (by kernel_rfl) (by kernel_rfl) (by kernel_rfl) (fun _ _ _ h => h) (Or.inl ⟨by rfl, fun w hw => by ((try dsimp only at hw); go_split_ands; go_simp; with_reducible rfl)⟩) (by assumption) ?_
    try simp only [Act.put, List.setIfInBounds_toArray, List.set_cons_zero, List.set_cons_succ]
    refine wpAnyH_take (i := 14) (oi := ⟨some 23, _, _, _, _, _⟩) rfl (by kernel_rfl) (by kernel_rfl) (by kernel_rfl) (fun _ _ _ h => h) (Or.inl ⟨by rfl, fun w hw => by ((try dsimp only at hw); go_split_ands; go_simp; with_reducible rfl)⟩) (by assumption) ?_
    try simp only [Act.put, List.setIfInBounds_toArray, List.set_cons_zero, List.set_cons_succ]
    refine wpAnyH_take (i := 15) (oi := ⟨some 24, _, _, _, _, _⟩) rfl (by kernel_rfl) (by kernel_rfl) (by kernel_rfl) (fun _ _ _ h => h) (Or.inl ⟨by rfl, fun w hw => by ((try dsimp only at hw); go_split_ands; go_simp; with_reducible rfl)⟩) (by assumption) ?_
    try simp only [Act.put, List.setIfInBounds_toArray, List.set_cons_zero, List.set_cons_succ]
    refine wpAnyH_take (i := 16) (oi := ⟨some 25, _, _, _, _, _⟩) rfl (by kernel_rfl) (by kernel_rfl) (by kernel_rfl) (fun _ _ _ h => h) (Or.inl ⟨by rfl, fun w hw => by ((try dsimp only at hw); go_split_ands; go_simp; with_reducible rfl)⟩) (by assumption) ?_
    try simp only [Act.put, List.setIfInBounds_toArray, List.set_cons_zero, List.set_cons_succ]
    refine wpAnyH_take (i := 17) (oi := ⟨some 26, _, _, _, _, _⟩) rfl (by kernel_rfl) (by kernel_rfl) (by kernel_rfl) (fun _ _ _ h => h) (Or.inl ⟨by rfl, fun w hw => by ((try dsimp only at hw); go_split_ands; go_simp; with_reducible rfl)⟩) (by assumption) ?_
    try simp only [Act.put, List.setIfInBounds_toArray, List.set_cons_zero, List.set_cons_succ]
    refine wpAnyH_take (i := 18) (oi := ⟨some 27, _, _, _, _, _⟩) rfl (by kernel_rfl) (by kernel_rfl) (by kernel_rfl) (fun _ _ _ h => h) (Or.inl ⟨by rfl, fun w hw => by ((try dsimp only at hw); go_split_ands; go_simp; with_reducible rfl)⟩) (by assumption) ?_
    try simp only [Act.put, List.setIfInBounds_toArray, List.set_cons_zero, List.set_cons_succ]
    refine wpAnyH_take (i := 19) (oi := ⟨some 28, _, _, _, _, _⟩) rfl (by kernel_rfl) (by kernel_rfl) (by kernel_rfl) (fun _ _ _ h => h) (Or.inl ⟨by rfl, fun w hw => by ((try dsimp only at hw); go_split_ands; go_simp; with_reducible rfl)⟩) (by assumption) ?_
    try simp only [Act.put, List.setIfInBounds_toArray, List.set_cons_zero, List.set_cons_succ]
    refine wpAnyH_take (i := 20) (oi := ⟨some 29, _, _, _, _, _⟩) rfl (by kernel_rfl) (by kernel_rfl) (by kernel_rfl) (fun _ _ _ h => h) (yieldsIf_load_mid (by rfl) _ _ rfl _ _ rfl _ _ (fun w hw => by (try dsimp only at hw); go_split_ands; assumption) (by assumption) rfl (by assumption)) (by assumption) ?_
    try simp only [Act.put, List.setIfInBounds_toArray, List.set_cons_zero, List.set_cons_succ]
    refine wpAnyH_ready (rs := [21]) (by kernel_rfl) (by simp) ?_
    refine AllReadyH.cons rfl (fun K hK => ?_) (AllReadyH.nil)
    go_simp
    go_at_call 52
    refine (rones_any bits w3 HBF.out.2 HBF.out.1).mono ?_
    rintro e w4 ⟨rfl, hb4⟩
    have HB4 : Hid (Below w2.heap.size w2 w4) := HB0.out.trans (hb4.mono HB0.out.size)
    refine hK.out _ _ (HSS.out _ HB4.out) (fun hH => ?_)
    clear hK hb4
    rw [HON.out]
    refine wpAnyH_take (i := 22) (oi := ⟨some 31, _, _, _, _, _⟩) rfl (by kernel_rfl) (by kernel_rfl) (by kernel_rfl) (fun _ _ _ h => h) (Or.inl ⟨by rfl, fun w hw => by ((try dsimp only at hw); go_split_ands; go_simp; with_reducible rfl)⟩) (by assumption) ?_
    try simp only [Act.put, List.setIfInBounds_toArray, List.set_cons_zero, List.set_cons_succ]
    refine wpAnyH_take (i := 23) (oi := ⟨some 32, _, _, _, _, _⟩) rfl (by kernel_rfl) (by kernel_rfl) (by kernel_rfl) (fun _ _ _ h => h) (Or.inl ⟨by rfl, fun w hw => by ((try dsimp only at hw); go_split_ands; go_simp; with_reducible rfl)⟩) (by assumption) ?_
    try simp only [Act.put, List.setIfInBounds_toArray, List.set_cons_zero, List.set_cons_succ]
    clear hH hub hszb
    refine wpAnyH_done (by kernel_rfl) ?_ _
    have HP4 : Hid (PrIs w4 w.heap.size false (.slice AV 0 cV) bits (.slice As n cs)) := BlkIs.below HP2.out HB4.out
    have HW4 : Hid (Below w.heap.size w w4) := HW.out.trans (HB4.out.mono HW.out.size)
    have HG4 : Hid (w.heap.size < w4.heap.size) := HP4.out.lt
    clear HB0 HP2 HSS HB4
    go_wp2_with (with_reducible refine stopAt (o := ⟨some 35, _, _, _, _, _⟩) ?_)
    have HO : Hid (OwnU (w4.alloc (.cells #[.int .u8 0] 5)) w4.heap.size (.slice (some ⟨w4.heap.size, 0, none⟩) 1 1) [0]) := own_byte 0 (by omega)
    have HB : Hid (Below w4.heap.size w4 (w4.alloc (.cells #[.int .u8 0] 5))) := (Below.refl _ _).alloc (Nat.le_refl _) _
    have hcf : (w4.alloc (.cells #[.int .u8 0] 5)).cell? ⟨w.heap.size, 0, none⟩ = some (.bool false) := (BlkIs.below HP4.out HB.out).cell 0
    refine Lib.hid ?_
    go_wp2_with fail
    obtain ⟨hd, HHD⟩ : ∃ hd : List Nat, Hid (([0] : List Nat) = hd) := ⟨[0], (rfl : ([0] : List Nat) = [0])⟩
    have HDL : Hid (hd.length ≤ 150) := by rw [← HHD.out]; show _ ≤ _; simp
    rw [if_neg (by decide), HHD.out] at HENC
    rw [HHD.out] at HO
    clear HHD
    go_loopw [4, 6] (fun v i wr => ∃ k : Nat, k ≤ 32 ∧ i = .int .i64 k ∧ Hid (OwnU wr w4.heap.size v (hd ++ bits.take k)) ∧ Hid (Below w4.heap.size w4 wr)) (fun _ i _ => 32 - (intOf i).toNat)
    case atStart => exact ⟨0, by omega, rfl, by rw [List.take_zero, List.append_nil]; exact HO.out, HB.out⟩
    case round =>
      clear HO HB
      obtain ⟨k, hk, rfl, HO, HB⟩ := hrel
      by_cases hlt : k < 32
      · have hlt' : (k : Int) < 32 := by omega
        have hk32 : k < bits.length := by rw [HBF.out.1]; exact hlt
        have hc : wr.cell? ⟨w.heap.size, 2 + k, none⟩ = some (.int .u8 (bits.getD k 0 : Nat)) := PrIs.bitCell (BlkIs.below HP4.out HB.out) HBF.out.1 hlt
        have hx8 : bits.getD k 0 < 256 := HBF.out.2 _ (getD_mem hk32)
        have HTS : Hid (hd ++ bits.take (k + 1) = hd ++ bits.take k ++ [bits.getD k 0]) := by show _ = _; rw [take_succ_getD hk32, List.append_assoc]
        have hln : (hd ++ bits.take k).length + 1 ≤ 140737488355328 := by rw [List.length_append, List.length_take]; have := HDL.out; omega
        clear hk32
        generalize bits.getD k 0 = b at *
        go_wp2_with (at_builtin; refine append1 und_bytes info_byte wr rfl (.tmp 66) (.tmp 71) rfl w4.heap.size _ _ HO.out b hx8 rfl rfl hln HB.out.size ?_; intro v' w1 hown1 hgrow1)
        have HB1 := Lib.hid (HB.out.grown hgrow1 HB.out.size HO.out.ge)
        go_roundw
        case rel => exact ⟨k + 1, by omega, by go_num, by rw [HTS.out]; exact hown1, HB1.out⟩
        case measure => simp [intOf]; omega
      · have hnlt : ¬ (k : Int) < 32 := by omega
        have HKT : Hid (bits.take k = bits) := List.take_of_length_le (by rw [HBF.out.1]; omega)
        rw [HKT.out] at HO
        clear hlt HKT
        obtain ⟨h2, HH2⟩ : ∃ h2, Hid (hd ++ bits = h2) := ⟨_, rfl⟩
        have HHL : Hid (h2.length ≤ 200) := by show _ ≤ _; rw [← HH2.out, List.length_append, HBF.out.1]; have := HDL.out; omega
        rw [HH2.out] at HO
        go_wp2_with fail
        go_loopw [4, 7, 8] (fun v j _ wr => ∃ k : Nat, k ≤ n ∧ j = .int .i64 k ∧ Hid (OwnU wr w4.heap.size v (h2 ++ fl.take (k * 32))) ∧ Hid (Below w4.heap.size w4 wr)) (fun _ j _ _ => n - (intOf j).toNat)
        case atStart => exact ⟨0, by omega, rfl, by rw [Nat.zero_mul, List.take_zero, List.append_nil]; exact HO.out, HB.out⟩
        case round =>
          clear HO HB
          obtain ⟨j, hj, rfl, HO, HB⟩ := hrel
          have hc34 : wr.cell? ⟨w.heap.size, 34, none⟩ = some (.slice As n cs) := PrIs.sumsCell (BlkIs.below HP4.out HB.out) HBF.out.1
          by_cases hlt2 : j < n
          · have hlt2' : (j : Int) < n := by omega
            obtain ⟨g, hAs⟩ : ∃ g, As = some ⟨g, 0, none⟩ := by
              obtain ⟨_, g, e, _⟩ := HSC.out w (Below.refl _ _) (j * 32) (by omega)
              exact ⟨g, e⟩
            subst hAs
            have HNC : Hid (n ≤ cs) := (HSC.out w (Below.refl _ _) (j * 32) (by omega)).1
            go_wp2_with fail
            clear hc34
            go_loopw [4, 8] (fun v i wr => ∃ k : Nat, k ≤ 32 ∧ i = .int .i64 k ∧ Hid (OwnU wr w4.heap.size v (h2 ++ fl.take (j * 32 + k))) ∧ Hid (Below w4.heap.size w4 wr)) (fun _ i _ => 32 - (intOf i).toNat)
            case atStart => exact ⟨0, by omega, rfl, HO.out, HB.out⟩
            case round =>
              clear HO HB
              obtain ⟨i, hi, rfl, HO, HB⟩ := hrel
              have hc34 : wr.cell? ⟨w.heap.size, 34, none⟩ = some (.slice (some ⟨g, 0, none⟩) n cs) := PrIs.sumsCell (BlkIs.below HP4.out HB.out) HBF.out.1
              by_cases hlt3 : i < 32
              · have hlt3' : (i : Int) < 32 := by omega
                have hjl : j * 32 + i < fl.length := by rw [HLN.out]; omega
                have hcc : wr.cell? ⟨g, j * 32 + i, none⟩ = some (.int .u8 (fl.getD (j * 32 + i) 0 : Nat)) := by
                  obtain ⟨_, g', e, h⟩ := HSC.out wr (HW4.out.trans (HB.out.mono HW4.out.size)) (j * 32 + i) (by omega)
                  injection e with e
                  injection e with e
                  subst e
                  exact h
                have hx8 : fl.getD (j * 32 + i) 0 < 256 := HFB.out _ (getD_mem hjl)
                have HTS : Hid (h2 ++ fl.take (j * 32 + (i + 1)) = h2 ++ fl.take (j * 32 + i) ++ [fl.getD (j * 32 + i) 0]) := by show _ = _; rw [← Nat.add_assoc, take_succ_getD hjl, List.append_assoc]
                have hln : (h2 ++ fl.take (j * 32 + i)).length + 1 ≤ 140737488355328 := by rw [List.length_append, List.length_take]; have := HHL.out; omega
                clear hjl
                generalize fl.getD (j * 32 + i) 0 = b at *
                go_wp2_with (at_builtin; refine append1 und_bytes info_byte wr rfl (.tmp 84) (.tmp 92) rfl w4.heap.size _ _ HO.out b hx8 rfl rfl hln HB.out.size ?_; intro v' w1 hown1 hgrow1)
                have HB1 := Lib.hid (HB.out.grown hgrow1 HB.out.size HO.out.ge)
                go_roundw
                case rel => exact ⟨i + 1, by omega, by go_num, by rw [HTS.out]; exact hown1, HB1.out⟩
                case measure => simp [intOf]; omega
              · have hnlt3 : ¬ (i : Int) < 32 := by omega
                have HO' : Hid (OwnU wr w4.heap.size u4 (h2 ++ fl.take ((j + 1) * 32))) := by rw [show (j + 1) * 32 = j * 32 + i by omega]; exact HO.out
                go_wp2_with fail
                go_roundw
                case rel => exact ⟨j + 1, by omega, by go_num, HO'.out, HB.out⟩
                case measure => simp [intOf]; omega
          · have hnlt2 : ¬ (j : Int) < n := by omega
            have HFT : Hid (fl.take (j * 32) = fl) := List.take_of_length_le (by rw [HLN.out]; have := hj; omega)
            rw [HFT.out, ← HH2.out, List.append_assoc, ← HENC.out] at HO
            go_wp2_with fail
            go_ret2
            exact ⟨_, rfl, HO.out.mono HW4.out.size, HW4.out.trans (HB.out.mono HW4.out.size)⟩
  | true =>
    generalize hN1 : vl.length = n1 at *
    have HN1 := Lib.hid hN1
    clear hN1
    refine wp_region_held_drew (S := fun w' => w'.cell? ⟨w.heap.size, 0, none⟩ = some (.bool true) ∧ w'.cell? ⟨w.heap.size, 1, none⟩ = some (.slice AV n1 cV) ∧ w'.cell? ⟨w.heap.size, 34, none⟩ = some (.slice As n cs) ∧ w'.rangeAt w.heap.size 2 (bvs bits)) (by kernel_rfl) (HSS.out _ HB0.out) fun hH => ?_
    generalize w2.drew = w3 at *
    refine wpAnyH_take (i := 0) (oi := ⟨some 9, _, _, _, _, _⟩) rfl (by kernel_rfl) (by kernel_rfl) (by kernel_rfl) (fun _ _ _ h => h) (Or.inl ⟨by rfl, fun w hw => by ((try dsimp only at hw); go_split_ands; go_simp; with_reducible rfl)⟩) (by assumption) ?_
    try simp only [Act.put, List.setIfInBounds_toArray, List.set_cons_zero, List.set_cons_succ]
    refine wpAnyH_take (i := 1) (oi := ⟨some 10, _, _, _, _, _⟩) rfl (by kernel_rfl) (by kernel_rfl) (by kernel_rfl) (fun _ _ _ h => h) (Or.inl ⟨by rfl, fun w hw => by ((try dsimp only at hw); go_split_ands; go_simp; with_reducible rfl)⟩) (by assumption) ?_
    try simp only [Act.put, List.setIfInBounds_toArray, List.set_cons_zero, List.set_cons_succ]
    refine wpAnyH_take (i := 2) (oi := ⟨some 11, _, _, _, _, _⟩) rfl (by kernel_rfl) (by kernel_rfl) (by kernel_rfl) (fun _ _ _ h => h) (Or.inl ⟨by rfl, fun w hw => by ((try dsimp only at hw); go_split_ands; go_simp; with_reducible rfl)⟩) (by assumption) ?_
    try simp only [Act.put, List.setIfInBounds_toArray, List.set_cons_zero, List.set_cons_succ]
    refine wpAnyH_take (i := 3) (oi := ⟨some 12, _, _, _, _, _⟩) rfl (by kernel_rfl) (by kernel_rfl) (by kernel_rfl) (fun _ _ _ h => h) (Or.inl ⟨by rfl, fun w hw => by ((try dsimp only at hw); go_split_ands; go_simp; with_reducible rfl)⟩) (by assumption) ?_
    try simp only [Act.put, List.setIfInBounds_toArray, List.set_cons_zero, List.set_cons_succ]
    refine wpAnyH_take (i := 4) (oi := ⟨some 13, _, _, _, _, _⟩) rfl (by kernel_rfl) (by kernel_rfl) (by kernel_rfl) (fun _ _ _ h => h) (Or.inr ⟨by rfl, rfl⟩) (by assumption) ?_
    try simp only [Act.put, List.setIfInBounds_toArray, List.set_cons_zero, List.set_cons_succ]
    refine wpAnyH_take (i := 5) (oi := ⟨some 14, _, _, _, _, _⟩) rfl (by kernel_rfl) (by kernel_rfl) (by kernel_rfl) (fun _ _ _ h => h) (Or.inr ⟨by rfl, rfl⟩) (by assumption) ?_
    try simp only [Act.put, List.setIfInBounds_toArray, List.set_cons_zero, List.set_cons_succ]
    refine wpAnyH_take (i := 6) (oi := ⟨some 15, _, _, _, _, _⟩) rfl (by kernel_rfl) (by kernel_rfl) (by kernel_rfl) (fun _ _ _ h => h) (Or.inr ⟨by rfl, rfl⟩) (by assumption) ?_
    try simp only [Act.put, List.setIfInBounds_toArray, List.set_cons_zero, List.set_cons_succ]
    refine wpAnyH_take (i := 7) (oi := ⟨some 16, _, _, _, _, _⟩) rfl (by kernel_rfl) (by kernel_rfl) (by kernel_rfl) (fun _ _ _ h => h) (Or.inr ⟨by rfl, rfl⟩) (by assumption) ?_
    try simp only [Act.put, List.setIfInBounds_toArray, List.set_cons_zero, List.set_cons_succ]
    refine wpAnyH_take (i := 8) (oi := ⟨some 17, _, _, _, _, _⟩) rfl (by kernel_rfl) (by kernel_rfl) (by kernel_rfl) (fun _ _ _ h => h) (Or.inl ⟨by rfl, fun w hw => by ((try dsimp only at hw); go_split_ands; go_simp; with_reducible rfl)⟩) (by assumption) ?_
    try simp only [Act.put, List.setIfInBounds_toArray, List.set_cons_zero, List.set_cons_succ]
    refine wpAnyH_take (i := 9) (oi := ⟨some 18, _, _, _, _, _⟩) rfl (by kernel_rfl) (by kernel_rfl) (by kernel_rfl) (fun _ _ _ h => h) (Or.inl ⟨by rfl, fun w hw => by ((try dsimp only at hw); go_split_ands; go_simp; with_reducible rfl)⟩) (by assumption) ?_
    try simp only [Act.put, List.setIfInBounds_toArray, List.set_cons_zero, List.set_cons_succ]
    refine wpAnyH_take (i := 10) (oi := ⟨some 19, _, _, _, _, _⟩) rfl (by kernel_rfl) (by kernel_rfl) (by kernel_rfl) (fun _ _ _ h => h) (Or.inl ⟨by rfl, fun w hw => by ((try dsimp only at hw); go_split_ands; go_simp; with_reducible rfl)⟩) (by assumption) ?_
    try simp only [Act.put, List.setIfInBounds_toArray, List.set_cons_zero, List.set_cons_succ]
    refine wpAnyH_take (i := 11) (oi := ⟨some 20, _, _, _, _, _⟩) rfl (by kernel_rfl) (by kernel_rfl) (by kernel_rfl) (fun _ _ _ h => h) (Or.inl ⟨by rfl, fun w hw => by ((try dsimp only at hw); go_split_ands; go_simp; with_reducible rfl)⟩) (by assumption) ?_
    try simp only [Act.put, List.setIfInBounds_toArray, List.set_cons_zero, List.set_cons_succ]
    refine wpAnyH_take (i := 12) (oi := ⟨some 21, _, _, _, _, _⟩) rfl (by kernel_rfl) (by kernel_rfl) (by kernel_rfl) (fun _ _ _ h => h) (Or.inl ⟨by rfl, fun w hw => by ((try dsimp only at hw); go_split_ands; go_simp; with_reducible rfl)⟩) (by assumption) ?_
    try simp only [Act.put, List.setIfInBounds_toArray, List.set_cons_zero, List.set_cons_succ]
    refine wpAnyH_take (i := 13) (oi := ⟨some 22, _, _, _, _, _⟩) rfl (by kernel_rfl) (by kernel_rfl) (by kernel_rfl) (fun _ _ _ h => h) (Or.inl ⟨by rfl, fun w hw => by ((try dsimp only at hw); go_split_ands; go_simp; with_reducible rfl)⟩) (by assumption) ?_
    try simp only [Act.put, List.setIfInBounds_toArray, List.set_cons_zero, List.set_cons_succ]
    refine wpAnyH_take (i := 14) (oi := ⟨some 23, _, _, _, _, _⟩) rfl (by kernel_rfl) (by kernel_rfl) (by kernel_rfl) (fun _ _ _ h => h) (Or.inl ⟨by rfl, fun w hw => by ((try dsimp only at hw); go_split_ands; go_simp; with_reducible rfl)⟩) (by assumption) ?_
    try simp only [Act.put, List.setIfInBounds_toArray, List.set_cons_zero, List.set_cons_succ]
    refine wpAnyH_take (i := 15) (oi := ⟨some 24, _, _, _, _, _⟩) rfl (by kernel_rfl) (by kernel_rfl) (by kernel_rfl) (fun _ _ _ h => h) (Or.inl ⟨by rfl, fun w hw => by ((try dsimp only at hw); go_split_ands; go_simp; with_reducible rfl)⟩) (by assumption) ?_
    try simp only [Act.put, List.setIfInBounds_toArray, List.set_cons_zero, List.set_cons_succ]
    refine wpAnyH_take (i := 16) (oi := ⟨some 25, _, _, _, _, _⟩) rfl (by kernel_rfl) (by kernel_rfl) (by kernel_rfl) (fun _ _ _ h => h) (Or.inl ⟨by rfl, fun w hw => by ((try dsimp only at hw); go_split_ands; go_simp; with_reducible rfl)⟩) (by assumption) ?_
    try simp only [Act.put, List.setIfInBounds_toArray, List.set_cons_zero, List.set_cons_succ]
    refine wpAnyH_take (i := 17) (oi := ⟨some 26, _, _, _, _, _⟩) rfl (by kernel_rfl) (by kernel_rfl) (by kernel_rfl) (fun _ _ _ h => h) (Or.inl ⟨by rfl, fun w hw => by ((try dsimp only at hw); go_split_ands; go_simp; with_reducible rfl)⟩) (by assumption) ?_
    try simp only [Act.put, List.setIfInBounds_toArray, List.set_cons_zero, List.set_cons_succ]
    refine wpAnyH_take (i := 18) (oi := ⟨some 27, _, _, _, _, _⟩) rfl (by kernel_rfl) (by kernel_rfl) (by kernel_rfl) (fun _ _ _ h => h) (Or.inl ⟨by rfl, fun w hw => by ((try dsimp only at hw); go_split_ands; go_simp; with_reducible rfl)⟩) (by assumption) ?_
    try simp only [Act.put, List.setIfInBounds_toArray, List.set_cons_zero, List.set_cons_succ]
    refine wpAnyH_take (i := 19) (oi := ⟨some 28, _, _, _, _, _⟩) rfl (by kernel_rfl) (by kernel_rfl) (by kernel_rfl) (fun _ _ _ h => h) (Or.inl ⟨by rfl, fun w hw => by ((try dsimp only at hw); go_split_ands; go_simp; with_reducible rfl)⟩) (by assumption) ?_
    try simp only [Act.put, List.setIfInBounds_toArray, List.set_cons_zero, List.set_cons_succ]
    refine wpAnyH_take (i := 20) (oi := ⟨some 29, _, _, _, _, _⟩) rfl (by kernel_rfl) (by kernel_rfl) (by kernel_rfl) (fun _ _ _ h => h) (yieldsIf_load_mid (by rfl) _ _ rfl _ _ rfl _ _ (fun w hw => by (try dsimp only at hw); go_split_ands; assumption) (by assumption) rfl (by assumption)) (by assumption) ?_
    try simp only [Act.put, List.setIfInBounds_toArray, List.set_cons_zero, List.set_cons_succ]
    refine wpAnyH_ready (rs := [21]) (by kernel_rfl) (by simp) ?_
    refine AllReadyH.cons rfl (fun K hK => ?_) (AllReadyH.nil)
    go_simp
    go_at_call 52
    refine (rones_any bits w3 HBF.out.2 HBF.out.1).mono ?_
    rintro e w4 ⟨rfl, hb4⟩
    have HB4 : Hid (Below w2.heap.size w2 w4) := HB0.out.trans (hb4.mono HB0.out.size)
    refine hK.out _ _ (HSS.out _ HB4.out) (fun hH => ?_)
    clear hK hb4
    rw [HON.out]
    refine wpAnyH_take (i := 22) (oi := ⟨some 31, _, _, _, _, _⟩) rfl (by kernel_rfl) (by kernel_rfl) (by kernel_rfl) (fun _ _ _ h => h) (Or.inl ⟨by rfl, fun w hw => by ((try dsimp only at hw); go_split_ands; go_simp; with_reducible rfl)⟩) (by assumption) ?_
    try simp only [Act.put, List.setIfInBounds_toArray, List.set_cons_zero, List.set_cons_succ]
    refine wpAnyH_take (i := 23) (oi := ⟨some 32, _, _, _, _, _⟩) rfl (by kernel_rfl) (by kernel_rfl) (by kernel_rfl) (fun _ _ _ h => h) (Or.inl ⟨by rfl, fun w hw => by ((try dsimp only at hw); go_split_ands; go_simp; with_reducible rfl)⟩) (by assumption) ?_
    try simp only [Act.put, List.setIfInBounds_toArray, List.set_cons_zero, List.set_cons_succ]
    clear hH hub hszb
    refine wpAnyH_done (by kernel_rfl) ?_ _
    have HP4 : Hid (PrIs w4 w.heap.size true (.slice AV n1 cV) bits (.slice As n cs)) := BlkIs.below HP2.out HB4.out
    have HW4 : Hid (Below w.heap.size w w4) := HW.out.trans (HB4.out.mono HW.out.size)
    have HG4 : Hid (w.heap.size < w4.heap.size) := HP4.out.lt
    clear HB0 HP2 HSS HB4
    go_wp2_with (with_reducible refine stopAt (o := ⟨some 35, _, _, _, _, _⟩) ?_)
    have HO : Hid (OwnU (w4.alloc (.cells #[.int .u8 0] 5)) w4.heap.size (.slice (some ⟨w4.heap.size, 0, none⟩) 1 1) [0]) := own_byte 0 (by omega)
    have HB : Hid (Below w4.heap.size w4 (w4.alloc (.cells #[.int .u8 0] 5))) := (Below.refl _ _).alloc (Nat.le_refl _) _
    have hcf : (w4.alloc (.cells #[.int .u8 0] 5)).cell? ⟨w.heap.size, 0, none⟩ = some (.bool true) := (BlkIs.below HP4.out HB.out).cell 0
    refine Lib.hid ?_
    clear HO
    generalize w4.alloc (.cells #[.int .u8 0] 5) = w5 at *
    have HP5 : Hid (PrIs w5 w.heap.size true (.slice AV n1 cV) bits (.slice As n cs)) := BlkIs.below HP4.out HB.out
    have HW5 : Hid (Below w.heap.size w w5) := HW4.out.trans (HB.out.mono HW4.out.size)
    clear HB HP4 HW4 HG4
    have hc1 : w5.cell? ⟨w.heap.size, 1, none⟩ = some (.slice AV n1 cV) := HP5.out.cell 1
    have HC1 : Hid (∀ W, Below w5.heap.size w5 W → W.cell? ⟨w.heap.size, 1, none⟩ = some (.slice AV n1 cV)) := fun W hb => (BlkIs.below HP5.out hb).cell 1
    have HVI := Lib.hid hvI
    have hm : (n1 : Int).tmod 256 = (n1 : Int) := by rw [Int.tmod_eq_emod_of_nonneg (by omega)]; omega
    have hq : (n1 : Int).tdiv 256 = 0 := by rw [Int.tdiv_eq_ediv_of_nonneg (by omega)]; omega
    go_wp2_with fail
    have HO : Hid (OwnU (w5.alloc (.cells #[.int .u8 1, .int .u8 (n1 : Int), .int .u8 0] 5)) w5.heap.size (.slice (some ⟨w5.heap.size, 0, none⟩) 3 3) [1, n1, 0]) := own_three 1 n1 0 (by omega) (by omega) (by omega)
    have HB : Hid (Below w5.heap.size w5 (w5.alloc (.cells #[.int .u8 1, .int .u8 (n1 : Int), .int .u8 0] 5))) := (Below.refl _ _).alloc (Nat.le_refl _) _
    rw [if_pos trivial, Nat.mod_eq_of_lt (show n1 < 256 by omega), Nat.div_eq_of_lt (show n1 < 256 by omega)] at HENC
    clear hc1 hm hq hcf
    go_loopw [4, 5] (fun v i wr => ∃ k : Nat, k ≤ n1 ∧ i = .int .i64 k ∧ Hid (OwnU wr w5.heap.size v ([1, n1, 0] ++ vl.take k)) ∧ Hid (Below w5.heap.size w5 wr)) (fun _ i _ => n1 - (intOf i).toNat)
    case atStart => exact ⟨0, by omega, rfl, HO.out, HB.out⟩
    case round =>
      clear HO HB
      obtain ⟨k, hk, rfl, HO, HB⟩ := hrel
      have hc1 := HC1.out wr HB.out
      by_cases hlt : k < n1
      · have hlt' : (k : Int) < n1 := by omega
        have HXr := HVR.out.below (HW5.out.trans (HB.out.mono HW5.out.size))
        obtain ⟨ad, rfl, hb, hc⟩ := HXr.at_ hlt
        clear HXr
        have hk32 : k < vl.length := by rw [HN1.out]; exact hlt
        have hx8 : vl.getD k 0 < 256 := HVF.out.1 _ (getD_mem hk32)
        have HTS : Hid ([1, n1, 0] ++ vl.take (k + 1) = [1, n1, 0] ++ vl.take k ++ [vl.getD k 0]) := by show _ = _; rw [take_succ_getD hk32, List.append_assoc]
        have hln : ([1, n1, 0] ++ vl.take k).length + 1 ≤ 140737488355328 := by rw [List.length_append, List.length_take]; simp; omega
        clear hk32
        generalize vl.getD k 0 = b at *
        go_wp2_with (at_builtin; refine append1 und_bytes info_byte wr rfl (.tmp 54) (.tmp 60) rfl w5.heap.size _ _ HO.out b hx8 rfl rfl hln HB.out.size ?_; intro v' w1 hown1 hgrow1)
        have HB1 := Lib.hid (HB.out.grown hgrow1 HB.out.size HO.out.ge)
        go_roundw
        case rel => exact ⟨k + 1, by omega, by go_num, by rw [HTS.out]; exact hown1, HB1.out⟩
        case measure => simp [intOf]; omega
      · have hnlt : ¬ (k : Int) < n1 := by omega
        have HKT : Hid (vl.take k = vl) := List.take_of_length_le (by rw [HN1.out]; omega)
        rw [HKT.out] at HO
        obtain ⟨hd, HHD⟩ : ∃ hd : List Nat, Hid (([1, n1, 0] : List Nat) ++ vl = hd) := ⟨[1, n1, 0] ++ vl, (rfl : ([1, n1, 0] : List Nat) ++ vl = [1, n1, 0] ++ vl)⟩
        have HDL : Hid (hd.length ≤ 150) := by rw [← HHD.out]; show _ ≤ _; rw [List.length_append, HN1.out]; simp; omega
        rw [show 1 :: n1 :: 0 :: vl = hd from HHD.out] at HENC
        rw [HHD.out] at HO
        clear HHD HKT hlt hk
        go_wp2_with fail
        go_loopw [4, 6] (fun v i wr => ∃ k : Nat, k ≤ 32 ∧ i = .int .i64 k ∧ Hid (OwnU wr w5.heap.size v (hd ++ bits.take k)) ∧ Hid (Below w5.heap.size w5 wr)) (fun _ i _ => 32 - (intOf i).toNat)
        case atStart => exact ⟨0, by omega, rfl, by rw [List.take_zero, List.append_nil]; exact HO.out, HB.out⟩
        case round =>
          clear HO HB
          obtain ⟨k, hk, rfl, HO, HB⟩ := hrel
          by_cases hlt : k < 32
          · have hlt' : (k : Int) < 32 := by omega
            have hk32 : k < bits.length := by rw [HBF.out.1]; exact hlt
            have hc : wr.cell? ⟨w.heap.size, 2 + k, none⟩ = some (.int .u8 (bits.getD k 0 : Nat)) := PrIs.bitCell (BlkIs.below HP5.out HB.out) HBF.out.1 hlt
            have hx8 : bits.getD k 0 < 256 := HBF.out.2 _ (getD_mem hk32)
            have HTS : Hid (hd ++ bits.take (k + 1) = hd ++ bits.take k ++ [bits.getD k 0]) := by show _ = _; rw [take_succ_getD hk32, List.append_assoc]
            have hln : (hd ++ bits.take k).length + 1 ≤ 140737488355328 := by rw [List.length_append, List.length_take]; have := HDL.out; omega
            clear hk32
            generalize bits.getD k 0 = b at *
            go_wp2_with (at_builtin; refine append1 und_bytes info_byte wr rfl (.tmp 66) (.tmp 71) rfl w5.heap.size _ _ HO.out b hx8 rfl rfl hln HB.out.size ?_; intro v' w1 hown1 hgrow1)
            have HB1 := Lib.hid (HB.out.grown hgrow1 HB.out.size HO.out.ge)
            go_roundw
            case rel => exact ⟨k + 1, by omega, by go_num, by rw [HTS.out]; exact hown1, HB1.out⟩
            case measure => simp [intOf]; omega
          · have hnlt : ¬ (k : Int) < 32 := by omega
            have HKT : Hid (bits.take k = bits) := List.take_of_length_le (by rw [HBF.out.1]; omega)
            rw [HKT.out] at HO
            clear hlt HKT
            obtain ⟨h2, HH2⟩ : ∃ h2, Hid (hd ++ bits = h2) := ⟨_, rfl⟩
            have HHL : Hid (h2.length ≤ 200) := by show _ ≤ _; rw [← HH2.out, List.length_append, HBF.out.1]; have := HDL.out; omega
            rw [HH2.out] at HO
            go_wp2_with fail
            go_loopw [4, 7, 8] (fun v j _ wr => ∃ k : Nat, k ≤ n ∧ j = .int .i64 k ∧ Hid (OwnU wr w5.heap.size v (h2 ++ fl.take (k * 32))) ∧ Hid (Below w5.heap.size w5 wr)) (fun _ j _ _ => n - (intOf j).toNat)
            case atStart => exact ⟨0, by omega, rfl, by rw [Nat.zero_mul, List.take_zero, List.append_nil]; exact HO.out, HB.out⟩
            case round =>
              clear HO HB
              obtain ⟨j, hj, rfl, HO, HB⟩ := hrel
              have hc34 : wr.cell? ⟨w.heap.size, 34, none⟩ = some (.slice As n cs) := PrIs.sumsCell (BlkIs.below HP5.out HB.out) HBF.out.1
              by_cases hlt2 : j < n
              · have hlt2' : (j : Int) < n := by omega
                obtain ⟨g, hAs⟩ : ∃ g, As = some ⟨g, 0, none⟩ := by
                  obtain ⟨_, g, e, _⟩ := HSC.out w (Below.refl _ _) (j * 32) (by omega)
                  exact ⟨g, e⟩
                subst hAs
                have HNC : Hid (n ≤ cs) := (HSC.out w (Below.refl _ _) (j * 32) (by omega)).1
                go_wp2_with fail
                clear hc34
                go_loopw [4, 8] (fun v i wr => ∃ k : Nat, k ≤ 32 ∧ i = .int .i64 k ∧ Hid (OwnU wr w5.heap.size v (h2 ++ fl.take (j * 32 + k))) ∧ Hid (Below w5.heap.size w5 wr)) (fun _ i _ => 32 - (intOf i).toNat)
                case atStart => exact ⟨0, by omega, rfl, HO.out, HB.out⟩
                case round =>
                  clear HO HB
                  obtain ⟨i, hi, rfl, HO, HB⟩ := hrel
                  have hc34 : wr.cell? ⟨w.heap.size, 34, none⟩ = some (.slice (some ⟨g, 0, none⟩) n cs) := PrIs.sumsCell (BlkIs.below HP5.out HB.out) HBF.out.1
                  by_cases hlt3 : i < 32
                  · have hlt3' : (i : Int) < 32 := by omega
                    have hjl : j * 32 + i < fl.length := by rw [HLN.out]; omega
                    have hcc : wr.cell? ⟨g, j * 32 + i, none⟩ = some (.int .u8 (fl.getD (j * 32 + i) 0 : Nat)) := by
                      obtain ⟨_, g', e, h⟩ := HSC.out wr (HW5.out.trans (HB.out.mono HW5.out.size)) (j * 32 + i) (by omega)
                      injection e with e
                      injection e with e
                      subst e
                      exact h
                    have hx8 : fl.getD (j * 32 + i) 0 < 256 := HFB.out _ (getD_mem hjl)
                    have HTS : Hid (h2 ++ fl.take (j * 32 + (i + 1)) = h2 ++ fl.take (j * 32 + i) ++ [fl.getD (j * 32 + i) 0]) := by show _ = _; rw [← Nat.add_assoc, take_succ_getD hjl, List.append_assoc]
                    have hln : (h2 ++ fl.take (j * 32 + i)).length + 1 ≤ 140737488355328 := by rw [List.length_append, List.length_take]; have := HHL.out; omega
                    clear hjl
                    generalize fl.getD (j * 32 + i) 0 = b at *
                    go_wp2_with (at_builtin; refine append1 und_bytes info_byte wr rfl (.tmp 84) (.tmp 92) rfl w5.heap.size _ _ HO.out b hx8 rfl rfl hln HB.out.size ?_; intro v' w1 hown1 hgrow1)
                    have HB1 := Lib.hid (HB.out.grown hgrow1 HB.out.size HO.out.ge)
                    go_roundw
                    case rel => exact ⟨i + 1, by omega, by go_num, by rw [HTS.out]; exact hown1, HB1.out⟩
                    case measure => simp [intOf]; omega
                  · have hnlt3 : ¬ (i : Int) < 32 := by omega
                    have HO' : Hid (OwnU wr w5.heap.size u4 (h2 ++ fl.take ((j + 1) * 32))) := by rw [show (j + 1) * 32 = j * 32 + i by omega]; exact HO.out
                    go_wp2_with fail
                    go_roundw
                    case rel => exact ⟨j + 1, by omega, by go_num, HO'.out, HB.out⟩
                    case measure => simp [intOf]; omega
              · have hnlt2 : ¬ (j : Int) < n := by omega
                have HFT : Hid (fl.take (j * 32) = fl) := List.take_of_length_le (by rw [HLN.out]; have := hj; omega)
                rw [HFT.out, ← HH2.out, List.append_assoc, ← HENC.out] at HO
                go_wp2_with fail
                go_ret2
                exact ⟨_, rfl, HO.out.mono HW5.out.size, HW5.out.trans (HB.out.mono HW5.out.size)⟩
end Go.Proofs.YtfnlhfaihoojfaaDoor
