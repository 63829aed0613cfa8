/- R12c, R12d, R12o (merged) -/
import Derived.Test.YtfnlhfaihoojfaaDoorFr
import Derived.Test.YtfnlhfaihoojfaaDoorDecode
/- ledgerref12.set. -/
namespace Go.Proofs.YtfnlhfaihoojfaaDoor
open Go.RowKit
theorem pr_ret1 {fn : Func} {p : Tmp} {R : Ending → World → Prop} {x : Act} {w : World} {g : Nat} {f : Bool} {v s : Value} {bits : List Nat} (h : fn.results = #[.cell p 57]) (hp : x.tmps.getD p undef = .pointer (some ⟨g, 0, none⟩))
    (hb : PrIs w g f v bits s) (hl : bits.length = 32) (hd : x.defers = []) (hR : R (.returned (.agg (prC f v bits s).toArray)) w) : bodyPost Tryd.prog fn R .ret x w := by
  refine bodyPost_ret (v := .agg (prC f v bits s).toArray) ?_ hd hR
  obtain ⟨d, hu2, hd2⟩ := row_of row_pr
  have hl := run_loadVar_mid (P := Tryd.prog) w g 0 57 (prC f v bits s) d (BlkIs.range hb) hu2 hd2 (by rw [size_pr, prC_length hl])
  rw [results_cell h, hp]
  simp [asAddr, Result.andThen, hl]
theorem PrIs.bitSet {w : World} {g : Nat} {f : Bool} {v s : Value} {bits : List Nat} (h : PrIs w g f v bits s) (hl : bits.length = 32) {q : Nat} (hq : q < 32) (x : Nat) : PrIs (w.setCell ⟨g, 2 + q, none⟩ (.int .u8 x)) g f v (bits.set q x) s := by
  have h1 := BlkIs.stored h (2 + q) (.int .u8 x)
  have e : (prC f v bits s).toArray.setIfInBounds (2 + q) (.int .u8 x) = (prC f v (bits.set q x) s).toArray := by
    rw [List.setIfInBounds_toArray]
    congr 1
    show (Value.bool f :: v :: (bvs bits ++ [s])).set (2 + q) _ = _
    rw [show 2 + q = q + 1 + 1 by omega, List.set_cons_succ, List.set_cons_succ, List.set_append_left _ _ (by simp [bvs, hl, hq]), prC, bvs, bvs, List.map_set]
    rfl
  rw [e] at h1
  exact h1
theorem PrIs.bitCell {w : World} {g : Nat} {f : Bool} {v s : Value} {bits : List Nat} (h : PrIs w g f v bits s) (hl : bits.length = 32) {q : Nat} (hq : q < 32) : w.cell? ⟨g, 2 + q, none⟩ = some (.int .u8 (bits.getD q 0 : Nat)) := by
  have h1 := h.cell (2 + q)
  rw [h1, List.getElem?_toArray]
  show (Value.bool f :: v :: (bvs bits ++ [s]))[2 + q]? = _
  rw [show 2 + q = q + 1 + 1 by omega, List.getElem?_cons_succ, List.getElem?_cons_succ, List.getElem?_append_left (by simp [bvs, hl, hq]), bvs, List.getElem?_map, List.getD_eq_getElem?_getD, List.getElem?_eq_getElem (by omega)]
  rfl
theorem pr_all {w : World} {g : Nat} {f : Bool} {v s : Value} {bits : List Nat} (h : PrIs w g f v bits s) : PrIs w g f v bits s := h
/-- What set tells. -/
def SetPost (wd : Int) (base : Nat) (f : Bool) (V S : Value) (bits d : List Nat) (xs : List Value) (n h : Nat) (w : World) (e : Ending) (w' : World) : Prop :=
  (d = emptyD wd h → e = .returned (.agg (prC f V bits S).toArray) ∧ Below w.heap.size w w') ∧
  (d ≠ emptyD wd h → ∃ S', e = .returned (.agg (prC f V (bits.set (h / 8) (bits.getD (h / 8) 0 + 2 ^ (h % 8))) S').toArray) ∧ w'.ownsRow base 29 32 S' (n + 1) (xs ++ bvs d) ∧ Touch (fun B => some B = S.ownBlock) w w' ∧ Lies w S S')
set_option maxRecDepth 20000 in
set_option maxHeartbeats 2000000 in
theorem rset_any (wd : Int) (g c base : Nat) (f : Bool) (V S : Value) (bits d : List Nat) (xs : List Value) (n h : Nat) (w : World) (hE : EsAt w g wd) (hh : h < 256) (hbl : bits.length = 32) (hd : IsB d) (hdl : d.length = 32) (hV : V.oneCell' = true)
    (hS : w.ownsRow base 29 32 S n xs) (hn : n ≤ 256) (hba : base ≤ w.heap.size) (hlt : bits.getD (h / 8) 0 + 2 ^ (h % 8) < 256) :
    Calls Tryd.prog 76 #[.agg (prC f V bits S).toArray, .slice (some ⟨g, 0, none⟩) 257 c, .int .i64 h, .agg (bvs d).toArray] w (SetPost wd base f V S bits d xs n h w) := by
  obtain ⟨E, HEE⟩ : ∃ E, Hid (emptyD wd h = E) := ⟨_, rfl⟩
  have HEF : Hid (E.length = 32 ∧ IsB E) := by rw [← HEE.out]; exact ⟨emptyD_length wd h, emptyD_isB wd h⟩
  have HER : Hid (∀ W, Below w.heap.size w W → W.rangeAt g (h * 32) (bvs E)) := fun W hb => by rw [← HEE.out]; exact (hE.below hb).2 h (by omega)
  have HBL := Lib.hid hbl
  have HDF := Lib.hid (And.intro hdl hd)
  have HV := Lib.hid hV
  have HS := Lib.hid hS
  have HBA := Lib.hid hba
  have hS1 : Hid (S.oneCell' = true) := row_oneCell hS
  have hnI : (n : Int) ≤ 256 := by omega
  have hh257 : (h : Int) < 257 := by omega
  obtain ⟨q, hq0⟩ : ∃ q, h / 8 = q := ⟨_, rfl⟩
  obtain ⟨r, hr0⟩ : ∃ r, h % 8 = r := ⟨_, rfl⟩
  obtain ⟨T, HTT⟩ : ∃ T, Hid (bits.set q (bits.getD q 0 + 2 ^ r) = T) := ⟨_, rfl⟩
  have HPOST : Hid (∀ e w', ((d = E → e = .returned (.agg (prC f V bits S).toArray) ∧ Below w.heap.size w w') ∧ (d ≠ E → ∃ S', e = .returned (.agg (prC f V T S').toArray) ∧ w'.ownsRow base 29 32 S' (n + 1) (xs ++ bvs d) ∧ Touch (fun B => some B = S.ownBlock) w w' ∧ Lies w S S')) → SetPost wd base f V S bits d xs n h w e w') := fun e w' hp => by
    unfold SetPost
    rw [HEE.out, hq0, hr0, HTT.out]
    exact hp
  rw [hq0, hr0] at hlt
  have HLT := Lib.hid hlt
  have hqI : (h : Int).tdiv 8 = (q : Int) := by rw [Int.tdiv_eq_ediv_of_nonneg (by omega)]; omega
  have hrI : (h : Int).tmod 8 = (r : Int) := by rw [Int.tmod_eq_emod_of_nonneg (by omega)]; omega
  have hq32 : (q : Int) < 32 := by omega
  have hr8 : (r : Int) < 8 := by omega
  refine Calls.mono ?_ HPOST.out
  clear hE hbl hd hdl hV hS hba hlt HPOST HEE hq0 hr0 hn
  go_enter Tryd.func76, Tryd.ntmps76
  go_upto_region 1 with fail
  refine start3 (G := fun w2 => Code.wp _ _ _ _ w2) fun w2 H1 H2 H3 HW HSZ => ?_
  have HP2 : Hid (PrIs w2 w.heap.size f V bits S) := H1
  have HD2 : Hid (BlkB w2 (w.heap.size + 1) 29 d) := H2
  have HR2 : Hid (PrIs w2 (w.heap.size + 1 + 1) false (.slice none 0 0) (zs 32) (.slice none 0 0)) := H3
  clear H1 H2 H3
  have HSS : Hid (∀ W, Below w2.heap.size w2 W → W.rangeAt (w.heap.size + 1) 0 (bvs d) ∧ W.rangeAt g (h * 32) (bvs E)) := fun W hb => ⟨BlkIs.range (BlkIs.below HD2.out hb), HER.out W (HW.out.trans (hb.mono HW.out.size))⟩
  have hud := und_dig
  have hszd : (Tryd.prog.info? 29).map (·.size) = some (bvs d).length := by rw [size_dig]; simp [bvs, HDF.out.1]
  have hszE : (Tryd.prog.info? 29).map (·.size) = some (bvs E).length := by rw [size_dig]; simp [bvs, HEF.out.1]
  have HB0 : Hid (Below w2.heap.size w2 w2.drew) := drewN_below (Below.refl _ _) 1
  by_cases hde : d = E
  · have hEq : ∀ W, (Op.equalIn 10000 29 (.agg (bvs d).toArray) (.agg (bvs E).toArray)).run Tryd.prog W = .ok true W := fun W => by rw [dig_eq W d E HDF.out.2 HEF.out.2 HDF.out.1 HEF.out.1, decide_eq_true hde]
    have HDE := Lib.hid hde
    clear hde
    refine wp_region_held_drew (S := fun w' => w'.rangeAt (w.heap.size + 1) 0 (bvs d) ∧ w'.rangeAt g (h * 32) (bvs E)) (by kernel_rfl) (HSS.out _ HB0.out) fun hH => ?_
    generalize w2.drew = w3 at *
    refine wpAnyH_take (i := 0) (oi := ⟨some 11, _, _, _, _, _⟩) rfl (by kernel_rfl) (by kernel_rfl) (by kernel_rfl) (fun _ _ _ h => h) (yieldsIf_load_mid (by rfl) _ _ rfl _ _ rfl _ _ (fun w hw => by (try dsimp only at hw); go_split_ands; assumption) (by assumption) rfl (by assumption)) (by assumption) ?_
    try simp only [Act.put, List.setIfInBounds_toArray, List.set_cons_zero, List.set_cons_succ]
    refine wpAnyH_take (i := 1) (oi := ⟨some 12, _, _, _, _, _⟩) rfl (by kernel_rfl) (by kernel_rfl) (by kernel_rfl) (fun _ _ _ h => h) (Or.inl ⟨by rfl, fun w hw => by ((try dsimp only at hw); go_split_ands; go_simp; with_reducible rfl)⟩) (by assumption) ?_
    try simp only [Act.put, List.setIfInBounds_toArray, List.set_cons_zero, List.set_cons_succ]
    refine wpAnyH_take (i := 2) (oi := ⟨some 13, _, _, _, _, _⟩) rfl (by kernel_rfl) (by kernel_rfl) (by kernel_rfl) (fun _ _ _ h => h) (Or.inl ⟨by rfl, fun w hw => by ((try dsimp only at hw); go_split_ands; go_simp; with_reducible rfl)⟩) (by assumption) ?_
    try simp only [Act.put, List.setIfInBounds_toArray, List.set_cons_zero, List.set_cons_succ]
    refine wpAnyH_take (i := 3) (oi := ⟨some 14, _, _, _, _, _⟩) rfl (by kernel_rfl) (by kernel_rfl) (by kernel_rfl) (fun _ _ _ h => h) (Or.inl ⟨by rfl, fun w hw => by ((try dsimp only at hw); go_split_ands; go_simp; with_reducible rfl)⟩) (by assumption) ?_
    try simp only [Act.put, List.setIfInBounds_toArray, List.set_cons_zero, List.set_cons_succ]
    refine wpAnyH_take (i := 4) (oi := ⟨some 15, _, _, _, _, _⟩) rfl (by kernel_rfl) (by kernel_rfl) (by kernel_rfl) (fun _ _ _ h => h) (yieldsIf_load_mid (by rfl) _ _ rfl _ _ rfl _ _ (fun w hw => by (try dsimp only at hw); go_split_ands; assumption) (by assumption) rfl (by assumption)) (by assumption) ?_
    try simp only [Act.put, List.setIfInBounds_toArray, List.set_cons_zero, List.set_cons_succ]
    refine wpAnyH_take (i := 5) (oi := ⟨some 16, _, _, _, _, _⟩) rfl (by kernel_rfl) (by kernel_rfl) (by kernel_rfl) (fun _ _ _ h => h) (Or.inl ⟨by rfl, fun w hw => by ((try dsimp only at hw); go_split_ands; go_simp; with_reducible rfl)⟩) (by assumption) ?_
    try simp only [Act.put, List.setIfInBounds_toArray, List.set_cons_zero, List.set_cons_succ]
    clear hH hud hszd hszE hEq
    refine wpAnyH_done (by kernel_rfl) ?_ _
    have HP3 : Hid (PrIs w3 w.heap.size f V bits S) := BlkIs.below HP2.out HB0.out
    have HR3 : Hid (PrIs w3 (w.heap.size + 1 + 1) false (.slice none 0 0) (zs 32) (.slice none 0 0)) := BlkIs.below HR2.out HB0.out
    have HB3 : Hid (Below w.heap.size w w3) := HW.out.trans (HB0.out.mono HW.out.size)
    go_wp2_with (first
      | ((with_reducible refine stopAt (o := ⟨some 17, _, _, _, _, _⟩) ?_); refine loadPr (o := ⟨some 17, _, _, _, _, _⟩) rfl (.tmp 4) rfl w.heap.size f V bits S rfl HP3.out HBL.out ?_)
      | (refine storePr (o := ⟨none, _, _, _, _, _⟩) rfl (.tmp 8) (.tmp 17) rfl (w.heap.size + 1 + 1) f V bits S rfl rfl HR3.out HBL.out HV.out hS1.out ?_; intro w4 hp4 hg4))
    exact pr_ret1 rfl rfl hp4 HBL.out rfl ⟨fun _ => ⟨rfl, HB3.out.grown hg4 HB3.out.size fun k hk => by injection hk with hk; omega⟩, fun h => absurd HDE.out h⟩
  · have hEq : ∀ W, (Op.equalIn 10000 29 (.agg (bvs d).toArray) (.agg (bvs E).toArray)).run Tryd.prog W = .ok false W := fun W => by rw [dig_eq W d E HDF.out.2 HEF.out.2 HDF.out.1 HEF.out.1, decide_eq_false hde]
    have HDE := Lib.hid hde
    clear hde
    refine wp_region_held_drew (S := fun w' => w'.rangeAt (w.heap.size + 1) 0 (bvs d) ∧ w'.rangeAt g (h * 32) (bvs E)) (by kernel_rfl) (HSS.out _ HB0.out) fun hH => ?_
    generalize w2.drew = w3 at *
    refine wpAnyH_take (i := 0) (oi := ⟨some 11, _, _, _, _, _⟩) rfl (by kernel_rfl) (by kernel_rfl) (by kernel_rfl) (fun _ _ _ h => h) (yieldsIf_load_mid (by rfl) _ _ rfl _ _ rfl _ _ (fun w hw => by (try dsimp only at hw); go_split_ands; assumption) (by assumption) rfl (by assumption)) (by assumption) ?_
    try simp only [Act.put, List.setIfInBounds_toArray, List.set_cons_zero, List.set_cons_succ]
    refine wpAnyH_take (i := 1) (oi := ⟨some 12, _, _, _, _, _⟩) rfl (by kernel_rfl) (by kernel_rfl) (by kernel_rfl) (fun _ _ _ h => h) (Or.inl ⟨by rfl, fun w hw => by ((try dsimp only at hw); go_split_ands; go_simp; with_reducible rfl)⟩) (by assumption) ?_
    try simp only [Act.put, List.setIfInBounds_toArray, List.set_cons_zero, List.set_cons_succ]
    refine wpAnyH_take (i := 2) (oi := ⟨some 13, _, _, _, _, _⟩) rfl (by kernel_rfl) (by kernel_rfl) (by kernel_rfl) (fun _ _ _ h => h) (Or.inl ⟨by rfl, fun w hw => by ((try dsimp only at hw); go_split_ands; go_simp; with_reducible rfl)⟩) (by assumption) ?_
    try simp only [Act.put, List.setIfInBounds_toArray, List.set_cons_zero, List.set_cons_succ]
    refine wpAnyH_take (i := 3) (oi := ⟨some 14, _, _, _, _, _⟩) rfl (by kernel_rfl) (by kernel_rfl) (by kernel_rfl) (fun _ _ _ h => h) (Or.inl ⟨by rfl, fun w hw => by ((try dsimp only at hw); go_split_ands; go_simp; with_reducible rfl)⟩) (by assumption) ?_
    try simp only [Act.put, List.setIfInBounds_toArray, List.set_cons_zero, List.set_cons_succ]
    refine wpAnyH_take (i := 4) (oi := ⟨some 15, _, _, _, _, _⟩) rfl (by kernel_rfl) (by kernel_rfl) (by kernel_rfl) (fun _ _ _ h => h) (yieldsIf_load_mid (by rfl) _ _ rfl _ _ rfl _ _ (fun w hw => by (try dsimp only at hw); go_split_ands; assumption) (by assumption) rfl (by assumption)) (by assumption) ?_
    try simp only [Act.put, List.setIfInBounds_toArray, List.set_cons_zero, List.set_cons_succ]
    refine wpAnyH_take (i := 5) (oi := ⟨some 16, _, _, _, _, _⟩) rfl (by kernel_rfl) (by kernel_rfl) (by kernel_rfl) (fun _ _ _ h => h) (Or.inl ⟨by rfl, fun w hw => by ((try dsimp only at hw); go_split_ands; go_simp; with_reducible rfl)⟩) (by assumption) ?_
    try simp only [Act.put, List.setIfInBounds_toArray, List.set_cons_zero, List.set_cons_succ]
    clear hH hud hszd hszE hEq
    refine wpAnyH_done (by kernel_rfl) ?_ _
    have HP3 : Hid (PrIs w3 w.heap.size f V bits S) := BlkIs.below HP2.out HB0.out
    have HD3 : Hid (BlkB w3 (w.heap.size + 1) 29 d) := BlkIs.below HD2.out HB0.out
    have HR3 : Hid (PrIs w3 (w.heap.size + 1 + 1) false (.slice none 0 0) (zs 32) (.slice none 0 0)) := BlkIs.below HR2.out HB0.out
    have HB3 : Hid (Below w.heap.size w w3) := HW.out.trans (HB0.out.mono HW.out.size)
    clear HP2 HD2 HR2 HSS HB0 HER
    go_wp2_with fail
    go_loopw [9, 10] (fun v i wr => ∃ k : Nat, k ≤ r ∧ i = .int .i64 k ∧ v = .int .u8 ((2 ^ k : Nat) : Int) ∧ wr = w3) (fun _ i _ => r - (intOf i).toNat)
    case atStart => exact ⟨0, by omega, rfl, rfl, rfl⟩
    case round =>
      obtain ⟨k, hk, rfl, rfl, rfl⟩ := hrel
      by_cases hlt : k < r
      · have hlt' : (k : Int) < r := by omega
        have HPK : Hid (2 ^ (k + 1) = 2 * 2 ^ k) := by show _ = _; rw [Nat.pow_succ]; omega
        have h64 : 2 ^ k ≤ 2 ^ 6 := Nat.pow_le_pow_right (by decide) (by omega)
        have h65 : ((2 ^ k : Nat) : Int) ≤ 64 := by omega
        clear h64
        generalize 2 ^ k = p at *
        go_wp2_with fail
        go_roundw
        case rel => exact ⟨k + 1, by omega, by go_num, by rw [HPK.out]; go_num, trivial⟩
        case measure => simp [intOf]; omega
      · have hnlt : ¬ (k : Int) < r := by omega
        obtain rfl : k = r := by omega
        have hc : wr.cell? ⟨w.heap.size, 2 + q, none⟩ = some (.int .u8 (bits.getD q 0 : Nat)) := HP3.out.bitCell HBL.out (by omega)
        have hf : wr.frozen? ⟨w.heap.size, 2 + q, none⟩ = false := BlkIs.frozen HP3.out _
        generalize bits.getD q 0 = x at *
        generalize 2 ^ k = p at *
        have hxp : (x : Int) + p < 256 := by have := HLT.out; omega
        have HXP : Hid ((x : Int) + p = ((x + p : Nat) : Int)) := by show _ = _; omega
        have HPB : Hid (PrIs (wr.setCell ⟨w.heap.size, 2 + q, none⟩ (.int .u8 ((x + p : Nat) : Int))) w.heap.size f V (bits.set q (x + p)) S) := HP3.out.bitSet HBL.out (by omega) _
        go_wp2_with (with_reducible refine stopAt (o := ⟨some 38, _, _, _, _, _⟩) ?_)
        rw [HXP.out]
        have hg4 : wr.grownBy (wr.setCell ⟨w.heap.size, 2 + q, none⟩ (.int .u8 ((x + p : Nat) : Int))) (some w.heap.size) := grown_setCell wr (2 + q) _
        have HD4 : Hid (BlkB (wr.setCell ⟨w.heap.size, 2 + q, none⟩ (.int .u8 ((x + p : Nat) : Int))) (w.heap.size + 1) 29 d) := (Touch.one hg4).blk HD3.out (by omega)
        have HR4 : Hid (PrIs (wr.setCell ⟨w.heap.size, 2 + q, none⟩ (.int .u8 ((x + p : Nat) : Int))) (w.heap.size + 1 + 1) false (.slice none 0 0) (zs 32) (.slice none 0 0)) := (Touch.one hg4).blk HR3.out (by omega)
        have HB4 : Hid (Below w.heap.size w (wr.setCell ⟨w.heap.size, 2 + q, none⟩ (.int .u8 ((x + p : Nat) : Int)))) := HB3.out.grown hg4 HB3.out.size fun k hk => by injection hk with hk; omega
        clear hg4 hc hf HP3 HD3 HR3 HXP HLT
        generalize wr.setCell ⟨w.heap.size, 2 + q, none⟩ (.int .u8 ((x + p : Nat) : Int)) = w4 at *
        generalize x + p = y at *
        have HBS : Hid (T.length = 32) := by show _ = _; rw [← HTT.out, List.length_set]; exact HBL.out
        rw [HTT.out] at HPB
        have HS4 : Hid (w4.ownsRow base 29 32 S n xs) := (Touch.ofBelow HB4.out).row HS.out fun _ _ h => h
        have HSL : Hid (∀ B, S.ownBlock = some B → base ≤ B ∧ B < w.heap.size) := fun B hB => row_lt HS.out hB
        have HG4 : Hid (w.heap.size + 1 + 1 < w4.heap.size) := HR4.out.lt
        have hc34 : w4.cell? ⟨w.heap.size, 34, none⟩ = some S := HPB.out.sumsCell HBS.out
        refine Lib.hid ?_
        go_wp2_with (first
          | ((with_reducible refine stopAt (o := ⟨some 39, _, _, _, _, _⟩) ?_); refine wpList_load_arr (o := ⟨some 39, _, _, _, _, _⟩) (by rfl) 29 (.tmp 7) rfl ⟨w.heap.size + 1, 0, none⟩ 32 d rfl (HD4.out.whole HDF.out.2 HDF.out.1) (by omega) (by kernel_rfl) (by kernel_rfl) ?_)
          | ((with_reducible refine stopAt (o := ⟨some 40, _, _, _, _, _⟩) ?_); refine buildSlice1 (o := ⟨some 40, _, _, _, _, _⟩) rfl w4 42 29 _ 32 (.tmp 39) rfl und_dgl info_dig (by decide) (by decide) (bvs d).toArray rfl (by simp [bvs, HDF.out.1]) ?_)
          | (with_reducible refine stopAt (o := ⟨some 41, _, _, _, _, _⟩) ?_))
        clear hc34
        have hd1 : (bvs d).length = 32 := by simp [bvs, HDF.out.1]
        refine append1D (t := 42) (e := 29) (o := ⟨some 41, _, _, _, _, _⟩) und_dgl info_dig3 (by rfl) w4 (by rfl) (.tmp 38) (.tmp 40) (by rfl) base S n xs HS4.out (bvs d) hd1 (fun u hu => bvs_oneCell _ u hu) (by rfl) (by rfl) (by omega) (by omega) (Nat.le_trans HBA.out HB4.out.size) ?_
        intro v5 w5 ho5 hg5 hl5
        obtain ⟨s5a, s5n, s5c, e5⟩ := row_form ho5
        subst e5
        have hne : ∀ B, w.heap.size ≤ B → ¬ some B = S.ownBlock := fun B h e => by have := (HSL.out B e.symm).2; omega
        have HP5 : Hid (PrIs w5 w.heap.size f V T S) := (Touch.grown hg5).blk HPB.out (hne _ (Nat.le_refl _))
        have HR5 : Hid (PrIs w5 (w.heap.size + 1 + 1) false (.slice none 0 0) (zs 32) (.slice none 0 0)) := (Touch.grown hg5).blk HR4.out (hne _ (by omega))
        have HT5 : Hid (Touch (fun B => some B = S.ownBlock) w w5) := ((Touch.ofBelow HB4.out).mono fun _ _ h => h.elim).trans (Touch.grown hg5)
        have HO5 := Lib.hid ho5
        have HL5 : Hid (∀ B, (Value.slice s5a s5n s5c).ownBlock = some B → S.ownBlock = some B ∨ w4.heap.size ≤ B) := hl5
        have hc5 : w5.cell? ⟨w.heap.size, 34, none⟩ = some S := HP5.out.sumsCell HBS.out
        have hf5 : w5.frozen? ⟨w.heap.size, 34, none⟩ = false := BlkIs.frozen HP5.out _
        have HG5 : Hid (w.heap.size + 1 + 1 < w5.heap.size) := HR5.out.lt
        clear ho5 hg5 hl5 hd1 HPB HR4 HB4 HS4 HD4
        have HP6 : Hid (PrIs (w5.setCell ⟨w.heap.size, 34, none⟩ (.slice s5a s5n s5c)) w.heap.size f V T (.slice s5a s5n s5c)) := HP5.out.sums HBS.out _
        have HR6 : Hid (PrIs (w5.setCell ⟨w.heap.size, 34, none⟩ (.slice s5a s5n s5c)) (w.heap.size + 1 + 1) false (.slice none 0 0) (zs 32) (.slice none 0 0)) := (Touch.one (grown_setCell w5 34 _)).blk HR5.out (by omega)
        go_wp2_with (first
          | ((with_reducible refine stopAt (o := ⟨some 43, _, _, _, _, _⟩) ?_); refine loadPr (o := ⟨some 43, _, _, _, _, _⟩) rfl (.tmp 4) rfl w.heap.size f V T (.slice s5a s5n s5c) rfl HP6.out HBS.out ?_)
          | (refine storePr (o := ⟨none, _, _, _, _, _⟩) rfl (.tmp 8) (.tmp 43) rfl (w.heap.size + 1 + 1) f V T (.slice s5a s5n s5c) rfl rfl HR6.out HBS.out HV.out rfl ?_; intro w7 hp7 hg7))
        have t6 : Touch (fun B => B = w.heap.size) w5 (w5.setCell ⟨w.heap.size, 34, none⟩ (.slice s5a s5n s5c)) := Touch.one (grown_setCell w5 34 _)
        have hne5 : ∀ B, (Value.slice s5a s5n s5c).ownBlock = some B → B ≠ w.heap.size ∧ B ≠ w.heap.size + 1 + 1 := fun B hB => by
          rcases HL5.out B hB with h | h
          · have := (HSL.out B h).2; omega
          · have := HG4.out; omega
        refine pr_ret1 rfl rfl hp7 HBS.out rfl ⟨fun h => absurd h HDE.out, fun _ => ⟨_, rfl, (Touch.one hg7).row (t6.row HO5.out fun B hB e => (hne5 B hB).1 e) fun B hB e => (hne5 B hB).2 e, ?_, fun B hB => (HL5.out B hB).imp id fun h => by have := HG4.out; omega⟩⟩
        exact (HT5.out.andThen t6 fun B hB e => by omega).andThen (Touch.one hg7) fun B hB e => by omega
end Go.Proofs.YtfnlhfaihoojfaaDoor

/- ledgerref12: ProveWith, Prove. -/
namespace Go.Proofs.YtfnlhfaihoojfaaDoor
open Go.RowKit
/-- A proof is stored over a proof. -/
theorem storePr2 {ops : Array Oper} {rest : List Oper} {o : Oper} {a : Act} {w : World} {Q : Exit → Act → World → Prop} (hgd : o.guard = none) (x y : Operand) (ho : o.op = .store 57 x y)
    (g : Nat) (f : Bool) (v : Value) (bits : List Nat) (s : Value) (hx : a.eval x = .pointer (some ⟨g, 0, none⟩)) (hy : a.eval y = .agg (prC f v bits s).toArray) {f0 : Bool} {v0 s0 : Value} {bits0 : List Nat} (h0 : PrIs w g f0 v0 bits0 s0) (hb0 : bits0.length = 32) (hb : bits.length = 32) (hv : v.oneCell' = true) (hs : s.oneCell' = true)
    (h : ∀ w', PrIs w' g f v bits s → w.grownBy w' (some g) → wpList Tryd.prog ops Q rest (a.put o.dst undef) w') : wpList Tryd.prog ops Q (o :: rest) a w := by
  refine wpList_store_row hgd 57 x y ho g _ hx hy 57 _ h0 (by rw [size_pr, List.size_toArray, prC_length hb]) (by rw [List.size_toArray, List.size_toArray, prC_length hb, prC_length hb0]) (by
    rw [Array.all_eq_true_iff_forall_mem]
    intro u hu
    exact prC_one hv hs u (by simpa using hu)) (h _ ?_ (grown_setRow _))
  show _ = _
  exact setRow_heap w g _ _ 57 (0, 0) h0
abbrev FF (wd : Int) (G : Nat → List Nat) (h : Nat) : Bool := decide (G h ≠ emptyD wd h)
theorem set_step {wd : Int} {base : Nat} {f : Bool} {V S : Value} {G : Nat → List Nat} {h : Nat} {w w' : World} {e : Ending} {bits D : List Nat} {ds : List (List Nat)} (hb : bits = bitsU (FF wd G) h) (hd : ds = sumsU (FF wd G) G h) (hD : G h = D)
    (hs : SumsAt w base S ds) (hp : SetPost wd base f V S bits D (bvs ds.flatten) ds.length h w e w') : ∃ S', e = .returned (.agg (prC f V (bitsU (FF wd G) (h + 1)) S').toArray) ∧ SumsAt w' base S' (sumsU (FF wd G) G (h + 1)) ∧ Touch (fun B => base ≤ B) w w' := by
  subst hb hd hD
  by_cases he : G h = emptyD wd h
  · obtain ⟨e1, hb⟩ := hp.1 he
    have hf : FF wd G h = false := by simp [FF, he]
    refine ⟨S, ?_, ?_, (Touch.ofBelow hb).mono fun _ _ h => h.elim⟩
    · rw [e1, bitsU, hf]; rfl
    · rw [sumsU, hf]
      exact (Touch.ofBelow hb).row hs fun _ _ h => h
  · obtain ⟨S', e1, hr, ht, _⟩ := hp.2 he
    have hf : FF wd G h = true := by simp [FF, he]
    refine ⟨S', ?_, ?_, ht.mono fun B _ h => (row_lt hs h.symm).1⟩
    · rw [e1, bitsU, hf]; rfl
    · rw [sumsU, hf]
      show World.ownsRow _ _ _ _ _ (_ ++ _ : List (List Nat)).length _
      rw [if_pos rfl, List.length_append, List.flatten_append]
      have e2 : bvs ((sumsU (FF wd G) G h).flatten ++ [G h].flatten) = bvs (sumsU (FF wd G) G h).flatten ++ bvs (G h) := by simp [bvs]
      rw [e2]
      exact hr
theorem near_share {m : List Chg} {k : List Nat} {h : Nat} (hh : h < 256) : Share (nearL m k h) (256 - h) := by
  rw [← side_near m k hh]
  refine share_side hh (fun x hx y hy b hb => ?_) _
  have h1 := of_decide_eq_true (List.mem_filter.1 hx).2
  have h2 := of_decide_eq_true (List.mem_filter.1 hy).2
  rw [(comF_ge (by omega)).1 h1 b hb, (comF_ge (by omega)).1 h2 b hb]
theorem look_next (X : Nat → Chg) (k : Nat) (ks : List Nat) : lookL (lst X (k + 1)) ks = (lookL (lst X k) ks).or (if (X k).key = ks then some (X k) else none) := by
  unfold lookL
  rw [lst_succ, List.find?_append]
  congr 1
  by_cases e : (X k).key = ks <;> simp [e]
theorem look_miss {X : Nat → Chg} {k : Nat} {ks : List Nat} (h : (X k).key ≠ ks) : lookL (lst X (k + 1)) ks = lookL (lst X k) ks := by
  rw [look_next, if_neg h, Option.or_none]
theorem look_hit {X : Nat → Chg} {N k : Nat} {ks : List Nat} (hn : (keysOf (lst X N)).Nodup) (hk : k < N) (h : (X k).key = ks) : lookL (lst X (k + 1)) ks = some (X k) := by
  have h0 : lookL (lst X k) ks = none := by
    cases e : lookL (lst X k) ks with
    | none => rfl
    | some y =>
      exfalso
      obtain ⟨h1, h2⟩ := look_some e
      obtain ⟨i, hi, rfl⟩ := mem_lst.1 h1
      have h3 : lst X N = lst X (k + 1) ++ lst (fun i => X (k + 1 + i)) (N - (k + 1)) := by rw [← lst_add]; congr 1; omega
      have h4 : (keysOf (lst X (k + 1))).Nodup := by
        rw [h3, keysOf, List.map_append] at hn
        exact (List.nodup_append.1 hn).1
      rw [lst_succ, keysOf, List.map_append, List.nodup_append] at h4
      exact h4.2.2 (X i).key (List.mem_map.2 ⟨X i, h1, rfl⟩) (X k).key (by simp) (by rw [h2, h])
  rw [look_next, h0, if_pos h]
  rfl
theorem bits_room {wd : Int} {G : Nat → List Nat} {h : Nat} (hh : h < 256) : (bitsU (FF wd G) h).getD (h / 8) 0 + 2 ^ (h % 8) < 256 := by
  rw [bitsU_at _ (by omega) (by omega), show min 8 (h - 8 * (h / 8)) = h % 8 by omega]
  have h1 := byteF_lt (FF wd G) (h / 8) (h % 8)
  have h2 : 2 ^ (h % 8 + 1) ≤ 2 ^ 8 := Nat.pow_le_pow_right (by decide) (by omega)
  rw [Nat.pow_succ] at h2
  omega
theorem cntF_le (f : Nat → Bool) (n : Nat) : cntF f n ≤ n := by
  induction n with
  | zero => exact Nat.le_refl _
  | succ n ih => rw [cntF]; split <;> omega
/-- What a proof's maker tells. -/
def ProveRet (wd : Int) (m : List Chg) (ks : List Nat) (w : World) (e : Ending) (w' : World) : Prop :=
  ∃ V S, e = .returned (.agg (prC (prM wd m ks).found V (prM wd m ks).bits S).toArray) ∧ OwnU w' w.heap.size V (prM wd m ks).val ∧ SumsAt w' w.heap.size S (prM wd m ks).sums ∧ Below w.heap.size w w'
set_option maxRecDepth 20000 in
set_option maxHeartbeats 4000000 in
theorem rproveWith_any (wd : Int) (g c : Nat) (A : Option Addr) (N cap : Nat) (X : Nat → Chg) (ks : List Nat) (w : World) (hE : EsAt w g wd) (hx : EntsAt w A N X) (hN : N ≤ 1048576) (hv : ∀ k, k < N → (X k).val.length ≤ 128) (hnd : (keysOf (lst X N)).Nodup) (hk : IsB ks) (hkl : ks.length = 32) (hT : Tabs1 w) :
    Calls Tryd.prog 51 #[.slice (some ⟨g, 0, none⟩) 257 c, .int .i64 wd, .slice A N cap, .agg (bvs ks).toArray] w (ProveRet wd (lst X N) ks w) := by
  have HE := Lib.hid hE
  have HX := Lib.hid hx
  have HT1 := Lib.hid hT
  have HK := Lib.hid (And.intro hkl hk)
  have HND := Lib.hid hnd
  have HVL := Lib.hid hv
  have hNi : (N : Int) ≤ 1048576 := by omega
  obtain ⟨G, HG⟩ : ∃ G, Hid (nearM wd (lst X N) ks = G) := ⟨_, rfl⟩
  obtain ⟨fd, HFD⟩ : ∃ fd, Hid (foundL (lst X N) ks = fd) := ⟨_, rfl⟩
  obtain ⟨vd, HVD⟩ : ∃ vd, Hid (valL (lst X N) ks = vd) := ⟨_, rfl⟩
  obtain ⟨bd, HBD⟩ : ∃ bd, Hid (bitsU (FF wd G) 256 = bd) := ⟨_, rfl⟩
  obtain ⟨sd, HSD⟩ : ∃ sd, Hid (sumsU (FF wd G) G 256 = sd) := ⟨_, rfl⟩
  have HPO : Hid (∀ e w', (∃ V S, e = .returned (.agg (prC fd V bd S).toArray) ∧ OwnU w' w.heap.size V vd ∧ SumsAt w' w.heap.size S sd ∧ Below w.heap.size w w') → ProveRet wd (lst X N) ks w e w') := fun e w' hp => by
    unfold ProveRet prM prU
    rw [HG.out]
    rw [← HFD.out, ← HVD.out, ← HBD.out, ← HSD.out] at hp
    exact hp
  refine Calls.mono ?_ HPO.out
  clear HPO hE hx hT hk hkl hnd hv hN
  go_enter Tryd.func51, Tryd.ntmps51
  go_wp2_with fail
  refine start3 (G := fun w2 => Code.wp _ _ _ _ w2) fun w2 H1 H2 H3 HW HS => ?_
  have HK2 : Hid (BlkB w2 w.heap.size 31 ks) := H1
  have HR2 : Hid (PrIs w2 (w.heap.size + 1) false (.slice none 0 0) (zs 32) (.slice none 0 0)) := H2
  have HP2 : Hid (PrIs w2 (w.heap.size + 1 + 1) false (.slice none 0 0) (zs 32) (.slice none 0 0)) := H3
  clear H1 H2 H3
  go_loopw [10] (fun i wr => ∃ k : Nat, k ≤ N ∧ i = .int .i64 k ∧ (∃ f V, Hid (PrIs wr (w.heap.size + 1 + 1) f V (zs 32) (.slice none 0 0)) ∧ Hid (f = foundL (lst X k) ks) ∧ Hid (OwnU wr w2.heap.size V (valL (lst X k) ks))) ∧ Hid (Touch (fun B => B = w.heap.size + 1 + 1) w2 wr)) (fun i _ => N - (intOf i).toNat)
  case atStart => exact ⟨0, by omega, rfl, ⟨false, .slice none 0 0, HP2.out, rfl, Own.nil _ _ _⟩, Touch.refl _ _⟩
  case round =>
    obtain ⟨k, hk, rfl, ⟨f, V, HP, HF, HV⟩, HT⟩ := hrel
    have HBw : Hid (Below w.heap.size w wr) := HT.out.toBelow HW.out HW.out.size fun k hk => by omega
    have HKB : Hid (BlkB wr w.heap.size 31 ks) := HT.out.blk HK2.out (by omega)
    by_cases hlt : k < N
    · have hlt' : (k : Int) < N := by omega
      obtain ⟨b, o, Av, Cv, rfl, hb, hr, hkB, hkl, hvr, hvC, hCm, hnil⟩ := HX.out.2 k hlt
      have HR : Hid (∀ W, Below w.heap.size w W → W.rangeAt b (o + k * 33) (enC (X k) Av Cv)) := fun W hW => range_below hW hb hr
      have HKX := Lib.hid (And.intro hkB hkl)
      have HVR := Lib.hid hvr
      have HBL := Lib.hid hb
      have HV1 := Lib.hid (HVL.out k hlt)
      have HHit : Hid ((X k).key = ks → lookL (lst X (k + 1)) ks = some (X k)) := fun e => look_hit HND.out hlt e
      have HMis : Hid ((X k).key ≠ ks → lookL (lst X (k + 1)) ks = lookL (lst X k) ks) := fun e => look_miss e
      have huk := und_key
      have hszk : (Tryd.prog.info? 31).map (·.size) = some (bvs (X k).key).length := by rw [size_key]; simp [bvs, hkl]
      have hszk2 : (Tryd.prog.info? 31).map (·.size) = some (bvs ks).length := by rw [size_key]; simp [bvs, HK.out.1]
      clear hr hkB hkl hvr hvC hCm hnil hb
      generalize X k = x at *
      go_upto_region 5 with fail
      have HSS : Hid (∀ W, Below wr.heap.size wr W → W.rangeAt b (o + k * 33) (bvs x.key) ∧ W.rangeAt w.heap.size 0 (bvs ks)) := fun W hb => ⟨en_key (HR.out W (HBw.out.trans (hb.mono HBw.out.size))), BlkIs.range (BlkIs.below HKB.out hb)⟩
      have HB0 : Hid (Below wr.heap.size wr wr.drew) := drewN_below (Below.refl _ _) 1
      by_cases hkk : x.key = ks
      · have hEq : ∀ W, (Op.equalIn 10000 31 (.agg (bvs x.key).toArray) (.agg (bvs ks).toArray)).run Tryd.prog W = .ok true W := fun W => by rw [key_eq W x.key ks HKX.out.1 HK.out.2 HKX.out.2 HK.out.1, decide_eq_true hkk]
        have HL := Lib.hid (HHit.out hkk)
        clear hkk
        refine wp_region_held_drew (S := fun w' => w'.rangeAt b (o + k * 33) (bvs x.key) ∧ w'.rangeAt w.heap.size 0 (bvs ks)) (by kernel_rfl) (HSS.out _ HB0.out) fun hH => ?_
        generalize wr.drew = w4 at *
        refine wpAnyH_take (i := 0) (oi := ⟨some 20, _, _, _, _, _⟩) rfl (by kernel_rfl) (by kernel_rfl) (by kernel_rfl) (fun _ _ _ h => h) (Or.inl ⟨by rfl, fun w hw => by ((try dsimp only at hw); go_split_ands; go_simp; with_reducible rfl)⟩) (by assumption) ?_
        try simp only [Act.put, List.setIfInBounds_toArray, List.set_cons_zero, List.set_cons_succ]
        refine wpAnyH_take (i := 1) (oi := ⟨some 21, _, _, _, _, _⟩) rfl (by kernel_rfl) (by kernel_rfl) (by kernel_rfl) (fun _ _ _ h => h) (Or.inl ⟨by rfl, fun w hw => by ((try dsimp only at hw); go_split_ands; go_simp; with_reducible rfl)⟩) (by assumption) ?_
        try simp only [Act.put, List.setIfInBounds_toArray, List.set_cons_zero, List.set_cons_succ]
        refine wpAnyH_take (i := 2) (oi := ⟨some 22, _, _, _, _, _⟩) rfl (by kernel_rfl) (by kernel_rfl) (by kernel_rfl) (fun _ _ _ h => h) (Or.inl ⟨by rfl, fun w hw => by ((try dsimp only at hw); go_split_ands; go_simp; with_reducible rfl)⟩) (by assumption) ?_
        try simp only [Act.put, List.setIfInBounds_toArray, List.set_cons_zero, List.set_cons_succ]
        refine wpAnyH_take (i := 3) (oi := ⟨some 23, _, _, _, _, _⟩) rfl (by kernel_rfl) (by kernel_rfl) (by kernel_rfl) (fun _ _ _ h => h) (Or.inl ⟨by rfl, fun w hw => by ((try dsimp only at hw); go_split_ands; go_simp; with_reducible rfl)⟩) (by assumption) ?_
        try simp only [Act.put, List.setIfInBounds_toArray, List.set_cons_zero, List.set_cons_succ]
        refine wpAnyH_take (i := 4) (oi := ⟨some 24, _, _, _, _, _⟩) rfl (by kernel_rfl) (by kernel_rfl) (by kernel_rfl) (fun _ _ _ h => h) (yieldsIf_load_mid (by rfl) _ _ rfl _ _ rfl _ _ (fun w hw => by (try dsimp only at hw); go_split_ands; assumption) (by assumption) rfl (by assumption)) (by assumption) ?_
        try simp only [Act.put, List.setIfInBounds_toArray, List.set_cons_zero, List.set_cons_succ]
        refine wpAnyH_take (i := 5) (oi := ⟨some 25, _, _, _, _, _⟩) rfl (by kernel_rfl) (by kernel_rfl) (by kernel_rfl) (fun _ _ _ h => h) (yieldsIf_load_mid (by rfl) _ _ rfl _ _ rfl _ _ (fun w hw => by (try dsimp only at hw); go_split_ands; assumption) (by assumption) rfl (by assumption)) (by assumption) ?_
        try simp only [Act.put, List.setIfInBounds_toArray, List.set_cons_zero, List.set_cons_succ]
        refine wpAnyH_take (i := 6) (oi := ⟨some 26, _, _, _, _, _⟩) rfl (by kernel_rfl) (by kernel_rfl) (by kernel_rfl) (fun _ _ _ h => h) (Or.inl ⟨by rfl, fun w hw => by ((try dsimp only at hw); go_split_ands; go_simp; with_reducible rfl)⟩) (by assumption) ?_
        try simp only [Act.put, List.setIfInBounds_toArray, List.set_cons_zero, List.set_cons_succ]
        clear hH huk hszk hszk2 hEq
        refine wpAnyH_done (by kernel_rfl) ?_ _
        have HP4 : Hid (PrIs w4 (w.heap.size + 1 + 1) f V (zs 32) (.slice none 0 0)) := BlkIs.below HP.out HB0.out
        have HT4 : Hid (Touch (fun B => B = w.heap.size + 1 + 1) w2 w4) := HT.out.trans ((Touch.ofBelow HB0.out).mono fun _ _ h => h.elim)
        have hc0 := (pr_cells HP4.out).1
        have hf0 := (pr_cells HP4.out).2.2.1
        have HP5 : Hid (PrIs (w4.setCell ⟨w.heap.size + 1 + 1, 0, none⟩ (.bool true)) (w.heap.size + 1 + 1) true V (zs 32) (.slice none 0 0)) := HP4.out.found true
        have HT5 : Hid (Touch (fun B => B = w.heap.size + 1 + 1) w2 (w4.setCell ⟨w.heap.size + 1 + 1, 0, none⟩ (.bool true))) := HT4.out.trans (Touch.one (grown_setCell w4 0 _))
        have HB5 : Hid (Below w.heap.size w (w4.setCell ⟨w.heap.size + 1 + 1, 0, none⟩ (.bool true))) := HT5.out.toBelow HW.out HW.out.size fun k hk => by omega
        have hcv : (w4.setCell ⟨w.heap.size + 1 + 1, 0, none⟩ (.bool true)).cell? ⟨b, o + k * 33 + 32, none⟩ = some (.slice Av x.val.length Cv) := en_val (HR.out _ HB5.out) HKX.out.2
        clear HP HF HV HT HB0 HSS HT4
        go_wp2_with fail
        refine (bytes12_any Av x.val.length Cv x.val _ (HVR.out.below HB5.out) (by have := HV1.out; omega)).mono ?_
        rintro e w6 ⟨v6, rfl, ho6, hb6⟩
        obtain ⟨a6, n6, c6, e6⟩ := row_form ho6.1
        subst e6
        have HS5 : Hid (w2.heap.size ≤ (w4.setCell ⟨w.heap.size + 1 + 1, 0, none⟩ (.bool true)).heap.size) := HT5.out.size
        have HO6 : Hid (OwnU w6 w2.heap.size (.slice a6 n6 c6) x.val) := ⟨row_mono ho6.1 HS5.out, ho6.2⟩
        have HP6 : Hid (PrIs w6 (w.heap.size + 1 + 1) true V (zs 32) (.slice none 0 0)) := BlkIs.below HP5.out hb6
        have HT6 : Hid (Touch (fun B => B = w.heap.size + 1 + 1) w2 w6) := HT5.out.trans ((Touch.ofBelow hb6).mono fun _ _ h => h.elim)
        clear ho6 hb6 hcv hc0 hf0 HP4 HP5 HT5 HB5 HS5
        have hc1 := (pr_cells HP6.out).2.1
        have hf1 := (pr_cells HP6.out).2.2.2
        have HP7 : Hid (PrIs (w6.setCell ⟨w.heap.size + 1 + 1, 1, none⟩ (.slice a6 n6 c6)) (w.heap.size + 1 + 1) true (.slice a6 n6 c6) (zs 32) (.slice none 0 0)) := HP6.out.val _
        have HT7 : Hid (Touch (fun B => B = w.heap.size + 1 + 1) w2 (w6.setCell ⟨w.heap.size + 1 + 1, 1, none⟩ (.slice a6 n6 c6))) := HT6.out.trans (Touch.one (grown_setCell w6 1 _))
        have HO7 : Hid (OwnU (w6.setCell ⟨w.heap.size + 1 + 1, 1, none⟩ (.slice a6 n6 c6)) w2.heap.size (.slice a6 n6 c6) x.val) := (Touch.one (grown_setCell w6 1 _)).own HO6.out fun B hB e => by have := (row_lt HO6.out.1 hB).1; have := HS.out; omega
        have HF7 : Hid (true = foundL (lst X (k + 1)) ks) := by show _ = _; rw [foundL, HL.out]; rfl
        have HO8 : Hid (OwnU (w6.setCell ⟨w.heap.size + 1 + 1, 1, none⟩ (.slice a6 n6 c6)) w2.heap.size (.slice a6 n6 c6) (valL (lst X (k + 1)) ks)) := by rw [valL, HL.out]; exact HO7.out
        go_wp2_with fail
        go_roundw
        case rel => exact ⟨k + 1, by omega, by go_num, ⟨true, _, HP7.out, HF7.out, HO8.out⟩, HT7.out⟩
        case measure => simp [intOf]; omega
      · have hEq : ∀ W, (Op.equalIn 10000 31 (.agg (bvs x.key).toArray) (.agg (bvs ks).toArray)).run Tryd.prog W = .ok false W := fun W => by rw [key_eq W x.key ks HKX.out.1 HK.out.2 HKX.out.2 HK.out.1, decide_eq_false hkk]
        have HL := Lib.hid (HMis.out hkk)
        clear hkk
        refine wp_region_held_drew (S := fun w' => w'.rangeAt b (o + k * 33) (bvs x.key) ∧ w'.rangeAt w.heap.size 0 (bvs ks)) (by kernel_rfl) (HSS.out _ HB0.out) fun hH => ?_
        generalize wr.drew = w4 at *
        refine wpAnyH_take (i := 0) (oi := ⟨some 20, _, _, _, _, _⟩) rfl (by kernel_rfl) (by kernel_rfl) (by kernel_rfl) (fun _ _ _ h => h) (Or.inl ⟨by rfl, fun w hw => by ((try dsimp only at hw); go_split_ands; go_simp; with_reducible rfl)⟩) (by assumption) ?_
        try simp only [Act.put, List.setIfInBounds_toArray, List.set_cons_zero, List.set_cons_succ]
        refine wpAnyH_take (i := 1) (oi := ⟨some 21, _, _, _, _, _⟩) rfl (by kernel_rfl) (by kernel_rfl) (by kernel_rfl) (fun _ _ _ h => h) (Or.inl ⟨by rfl, fun w hw => by ((try dsimp only at hw); go_split_ands; go_simp; with_reducible rfl)⟩) (by assumption) ?_
        try simp only [Act.put, List.setIfInBounds_toArray, List.set_cons_zero, List.set_cons_succ]
        refine wpAnyH_take (i := 2) (oi := ⟨some 22, _, _, _, _, _⟩) rfl (by kernel_rfl) (by kernel_rfl) (by kernel_rfl) (fun _ _ _ h => h) (Or.inl ⟨by rfl, fun w hw => by ((try dsimp only at hw); go_split_ands; go_simp; with_reducible rfl)⟩) (by assumption) ?_
        try simp only [Act.put, List.setIfInBounds_toArray, List.set_cons_zero, List.set_cons_succ]
        refine wpAnyH_take (i := 3) (oi := ⟨some 23, _, _, _, _, _⟩) rfl (by kernel_rfl) (by kernel_rfl) (by kernel_rfl) (fun _ _ _ h => h) (Or.inl ⟨by rfl, fun w hw => by ((try dsimp only at hw); go_split_ands; go_simp; with_reducible rfl)⟩) (by assumption) ?_
        try simp only [Act.put, List.setIfInBounds_toArray, List.set_cons_zero, List.set_cons_succ]
        refine wpAnyH_take (i := 4) (oi := ⟨some 24, _, _, _, _, _⟩) rfl (by kernel_rfl) (by kernel_rfl) (by kernel_rfl) (fun _ _ _ h => h) (yieldsIf_load_mid (by rfl) _ _ rfl _ _ rfl _ _ (fun w hw => by (try dsimp only at hw); go_split_ands; assumption) (by assumption) rfl (by assumption)) (by assumption) ?_
        try simp only [Act.put, List.setIfInBounds_toArray, List.set_cons_zero, List.set_cons_succ]
        refine wpAnyH_take (i := 5) (oi := ⟨some 25, _, _, _, _, _⟩) rfl (by kernel_rfl) (by kernel_rfl) (by kernel_rfl) (fun _ _ _ h => h) (yieldsIf_load_mid (by rfl) _ _ rfl _ _ rfl _ _ (fun w hw => by (try dsimp only at hw); go_split_ands; assumption) (by assumption) rfl (by assumption)) (by assumption) ?_
        try simp only [Act.put, List.setIfInBounds_toArray, List.set_cons_zero, List.set_cons_succ]
        refine wpAnyH_take (i := 6) (oi := ⟨some 26, _, _, _, _, _⟩) rfl (by kernel_rfl) (by kernel_rfl) (by kernel_rfl) (fun _ _ _ h => h) (Or.inl ⟨by rfl, fun w hw => by ((try dsimp only at hw); go_split_ands; go_simp; with_reducible rfl)⟩) (by assumption) ?_
        try simp only [Act.put, List.setIfInBounds_toArray, List.set_cons_zero, List.set_cons_succ]
        clear hH huk hszk hszk2 hEq
        refine wpAnyH_done (by kernel_rfl) ?_ _
        have HP4 : Hid (PrIs w4 (w.heap.size + 1 + 1) f V (zs 32) (.slice none 0 0)) := BlkIs.below HP.out HB0.out
        have HT4 : Hid (Touch (fun B => B = w.heap.size + 1 + 1) w2 w4) := HT.out.trans ((Touch.ofBelow HB0.out).mono fun _ _ h => h.elim)
        have HF4 : Hid (f = foundL (lst X (k + 1)) ks) := by show _ = _; rw [foundL, HL.out]; exact HF.out
        have HV4 : Hid (OwnU w4 w2.heap.size V (valL (lst X (k + 1)) ks)) := by rw [valL, HL.out]; exact (Touch.ofBelow HB0.out).own HV.out fun _ _ h => h
        clear HP HF HV HT HB0 HSS
        go_wp2_with fail
        go_roundw
        case rel => exact ⟨k + 1, by omega, by go_num, ⟨f, V, HP4.out, HF4.out, HV4.out⟩, HT4.out⟩
        case measure => simp [intOf]; omega
    · have hnlt : ¬ (k : Int) < N := by omega
      obtain rfl : k = N := by omega
      obtain ⟨w3, rfl⟩ : ∃ x, x = wr := ⟨_, rfl⟩
      have HR3 : Hid (PrIs w3 (w.heap.size + 1) false (.slice none 0 0) (zs 32) (.slice none 0 0)) := HT.out.blk HR2.out (by omega)
      have HV3 : Hid (∀ W, Touch (fun B => B = w.heap.size + 1 + 1) w3 W → OwnU W w.heap.size V (valL (lst X k) ks)) := fun W hW => by
        have h1 := hW.own HV.out fun B hB e => by have := (row_lt HV.out.1 hB).1; have := HS.out; omega
        exact ⟨row_mono h1.1 HW.out.size, h1.2⟩
      rw [HVD.out] at HV3
      have HVB : Hid (∀ B, V.ownBlock = some B → w2.heap.size ≤ B) := fun B hB => (row_lt HV.out.1 hB).1
      have HV1 : Hid (V.oneCell' = true) := row_oneCell HV.out.1
      have HS3 : Hid (w2.heap.size ≤ w3.heap.size) := HT.out.size
      have HPS : Hid (w.heap.size + 1 + 1 < w3.heap.size) := HP.out.lt
      obtain rfl : f = fd := HF.out.trans HFD.out
      clear HF HT HV HK2 HR2 HP2
      go_wp2_with fail
      go_loopw [11, 12, 13] (fun i _ _ wr => ∃ h : Nat, h ≤ 256 ∧ i = .int .i64 h ∧ (∃ bits S ds, Hid (bits = bitsU (FF wd G) h) ∧ Hid (ds = sumsU (FF wd G) G h) ∧ Hid (PrIs wr (w.heap.size + 1 + 1) f V bits S) ∧ Hid (SumsAt wr w3.heap.size S ds)) ∧ Hid (Touch (fun B => B = w.heap.size + 1 + 1) w3 wr)) (fun i _ _ _ => 256 - (intOf i).toNat)
      case atStart => exact ⟨0, by omega, rfl, ⟨_, .slice none 0 0, _, rfl, rfl, HP.out, World.ownsRow_nil _ _ _ _⟩, Touch.refl _ _⟩
      case round =>
        obtain ⟨h, hh, rfl, ⟨bits, S, ds, HBI, HDS, HPr, HSr⟩, HTr⟩ := hrel
        have HBr : Hid (Below w.heap.size w wr) := HTr.out.toBelow HBw.out HBw.out.size fun k hk => by omega
        have HBL : Hid (bits.length = 32) := by show _ = _; rw [HBI.out]; exact bitsU_length _ _
        by_cases hlt : h < 256
        · have hlt' : (h : Int) < 256 := by omega
          have HKr : Hid (BlkB wr w.heap.size 31 ks) := HTr.out.blk HKB.out (by omega)
          have HSr3 : Hid (w3.heap.size ≤ wr.heap.size) := HTr.out.size
          go_wp2_with (refine wpList_load_arr (o := ⟨some 40, _, _, _, _, _⟩) (by rfl) 31 (.tmp 7) rfl ⟨w.heap.size, 0, none⟩ 32 ks rfl (HKr.out.whole HK.out.2 HK.out.1) (by omega) (by kernel_rfl) (by kernel_rfl) ?_)
          refine (neighbours_any A k cap X ks h wr (HX.out.below HBr.out) (by omega) HK.out.2 HK.out.1 hlt).mono ?_
          rintro e w5 ⟨v5, Z, Ad, Cp, rfl, ho5, hz5, hb5⟩
          obtain ⟨A2, C2, rfl, hx2, _⟩ := ho5.form
          have HG5 : Hid (G h = subD wd h (lst Z (nearL (lst X k) ks h).length)) := by show _ = _; rw [hz5, ← HG.out, nearM]
          have HML : Hid ((nearL (lst X k) ks h).length ≤ k) := nearL_len X k ks h
          have HQ5 : Hid (QPart w5 A2 (nearL (lst X k) ks h).length Z (256 - h)) := ⟨hx2, by have := nearL_len X k ks h; omega, fun i hi => by
            have h1 : Z i ∈ nearL (lst X k) ks h := by rw [← hz5]; exact mem_at hi
            obtain ⟨j, hj, e⟩ := mem_lst.1 (List.mem_filter.1 h1).1
            rw [← e]
            exact HVL.out j hj, by rw [hz5]; exact filter_nodup HND.out _, by rw [hz5]; exact near_share hlt⟩
          have HP5 : Hid (PrIs w5 (w.heap.size + 1 + 1) f V bits S) := BlkIs.below HPr.out hb5
          have HS5 : Hid (SumsAt w5 w3.heap.size S ds) := (Touch.ofBelow hb5).row HSr.out fun _ _ h => h
          have HT5 : Hid (Touch (fun B => B = w.heap.size + 1 + 1) w3 w5) := HTr.out.trans ((Touch.ofBelow hb5).mono fun _ _ h => h.elim)
          have HB5 : Hid (Below w.heap.size w w5) := HBr.out.trans (hb5.mono HBr.out.size)
          clear ho5 hz5 hb5 hx2 HPr HSr HTr HKr HBr HSr3
          generalize (nearL (lst X k) ks h).length = M at *
          by_cases hM : M = 0
          · subst hM
            have HE5 : Hid (FF wd G h = false) := by
              show _ = _
              rw [FF, HG5.out]
              simp [show lst Z 0 = [] from rfl, subD_nil]
            have HB6 : Hid (bits = bitsU (FF wd G) (h + 1)) := by show _ = _; rw [bitsU, HE5.out]; exact HBI.out
            have HD6 : Hid (ds = sumsU (FF wd G) G (h + 1)) := by show _ = _; rw [sumsU, HE5.out]; exact HDS.out
            clear HE5 HBI HDS HG5 HQ5 HML
            go_wp2_with fail
            go_roundw
            case rel => exact ⟨h + 1, by omega, by go_num, ⟨bits, S, ds, HB6.out, HD6.out, HP5.out, HS5.out⟩, HT5.out⟩
            case measure => simp [intOf]; omega
          · have hM1 : (0 : Int) < M := by omega
            obtain ⟨D, HD⟩ : ∃ D, Hid (subD wd h (lst Z M) = D) := ⟨_, rfl⟩
            have HDF : Hid (D.length = 32 ∧ IsB D) := by rw [← HD.out]; exact ⟨(subD_facts wd h _).1, (subD_facts wd h _).2.1⟩
            rw [HD.out] at HG5
            clear hM
            go_wp2_with fail
            refine (ndigest_any wd g c h A2 M C2 Z w5 (by omega) (HE.out.below HB5.out) HQ5.out ⟨HT1.out.1.below HB5.out, HT1.out.2.below HB5.out⟩).mono ?_
            rintro e w6 ⟨rfl, hb6⟩
            rw [HD.out]
            have HP6 : Hid (PrIs w6 (w.heap.size + 1 + 1) f V bits S) := BlkIs.below HP5.out hb6
            have HS6 : Hid (SumsAt w6 w3.heap.size S ds) := (Touch.ofBelow hb6).row HS5.out fun _ _ h => h
            have HT6 : Hid (Touch (fun B => B = w.heap.size + 1 + 1) w3 w6) := HT5.out.trans ((Touch.ofBelow hb6).mono fun _ _ h => h.elim)
            have HW6 : Hid (w.heap.size + 1 + 1 < w6.heap.size) := HP6.out.lt
            clear hb6 HP5 HS5 HT5 HB5 HQ5
            go_wp2_with (first
              | ((with_reducible refine stopAt (o := ⟨some 13, _, _, _, _, _⟩) ?_); refine allocNew (o := ⟨some 13, _, _, _, _, _⟩) (by rfl) 29 rfl _ _ info_dig ?_; intro w7 HE7 HW7 HS7)
              | ((with_reducible refine stopAt (o := ⟨none, .store _ (.tmp 13) _, _, _, _, _⟩) ?_); refine wpList_store_part (o := ⟨none, _, _, _, _, _⟩) (by rfl) 29 (.tmp 13) (.tmp 50) rfl 0 [] (bvs (zs 32)) (bvs D) [] rfl rfl (blk_in HE7.out) rfl (by simp [bvs, zs, HDF.out.1]) (by rw [size_dig]; simp [bvs, HDF.out.1]) (fun u hu => bvs_oneCell _ u hu) ?_; intro w8 h8 g8; have HB8 : Hid (Below w6.heap.size w6 w8) := HW7.out.grown g8 HW7.out.size (fun k hk => by injection hk with hk; omega); have HP8 : Hid (PrIs w8 (w.heap.size + 1 + 1) f V bits S) := BlkIs.below HP6.out HB8.out; have HD8 : Hid (BlkB w8 w6.heap.size 29 D) := blk_out h8)
              | ((with_reducible refine stopAt (o := ⟨some 51, _, _, _, _, _⟩) ?_); refine loadPr (o := ⟨some 51, _, _, _, _, _⟩) rfl (.tmp 9) rfl (w.heap.size + 1 + 1) f V bits S rfl HP8.out HBL.out ?_)
              | ((with_reducible refine stopAt (o := ⟨some 54, _, _, _, _, _⟩) ?_); refine wpList_load_arr (o := ⟨some 54, _, _, _, _, _⟩) (by rfl) 29 (.tmp 13) rfl ⟨w6.heap.size, 0, none⟩ 32 D rfl (HD8.out.whole HDF.out.2 HDF.out.1) (by omega) (by kernel_rfl) (by kernel_rfl) ?_))
            have HS8 : Hid (SumsAt w8 w3.heap.size S ds) := (Touch.ofBelow HB8.out).row HS6.out fun _ _ h => h
            have HT8 : Hid (Touch (fun B => B = w.heap.size + 1 + 1) w3 w8) := HT6.out.trans ((Touch.ofBelow HB8.out).mono fun _ _ h => h.elim)
            have HBw8 : Hid (Below w.heap.size w w8) := HT8.out.toBelow HBw.out HBw.out.size fun k hk => by omega
            have HN8 : Hid (ds.length ≤ 256) := by show _ ≤ _; rw [HDS.out, sumsU_length]; exact Nat.le_trans (cntF_le _ _) (by omega)
            have HR8 : Hid (bits.getD (h / 8) 0 + 2 ^ (h % 8) < 256) := by show _ < _; rw [HBI.out]; exact bits_room hlt
            clear h8 g8 HE7 HW7 HS7 HP6 HS6 HT6
            refine (rset_any wd g c w3.heap.size f V S bits D (bvs ds.flatten) ds.length h w8 (HE.out.below HBw8.out) hlt HBL.out HDF.out.2 HDF.out.1 HV1.out HS8.out HN8.out HT8.out.size HR8.out).mono ?_
            intro e w9 hp9
            obtain ⟨S9, rfl, hs9, ht9⟩ := set_step HBI.out HDS.out HG5.out HS8.out hp9
            have HP9 : Hid (PrIs w9 (w.heap.size + 1 + 1) f V bits S) := ht9.blk HP8.out (by have := HPS.out; omega)
            have HT9 : Hid (Touch (fun B => B = w.heap.size + 1 + 1) w3 w9) := HT8.out.andThen ht9 fun B hB e => by omega
            have HS9 := Lib.hid hs9
            have HS91 : Hid (S9.oneCell' = true) := row_oneCell hs9
            obtain ⟨bits9, hb9⟩ : ∃ l, bitsU (FF wd G) (h + 1) = l := ⟨_, rfl⟩
            have HBL9 : Hid (bits9.length = 32) := by show _ = _; rw [← hb9]; exact bitsU_length _ _
            have HBI9 := Lib.hid hb9
            rw [hb9]
            clear hp9 hs9 ht9 hb9 HP8 HT8 HS8 HD8 HN8 HR8 HBw8 HB8
            go_wp2_with (refine storePr2 (o := ⟨none, _, _, _, _, _⟩) rfl (.tmp 9) (.tmp 55) rfl (w.heap.size + 1 + 1) f V bits9 S9 rfl rfl HP9.out HBL.out HBL9.out HV1.out HS91.out ?_; intro w10 hp10 hg10)
            have HT10 : Hid (Touch (fun B => B = w.heap.size + 1 + 1) w3 w10) := HT9.out.trans (Touch.one hg10)
            have HS10 : Hid (SumsAt w10 w3.heap.size S9 (sumsU (FF wd G) G (h + 1))) := (Touch.one hg10).row HS9.out fun B hB e => by have := (row_lt HS9.out hB).1; have := HPS.out; omega
            go_roundw
            case rel => exact ⟨h + 1, by omega, by go_num, ⟨bits9, S9, _, HBI9.out.symm, rfl, hp10, HS10.out⟩, HT10.out⟩
            case measure => simp [intOf]; omega
        · have hnlt2 : ¬ (h : Int) < 256 := by omega
          have HR4 : Hid (PrIs wr (w.heap.size + 1) false (.slice none 0 0) (zs 32) (.slice none 0 0)) := HTr.out.blk HR3.out (by omega)
          have HS4 : Hid (S.oneCell' = true) := row_oneCell HSr.out
          obtain rfl : bits = bd := by rw [← HBD.out, show 256 = h by omega]; exact HBI.out
          obtain rfl : ds = sd := by rw [← HSD.out, show 256 = h by omega]; exact HDS.out
          clear HBI HDS
          go_wp2_with (first
            | ((with_reducible refine stopAt (o := ⟨some 56, _, _, _, _, _⟩) ?_); refine loadPr (o := ⟨some 56, _, _, _, _, _⟩) rfl (.tmp 9) rfl (w.heap.size + 1 + 1) f V bits S rfl HPr.out HBL.out ?_)
            | (refine storePr (o := ⟨none, _, _, _, _, _⟩) rfl (.tmp 8) (.tmp 56) rfl (w.heap.size + 1) f V bits S rfl rfl HR4.out HBL.out HV1.out HS4.out ?_; intro w5 hp5 hg5))
          have hne : ∀ B, w3.heap.size ≤ B → B ≠ w.heap.size + 1 := fun B h e => by have := HPS.out; omega
          refine pr_ret1 rfl rfl hp5 HBL.out rfl ⟨V, S, rfl, ?_, ?_, ?_⟩
          · have h1 := HV3.out wr HTr.out
            exact (Touch.one hg5).own h1 fun B hB e => by have := HVB.out B hB; have := HS.out; omega
          · exact row_mono ((Touch.one hg5).row HSr.out fun B hB e => hne B (row_lt HSr.out hB).1 e) (by have := HPS.out; omega)
          · exact HBr.out.grown hg5 HBr.out.size fun k hk => by injection hk with hk; omega
end Go.Proofs.YtfnlhfaihoojfaaDoor

/- ledgerref12.Ones. -/
namespace Go.Proofs.YtfnlhfaihoojfaaDoor
open Go.RowKit
theorem ones8_half {v : Nat} (h : v < 256) : ones8 v = v % 2 + ones8 (v / 2) := by
  unfold ones8
  omega
set_option maxRecDepth 20000 in
set_option maxHeartbeats 1000000 in
theorem rones_any (ds : List Nat) (w : World) (hB : IsB ds) (hl : ds.length = 32) :
    Calls Tryd.prog 52 #[.agg (bvs ds).toArray] w fun e w' => e = .returned (.int .i64 (onesN ds : Nat)) ∧ Below w.heap.size w w' := by
  have HB := Lib.hid (And.intro hl hB)
  obtain ⟨F, HF⟩ : ∃ F : Nat → Nat, Hid (F 0 = 0 ∧ (∀ v, v < 256 → F v = v % 2 + F (v / 2)) ∧ (∀ v, F v ≤ 8) ∧ ∀ k, k < ds.length → onesN (ds.take (k + 1)) = onesN (ds.take k) + F (ds.getD k 0)) := ⟨ones8, rfl, fun v h => ones8_half h, ones8_le, fun k h => onesN_take h⟩
  clear hB hl
  go_enter Tryd.func52, Tryd.ntmps52
  go_wp2_with fail
  refine start1 (G := fun w2 => Code.wp _ _ _ _ w2) fun w2 H1 HW HS => ?_
  have HD2 : Hid (BlkB w2 w.heap.size 28 ds) := H1
  clear H1
  go_loopw [3, 4, 5] (fun n i _ wr => ∃ k : Nat, k ≤ 32 ∧ i = .int .i64 k ∧ n = .int .i64 (onesN (ds.take k) : Nat) ∧ wr = w2) (fun _ i _ _ => 32 - (intOf i).toNat)
  case atStart => exact ⟨0, by omega, rfl, rfl, rfl⟩
  case round =>
    obtain ⟨k, hk, rfl, rfl, rfl⟩ := hrel
    by_cases hlt : k < 32
    · have hlt' : (k : Int) < 32 := by omega
      have hk32 : k < ds.length := by rw [HB.out.1]; exact hlt
      have hc : wr.cell? ⟨w.heap.size, k, none⟩ = some (.int .u8 (ds.getD k 0 : Nat)) := BlkB.cell HD2.out hk32
      have hx8 : ds.getD k 0 < 256 := HB.out.2 _ (getD_mem hk32)
      have HN : Hid (onesN (ds.take (k + 1)) = onesN (ds.take k) + F (ds.getD k 0)) := HF.out.2.2.2 k hk32
      have h1 := onesN_le (ds := ds.take k)
      have h2 : (ds.take k).length ≤ 32 := by rw [List.length_take]; omega
      have h3 : ((onesN (ds.take k) : Nat) : Int) ≤ 256 := by omega
      have h4 := HF.out.2.2.1 (ds.getD k 0)
      clear h1 h2 hk32 hlt
      obtain ⟨m, hm⟩ : ∃ m, onesN (ds.take k) = m := ⟨_, rfl⟩
      rw [hm] at HN h3 ⊢
      clear hm
      generalize ds.getD k 0 = x at *
      go_wp2_with fail
      go_loopw [3, 5] (fun n v wr' => ∃ a b : Nat, b < 256 ∧ v = .int .i64 b ∧ n = .int .i64 a ∧ a + F b = m + F x ∧ wr' = wr) (fun _ v _ => (intOf v).toNat)
      case atStart => exact ⟨m, x, hx8, rfl, rfl, rfl, rfl⟩
      case round =>
        obtain ⟨a, b, hb, rfl, rfl, hab, rfl⟩ := hrel
        have h5 := HF.out.2.2.1 b
        have ha : (a : Int) ≤ 300 := by omega
        by_cases hb0 : b = 0
        · subst hb0
          have hz : F 0 = 0 := HF.out.1
          rw [hz, Nat.add_zero] at hab
          have HAB := Lib.hid hab
          clear hab hz h5
          go_wp2_with fail
          go_roundw
          case rel => exact ⟨k + 1, by omega, by go_num, by rw [HN.out, ← HAB.out], trivial⟩
          case measure => simp [intOf]; omega
        · have hb1 : (0 : Int) < (b : Int) := by omega
          have HH := Lib.hid (HF.out.2.1 b hb)
          have HAB := Lib.hid hab
          obtain ⟨Q, hQ⟩ : ∃ Q, (b : Int).tdiv 2 = Q := ⟨_, rfl⟩
          obtain ⟨R, hR⟩ : ∃ R, (b : Int).tmod 2 = R := ⟨_, rfl⟩
          have hq : Q = ((b / 2 : Nat) : Int) := by rw [← hQ, Int.tdiv_eq_ediv_of_nonneg (by omega)]; omega
          have hr : R = ((b % 2 : Nat) : Int) := by rw [← hR, Int.tmod_eq_emod_of_nonneg (by omega)]; omega
          have HQ : Hid (Q = ((b / 2 : Nat) : Int) ∧ b / 2 < 256 ∧ b / 2 < b) := ⟨hq, by omega, by omega⟩
          have HR := Lib.hid hr
          have hQ0 : 0 ≤ Q := by omega
          have hQ1 : Q ≤ 255 := by omega
          have hR0 : 0 ≤ R := by omega
          have hR1 : R ≤ 1 := by omega
          clear hab h5 hb0 hq hr
          go_wp2_with fail
          go_roundw
          case rel => exact ⟨a + b % 2, b / 2, HQ.out.2.1, by rw [← HQ.out.1], by have h7 := HR.out; push_cast at h7 ⊢; rw [← h7], by have := HH.out; have := HAB.out; omega, trivial⟩
          case measure => have h8 := HQ.out; have h9 : wrap64 Q = Q := by unfold wrap64; omega
                          simp [intOf]; omega
    · have hnlt : ¬ (k : Int) < 32 := by omega
      have HT : Hid (ds.take k = ds) := List.take_of_length_le (by rw [HB.out.1]; omega)
      rw [HT.out]
      go_wp2_with fail
      go_ret
      exact ⟨rfl, HW.out⟩
end Go.Proofs.YtfnlhfaihoojfaaDoor
