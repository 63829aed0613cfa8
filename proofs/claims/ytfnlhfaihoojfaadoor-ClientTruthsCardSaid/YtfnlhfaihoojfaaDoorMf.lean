/- Bare, Bare2, First (merged) -/
import Derived.Test.YtfnlhfaihoojfaaDoorMe
/- client: bare. -/
namespace Go.Proofs.YtfnlhfaihoojfaaDoor
open Go.RowKit
def flatE (wd : Int) : Nat → List Nat
  | 0 => []
  | n + 1 => flatE wd n ++ emptyD wd n
theorem flatE_length (wd : Int) (n : Nat) : (flatE wd n).length = 32 * n := by
  induction n with
  | zero => rfl
  | succ n ih => rw [flatE, List.length_append, ih, emptyD_length]; omega
theorem flatE_isB (wd : Int) (n : Nat) : IsB (flatE wd n) := by
  induction n with
  | zero => exact IsB.nil
  | succ n ih => exact ih.app (emptyD_isB wd n)
theorem flatE_at (wd : Int) {h n : Nat} (hn : h < n) : ((flatE wd n).drop (32 * h)).take 32 = emptyD wd h := by
  induction n with
  | zero => omega
  | succ n ih =>
    rw [flatE]
    rcases Nat.lt_or_ge h n with h1 | h1
    · rw [List.drop_append_of_le_length (by rw [flatE_length]; omega), List.take_append_of_le_length (by rw [List.length_drop, flatE_length]; omega)]
      exact ih h1
    · obtain rfl : h = n := by omega
      rw [List.drop_left' (by rw [flatE_length]), List.take_of_length_le (by rw [emptyD_length]; exact Nat.le_refl _)]
theorem blk_ne {w : World} {g g' : Nat} {t t' : TypeId} {cs cs' : Array Value} (h : BlkIs w g t cs) (h' : BlkIs w g' t' cs') (ht : t ≠ t') : g ≠ g' := fun e => by
  subst e
  have h1 : w.heap[g]? = some (.cells cs t) := h
  have h2 : w.heap[g]? = some (.cells cs' t') := h'
  rw [h1] at h2
  injection h2 with h2
  injection h2 with _ h2
  exact ht h2
def BlankOk (w : World) (wd : Int) (b : Value) : Prop := b = .slice none 0 0 ∨ ∃ B, b = .slice (some ⟨B, 0, none⟩) 256 256 ∧ BlkB w B 29 (flatE wd 256)
def Ck.blanked (c : Ck) (b : Value) : Ck := { c with blank := b }
theorem und_digs : Tryd.prog.underlying 42 = some (.slice 29) := by kernel_rfl
theorem digs_no (ad : Addr) (n c : Nat) (w : World) : (binOp .eql 42 (.slice (some ad) n c) (.slice none 0 0)).run Tryd.prog w = .ok (.bool false) w := by
  rw [Lib.run_eql_slice_nil w 42 29 (some ad) n c 0 0 und_digs]
  rfl
theorem digs_yes (w : World) : (binOp .eql 42 (.slice none 0 0) (.slice none 0 0)).run Tryd.prog w = .ok (.bool true) w := by
  rw [Lib.run_eql_slice_nil w 42 29 none 0 0 0 0 und_digs]
  rfl
/-- The row of empty digests is the one that was there, or a new one. -/
def NewB (w : World) (b b' : Value) : Prop := b' = b ∨ ∃ B, w.heap.size ≤ B ∧ b' = .slice (some ⟨B, 0, none⟩) 256 256
def Bared (g : Nat) (c : Ck) (h : Nat) (w : World) (e : Ending) (w' : World) : Prop :=
  e = .returned (.agg (bvs (emptyD c.wd h)).toArray) ∧ ∃ b, CkIs w' g (c.blanked b) ∧ BlankOk w' c.wd b ∧ Touch (fun B => B = g) w w' ∧ NewB w c.blank b
set_option maxRecDepth 20000 in
set_option maxHeartbeats 1000000 in
theorem bare_full (g : Nat) (c : Ck) (h B : Nat) (w : World) (hi : CkIs w g c) (hc : c.Ok) (hb : c.blank = .slice (some ⟨B, 0, none⟩) 256 256) (hB : BlkB w B 29 (flatE c.wd 256)) (hh : h < 256) :
    Calls Tryd.prog 55 #[.pointer (some ⟨g, 0, none⟩), .int .i64 h] w (Bared g c h w) := by
  have HI := Lib.hid hi
  have HCO := Lib.hid hc
  have HBB := Lib.hid hB
  have HBL := Lib.hid hb
  have HGL : Hid (g < w.heap.size) := hi.lt
  have HBG : Hid (B < w.heap.size) := BlkIs.lt hB
  have hnn := digs_no ⟨B, 0, none⟩ 256 256
  clear hi hc hb hB
  go_enter Tryd.func55, Tryd.ntmps55
  go_wp2_with (with_reducible refine stopAt (o := ⟨some 10, _, _, _, _, _⟩) ?_)
  refine start1 (G := fun w2 => Hid (wpList _ _ _ _ _ w2)) fun w2 HD0 HW HS => ?_
  have HD2 : Hid (BlkB w2 w.heap.size 29 (zs 32)) := HD0
  clear HD0
  have HI2 : Hid (CkIs w2 g c) := BlkIs.below HI.out HW.out
  have HB2 : Hid (BlkB w2 B 29 (flatE c.wd 256)) := BlkIs.below HBB.out HW.out
  obtain ⟨_, _, _, _, _, cb⟩ := ck_cells HI2.out HCO.out
  rw [HBL.out] at cb
  have HE : Hid (RB w2 (some ⟨B, h * 32, none⟩) 32 (emptyD c.wd h)) := by
    have h1 := (HB2.out.whole (flatE_isB _ _) (flatE_length _ _)).drop (k := 32 * h) (B := some ⟨B, h * 32, none⟩) (by omega) (fun _ => by
      show _ = some (Addr.add ⟨B, 0, none⟩ (32 * h))
      rw [add_lit, Nat.zero_add, Nat.mul_comm])
    have h2 := h1.take (k := 32) (by omega)
    rwa [flatE_at _ hh] at h2
  refine Lib.hid ?_
  go_wp2_with (first
    | (refine wpList_load_arr (o := ⟨some 50, _, _, _, _, _⟩) (by rfl) 29 (.tmp 49) rfl ⟨B, h * 32, none⟩ 32 (emptyD c.wd h) rfl HE.out (by omega) (by kernel_rfl) (by kernel_rfl) ?_)
    | (refine wpList_store_part (o := ⟨none, _, _, _, _, _⟩) (by rfl) 29 (.tmp 4) (.tmp 50) rfl 0 [] (bvs (zs 32)) (bvs (emptyD c.wd h)) [] rfl rfl (blk_in HD2.out) rfl (by simp [bvs, zs, emptyD_length]) (by rw [size_dig]; simp [bvs, emptyD_length]) (fun u hu => bvs_oneCell _ u hu) ?_; intro w3 h3 g3))
  have ht : Touch (fun B => B = w.heap.size) w2 w3 := Touch.one g3
  have ht2 : Touch (fun B => B = g) w w3 := ((Touch.ofBelow HW.out).mono fun _ _ h => h.elim).andThen ht fun B hB e => by omega
  exact arr_ret rfl rfl (blk_out h3) (emptyD_length _ _) row_dig size_dig rfl ⟨rfl, c.blank, ht.blk HI2.out (by have := HGL.out; omega), .inr ⟨B, HBL.out, ht.blk HB2.out (by have := HBG.out; omega)⟩, ht2, .inl rfl⟩
end Go.Proofs.YtfnlhfaihoojfaaDoor

/- client: bare, where the list is not there yet. -/
namespace Go.Proofs.YtfnlhfaihoojfaaDoor
open Go.RowKit
theorem zs_add (a b : Nat) : zs a ++ zs b = zs (a + b) := by simp [zs, List.replicate_append_replicate]
theorem bvs_append (xs ys : List Nat) : bvs (xs ++ ys) = bvs xs ++ bvs ys := by simp [bvs]
theorem Tabs.lt {w : World} (h : Tabs w) : 0 < w.heap.size ∧ 2 < w.heap.size := ⟨h.begin_.1, h.round_.1⟩
theorem madeZ (n : Nat) : madeCells (zarr 32) n = zarr n := by
  apply Array.ext_getElem?
  intro i
  by_cases hi : i < n
  · rw [zarr_at hi]
    have e : (zarr 32)[i % 32]! = .int .u8 0 := by rw [getElem!_def, zarr_at (Nat.mod_lt _ (by omega))]
    have hs : (zarr 32).size = 32 := by simp [zarr, bvs, zs]
    unfold madeCells
    rw [Array.getElem?_map, Array.getElem?_eq_getElem (by simpa using hi), hs]
    simp [e]
  · rw [Array.getElem?_eq_none (by simp [madeCells]; omega), Array.getElem?_eq_none (by simp [zarr, bvs, zs]; omega)]
set_option maxRecDepth 20000 in
set_option maxHeartbeats 2000000 in
theorem bare_new (g : Nat) (c : Ck) (h : Nat) (w : World) (hi : CkIs w g c) (hc : c.Ok) (hb : c.blank = .slice none 0 0) (hh : h < 256) (ht : Tabs w) (hg1 : g ≠ 0) (hg2 : g ≠ 2) :
    Calls Tryd.prog 55 #[.pointer (some ⟨g, 0, none⟩), .int .i64 h] w (Bared g c h w) := by
  have HI := Lib.hid hi
  have HCO := Lib.hid hc
  have HBL := Lib.hid hb
  have HT := Lib.hid ht
  have HG12 := Lib.hid (And.intro hg1 hg2)
  have HGL : Hid (g < w.heap.size) := hi.lt
  have hnn := digs_yes
  obtain ⟨cs, HCS, hmk⟩ : ∃ cs : Array Value, Hid (cs = zarr 8192) ∧ ∀ w : World, (Instr.makeSlice 42 (.int .i64 256) (.int .i64 256)).run Tryd.prog w = .ok (.slice (some ⟨w.heap.size, 0, none⟩) 256 256) (w.alloc (.cells cs 29)) := by
    have hinfo : (Tryd.prog.info? 29).map (fun i => (i.zero, i.size, i.bytes)) = some (some (.agg (zarr 32)), 32, 32) := by kernel_rfl
    obtain ⟨i, hi, hz, hs1, hby⟩ := info_parts hinfo
    refine ⟨_, (madeZ 8192), fun w => ?_⟩
    have hr := run_makeSlice (P := Tryd.prog) (w := w) 42 29 i (.agg (zarr 32)) und_digs hi hz .i64 .i64 256 256 (by omega) (by omega) (by rw [hs1]; decide) (by rw [hby]; decide) (by omega)
    rw [hs1] at hr
    exact hr
  clear hi hc hb ht hg1 hg2
  go_enter Tryd.func55, Tryd.ntmps55
  go_wp2_with (with_reducible refine stopAt (o := ⟨some 10, _, _, _, _, _⟩) ?_)
  refine start1 (G := fun w2 => Hid (wpList _ _ _ _ _ w2)) fun w2 HD0 HW HS => ?_
  have HD2 : Hid (BlkB w2 w.heap.size 29 (zs 32)) := HD0
  clear HD0
  have HI2 : Hid (CkIs w2 g c) := BlkIs.below HI.out HW.out
  obtain ⟨c0, _, _, _, _, cb⟩ := ck_cells HI2.out HCO.out
  rw [HBL.out] at cb
  have cb' := World.cell?_alloc_some w2 ⟨g, 133, none⟩ (.cells cs 29) (by rw [cb]; rfl)
  rw [cb] at cb'
  have fb : (w2.alloc (.cells cs 29)).frozen? ⟨g, 133, none⟩ = false := BlkIs.frozen (BlkIs.alloc HI2.out _) 133
  refine Lib.hid ?_
  go_wp2_with (with_reducible refine stopAt (o := ⟨some 19, _, _, _, _, _⟩) ?_)
  have HI3 : Hid (CkIs ((w2.alloc (.cells cs 29)).setCell ⟨g, 133, none⟩ (.slice (some ⟨w2.heap.size, 0, none⟩) 256 256)) g (c.blanked (.slice (some ⟨w2.heap.size, 0, none⟩) 256 256))) := ck_blank (BlkIs.alloc HI2.out _) HCO.out _
  have HB3 : Hid (BlkB ((w2.alloc (.cells cs 29)).setCell ⟨g, 133, none⟩ (.slice (some ⟨w2.heap.size, 0, none⟩) 256 256)) w2.heap.size 29 (zs 8192)) := by
    have h1 : BlkB (w2.alloc (.cells cs 29)) w2.heap.size 29 (zs 8192) := by rw [HCS.out]; exact zarr_blk _ _ _
    exact BlkIs.far h1 (by have := HI2.out.lt; show _ ≠ g; omega) _
  have HD3 : Hid (BlkB ((w2.alloc (.cells cs 29)).setCell ⟨g, 133, none⟩ (.slice (some ⟨w2.heap.size, 0, none⟩) 256 256)) w.heap.size 29 (zs 32)) := BlkIs.far (BlkIs.alloc HD2.out _) (by have := HGL.out; show _ ≠ g; omega) _
  have HT3 : Hid (Tabs ((w2.alloc (.cells cs 29)).setCell ⟨g, 133, none⟩ (.slice (some ⟨w2.heap.size, 0, none⟩) 256 256))) := (((HT.out.below HW.out)).below ((Below.refl _ _).alloc (Nat.le_refl _) _)).grown (grown_setCell _ 133 _) HG12.out.1 HG12.out.2
  have HTo3 : Hid (Touch (fun B => B = g) w ((w2.alloc (.cells cs 29)).setCell ⟨g, 133, none⟩ (.slice (some ⟨w2.heap.size, 0, none⟩) 256 256))) := ((Touch.ofBelow (HW.out.alloc HW.out.size _)).mono fun _ _ h => h.elim).trans (Touch.one (grown_setCell _ 133 _))
  have HS3 : Hid (((w2.alloc (.cells cs 29)).setCell ⟨g, 133, none⟩ (.slice (some ⟨w2.heap.size, 0, none⟩) 256 256)).heap.size = w2.heap.size + 1) := by show _ = _; simp
  have HS2 : Hid (w2.heap.size = w.heap.size + 1) := HS.out
  clear cb cb' fb c0 hmk hnn
  generalize (w2.alloc (.cells cs 29)).setCell ⟨g, 133, none⟩ (.slice (some ⟨w2.heap.size, 0, none⟩) 256 256) = w3 at *
  obtain ⟨c0, _⟩ := ck_cells HI3.out ⟨HCO.out.kl, HCO.out.kB, HCO.out.rl, HCO.out.rB, HCO.out.bl, HCO.out.bB, HCO.out.fl, HCO.out.fB⟩
  refine Lib.hid ?_
  go_wp2_with fail
  refine (empty_any c.wd w3 HT3.out).mono ?_
  rintro e w4 ⟨rfl, hb4⟩
  have HI4 := Lib.hid (BlkIs.below HI3.out hb4)
  have HB4 : Hid (BlkB w4 w2.heap.size 29 (zs 8192)) := BlkIs.below HB3.out hb4
  have HD4 : Hid (BlkB w4 w.heap.size 29 (zs 32)) := BlkIs.below HD3.out hb4
  have HT4 : Hid (Tabs w4) := HT3.out.below hb4
  have HTo4 := Lib.hid (HTo3.out.trans ((Touch.ofBelow hb4).mono fun _ _ h => h.elim))
  have HS4 : Hid (w2.heap.size + 1 ≤ w4.heap.size) := by have h1 := HS3.out; have h2 := hb4.size; show _ ≤ _; omega
  clear hb4 c0
  go_wp2_with (first
    | ((with_reducible refine stopAt (o := ⟨some 5, _, _, _, _, _⟩) ?_); refine allocNew (o := ⟨some 5, _, _, _, _, _⟩) (by rfl) 29 rfl _ _ info_dig ?_; intro w5 HB5 HW5 HS5)
    | (refine wpList_store_part (o := ⟨none, _, _, _, _, _⟩) (by rfl) 29 (.tmp 5) (.tmp 20) rfl 0 [] (bvs (zs 32)) (bvs (emptyD c.wd 0)) [] rfl rfl (blk_in HB5.out) rfl (by simp [bvs, zs, emptyD_length]) (by rw [size_dig]; simp [bvs, emptyD_length]) (fun u hu => bvs_oneCell _ u hu) ?_; intro w6 h6 g6)
    | (with_reducible refine stopAt (o := ⟨some 24, _, _, _, _, _⟩) ?_))
  have hSB : w2.heap.size < w4.heap.size := by have := HS4.out; omega
  have hSG : g < w.heap.size := HGL.out
  have hS2 : w2.heap.size = w.heap.size + 1 := HS2.out
  have HI6 : Hid (CkIs w6 g (c.blanked (.slice (some ⟨w2.heap.size, 0, none⟩) 256 256))) := (Touch.one g6).blk (BlkIs.below HI4.out HW5.out) (by omega)
  have HB6 : Hid (BlkB w6 w2.heap.size 29 (zs 8192)) := (Touch.one g6).blk (BlkIs.below HB4.out HW5.out) (by omega)
  have HD6 : Hid (BlkB w6 w.heap.size 29 (zs 32)) := (Touch.one g6).blk (BlkIs.below HD4.out HW5.out) (by omega)
  have HE6 : Hid (BlkB w6 w4.heap.size 29 (emptyD c.wd 0)) := blk_out h6
  have hbe : Below w4.heap.size w4 w6 := HW5.out.grown g6 HW5.out.size fun k hk => by injection hk with hk; omega
  have HT6 : Hid (Tabs w6) := HT4.out.below hbe
  have HTo6 : Hid (Touch (fun B => B = g) w w6) := HTo4.out.trans ((Touch.ofBelow hbe).mono fun _ _ h => h.elim)
  have HOK : Hid (Ck.Ok (c.blanked (.slice (some ⟨w2.heap.size, 0, none⟩) 256 256))) := ⟨HCO.out.kl, HCO.out.kB, HCO.out.rl, HCO.out.rB, HCO.out.bl, HCO.out.bB, HCO.out.fl, HCO.out.fB⟩
  have HWD : Hid ((c.blanked (.slice (some ⟨w2.heap.size, 0, none⟩) 256 256)).wd = c.wd) := rfl
  have HBK : Hid ((c.blanked (.slice (some ⟨w2.heap.size, 0, none⟩) 256 256)).blank = .slice (some ⟨w2.heap.size, 0, none⟩) 256 256) := rfl
  clear g6 h6 hbe hS2
  obtain ⟨_, _, _, _, _, cb⟩ := ck_cells HI6.out HOK.out
  rw [HBK.out] at cb
  refine Lib.hid ?_
  go_wp2_with fail
  clear cb
  go_loopw [26] (fun i wr => ∃ k : Nat, k ≤ 256 ∧ i = .int .i64 k ∧ Hid (CkIs wr g (c.blanked (.slice (some ⟨w2.heap.size, 0, none⟩) 256 256))) ∧ Hid (BlkB wr w2.heap.size 29 (flatE c.wd k ++ zs (32 * (256 - k)))) ∧ Hid (BlkB wr w.heap.size 29 (zs 32)) ∧ Hid (BlkB wr w4.heap.size 29 (emptyD c.wd k)) ∧ Hid (Tabs wr) ∧ Hid (Touch (fun B => B = g) w wr)) (fun i _ => 256 - (intOf i).toNat)
  case atStart => exact ⟨0, by omega, rfl, HI6.out, HB6.out, HD6.out, HE6.out, HT6.out, HTo6.out⟩
  case round =>
    obtain ⟨k, hk, rfl, HIr, HBr, HDr, HEr, HTr, HTor⟩ := hrel
    by_cases hlt : k < 256
    · have hlt' : (k : Int) < 256 := by omega
      have HSr : Hid (w4.heap.size < wr.heap.size) := HEr.out.lt
      have HGT : Hid (g ≠ 0 ∧ g ≠ 2) := HG12.out
      obtain ⟨wd0, _, _, _, _, cb⟩ := ck_cells HIr.out HOK.out
      rw [HBK.out] at cb
      have HC0 := Lib.hid wd0
      have HCB := Lib.hid cb
      clear wd0 cb
      go_wp2_with fail
      rename_i K9 hK9 KK hKK
      have HKK := Lib.hid hKK
      have HK9 := Lib.hid hK9
      clear hKK hK9
      have hu := und_dig
      have hsz : (Tryd.prog.info? 29).map (·.size) = some (bvs (emptyD c.wd k)).length := by rw [size_dig]; simp [bvs, emptyD_length]
      refine wp_region_held_drew (S := fun w' => w'.cell? ⟨g, 133, none⟩ = some (.slice (some ⟨w2.heap.size, 0, none⟩) 256 256) ∧ w'.rangeAt w4.heap.size 0 (bvs (emptyD c.wd k))) (by kernel_rfl) ⟨HCB.out, BlkIs.range HEr.out⟩ fun hH => ?_
      replace HIr : Hid (CkIs wr.drew g (c.blanked (.slice (some ⟨w2.heap.size, 0, none⟩) 256 256))) := HIr.out
      replace HBr : Hid (BlkB wr.drew w2.heap.size 29 (flatE c.wd k ++ zs (32 * (256 - k)))) := HBr.out
      replace HDr : Hid (BlkB wr.drew w.heap.size 29 (zs 32)) := HDr.out
      replace HEr : Hid (BlkB wr.drew w4.heap.size 29 (emptyD c.wd k)) := HEr.out
      replace HTr : Hid (Tabs wr.drew) := HTr.out.below (drewN_below (Below.refl _ _) 1)
      replace HTor : Hid (Touch (fun B => B = g) w wr.drew) := HTor.out.drewN 1
      replace HSr : Hid (w4.heap.size < wr.drew.heap.size) := HSr.out
      clear HC0 HCB
      generalize wr.drew = w7 at *
      refine wpAnyH_take (i := 0) (oi := ⟨some 29, _, _, _, _, _⟩) rfl (by kernel_rfl) (by kernel_rfl) (by kernel_rfl) (fun _ _ _ h => h) (Or.inl ⟨by rfl, fun w hw => by ((try dsimp only at hw); go_split_ands; go_simp; with_reducible rfl)⟩) (by assumption) ?_
      try simp only [Act.put, List.setIfInBounds_toArray, List.set_cons_zero, List.set_cons_succ]
      refine wpAnyH_take (i := 1) (oi := ⟨some 30, _, _, _, _, _⟩) rfl (by kernel_rfl) (by kernel_rfl) (by kernel_rfl) (fun _ _ _ h => h) (Or.inl ⟨by rfl, fun w hw => by ((try dsimp only at hw); go_split_ands; go_simp; with_reducible rfl)⟩) (by assumption) ?_
      try simp only [Act.put, List.setIfInBounds_toArray, List.set_cons_zero, List.set_cons_succ]
      refine wpAnyH_take (i := 2) (oi := ⟨some 31, _, _, _, _, _⟩) rfl (by kernel_rfl) (by kernel_rfl) (by kernel_rfl) (fun _ _ _ h => h) (Or.inl ⟨by rfl, fun w hw => by ((try dsimp only at hw); go_split_ands; go_simp; with_reducible rfl)⟩) (by assumption) ?_
      try simp only [Act.put, List.setIfInBounds_toArray, List.set_cons_zero, List.set_cons_succ]
      refine wpAnyH_take (i := 3) (oi := ⟨some 32, _, _, _, _, _⟩) rfl (by kernel_rfl) (by kernel_rfl) (by kernel_rfl) (fun _ _ _ h => h) (Or.inl ⟨by rfl, fun w hw => by ((try dsimp only at hw); go_split_ands; go_simp; with_reducible rfl)⟩) (by assumption) ?_
      try simp only [Act.put, List.setIfInBounds_toArray, List.set_cons_zero, List.set_cons_succ]
      refine wpAnyH_take (i := 4) (oi := ⟨some 33, _, _, _, _, _⟩) rfl (by kernel_rfl) (by kernel_rfl) (by kernel_rfl) (fun _ _ _ h => h) (Or.inl ⟨by rfl, fun w hw => by ((try dsimp only at hw); go_split_ands; go_simp; with_reducible rfl)⟩) (by assumption) ?_
      try simp only [Act.put, List.setIfInBounds_toArray, List.set_cons_zero, List.set_cons_succ]
      refine wpAnyH_take (i := 5) (oi := ⟨some 34, _, _, _, _, _⟩) rfl (by kernel_rfl) (by kernel_rfl) (by kernel_rfl) (fun _ _ _ h => h) (yieldsIf_load_mid (by rfl) _ _ rfl _ _ rfl _ _ (fun w hw => by (try dsimp only at hw); go_split_ands; assumption) (by assumption) rfl (by assumption)) (by assumption) ?_
      try simp only [Act.put, List.setIfInBounds_toArray, List.set_cons_zero, List.set_cons_succ]
      refine wpAnyH_take (i := 6) (oi := ⟨some 35, _, _, _, _, _⟩) rfl (by kernel_rfl) (by kernel_rfl) (by kernel_rfl) (fun _ _ _ h => h) (Or.inl ⟨by rfl, fun w hw => by ((try dsimp only at hw); go_split_ands; go_simp; with_reducible rfl)⟩) (by assumption) ?_
      try simp only [Act.put, List.setIfInBounds_toArray, List.set_cons_zero, List.set_cons_succ]
      have HHH := Lib.hid hH
      clear hH
      have HSP : Hid (flatE c.wd k ++ zs (32 * (256 - k)) = flatE c.wd k ++ (zs 32 ++ zs (32 * (256 - (k + 1))))) := by
        show _ = _
        rw [zs_add, show 32 + 32 * (256 - (k + 1)) = 32 * (256 - k) by omega]
      have hbin : BlkIs w7 w2.heap.size 29 (bvs (flatE c.wd k) ++ (bvs (zs 32) ++ bvs (zs (32 * (256 - (k + 1)))))).toArray := by
        have h1 : BlkB w7 w2.heap.size 29 (flatE c.wd k ++ zs (32 * (256 - k))) := HBr.out
        rw [HSP.out] at h1
        have h2 : BlkIs w7 w2.heap.size 29 (bvs (flatE c.wd k ++ (zs 32 ++ zs (32 * (256 - (k + 1)))))).toArray := h1
        rwa [bvs_append, bvs_append] at h2
      refine wpAnyH_ready (rs := [7]) (by kernel_rfl) (by simp) ?_
      refine AllReadyH.cons (o := ⟨none, _, _, _, _, _⟩) rfl (fun K hK => ?_) AllReadyH.nil
      refine wpOp_store_part (o := ⟨none, _, _, _, _, _⟩) (by rfl) 29 (.tmp 35) (.tmp 34) rfl (k * 32) (bvs (flatE c.wd k)) (bvs (zs 32)) (bvs (emptyD c.wd k)) (bvs (zs (32 * (256 - (k + 1))))) rfl rfl hbin (by simp [bvs, flatE_length]; omega) (by simp [bvs, zs, emptyD_length]) (by rw [size_dig]; simp [bvs, emptyD_length]) (fun u hu => bvs_oneCell _ u hu) ?_
      intro w8 hb8 hg8
      have hgb : g ≠ w2.heap.size := by have := HGL.out; have := HS2.out; omega
      have HI8 : Hid (CkIs w8 g (c.blanked (.slice (some ⟨w2.heap.size, 0, none⟩) 256 256))) := (Touch.one hg8).blk HIr.out hgb
      have HB8 : Hid (BlkB w8 w2.heap.size 29 (flatE c.wd (k + 1) ++ zs (32 * (256 - (k + 1))))) := by
        show BlkIs _ _ _ (bvs (flatE c.wd k ++ emptyD c.wd k ++ zs (32 * (256 - (k + 1))))).toArray
        rw [List.append_assoc, bvs_append, bvs_append]
        exact hb8
      have HD8 : Hid (BlkB w8 w.heap.size 29 (zs 32)) := (Touch.one hg8).blk HDr.out (by have := HS2.out; omega)
      have HE8 : Hid (BlkB w8 w4.heap.size 29 (emptyD c.wd k)) := (Touch.one hg8).blk HEr.out (by omega)
      have htb : w2.heap.size ≠ 0 ∧ w2.heap.size ≠ 2 := by
        have h1 := HT.out.lt
        have := HS2.out
        omega
      have HT8 : Hid (Tabs w8) := HTr.out.grown hg8 htb.1 htb.2
      have HTo8 : Hid (Touch (fun B => B = g) w w8) := HTor.out.andThen (Touch.one hg8) fun B hB e => by have := HS2.out; omega
      have hc8 : w8.cell? ⟨g, 133, none⟩ = some (.slice (some ⟨w2.heap.size, 0, none⟩) 256 256) := by
        obtain ⟨_, _, _, _, _, cb⟩ := ck_cells HI8.out HOK.out
        rw [HBK.out] at cb
        exact cb
      refine hK.out _ _ ⟨hc8, BlkIs.range HE8.out⟩ (fun _ => ?_)
      clear hK HIr HBr HDr HEr HTr HTor HSP hbin hb8 hg8 hgb htb hc8 HHH
      refine wpAnyH_done (by kernel_rfl) ?_ _
      change KK _ _
      refine HKK.out _ _ ?_
      clear HKK
      obtain ⟨wd0, _⟩ := ck_cells HI8.out HOK.out
      rw [HWD.out] at wd0
      refine wp_region_upTo (S := fun w' => w'.cell? ⟨g, 0, none⟩ = some (.int .i64 c.wd) ∧ w'.rangeAt w4.heap.size 0 (bvs (emptyD c.wd k))) 7 (by kernel_rfl) ⟨wd0, BlkIs.range HE8.out⟩ fun hH => ?_
      clear wd0
      replace HI8 : Hid (CkIs w8.drew g (c.blanked (.slice (some ⟨w2.heap.size, 0, none⟩) 256 256))) := HI8.out
      replace HB8 : Hid (BlkB w8.drew w2.heap.size 29 (flatE c.wd (k + 1) ++ zs (32 * (256 - (k + 1))))) := HB8.out
      replace HD8 : Hid (BlkB w8.drew w.heap.size 29 (zs 32)) := HD8.out
      replace HE8 : Hid (BlkB w8.drew w4.heap.size 29 (emptyD c.wd k)) := HE8.out
      replace HT8 : Hid (Tabs w8.drew) := HT8.out.below (drewN_below (Below.refl _ _) 1)
      replace HTo8 : Hid (Touch (fun B => B = g) w w8.drew) := HTo8.out.drewN 1
      generalize w8.drew = w8 at *
      refine wpAnyU_take (i := 0) (oi := ⟨some 36, _, _, _, _, _⟩) [1, 2, 3, 6, 7] rfl (by kernel_rfl) (by kernel_rfl) (by kernel_rfl) (fun _ _ _ h => h) (by kernel_rfl) (by kernel_rfl) (by kernel_rfl) (Or.inl ⟨by rfl, fun w hw => by ((try dsimp only at hw); go_split_ands; go_simp; with_reducible rfl)⟩) (by assumption) ?_
      try simp only [Act.put, List.setIfInBounds_toArray, List.set_cons_zero, List.set_cons_succ]
      refine wpAnyU_take (i := 1) (oi := ⟨some 37, _, _, _, _, _⟩) [2, 3, 6, 7] rfl (by kernel_rfl) (by kernel_rfl) (by kernel_rfl) (fun _ _ _ h => h) (by kernel_rfl) (by kernel_rfl) (by kernel_rfl) (Or.inl ⟨by rfl, fun w hw => by ((try dsimp only at hw); go_split_ands; go_simp; with_reducible rfl)⟩) (by assumption) ?_
      try simp only [Act.put, List.setIfInBounds_toArray, List.set_cons_zero, List.set_cons_succ]
      refine wpAnyU_take (i := 2) (oi := ⟨some 38, _, _, _, _, _⟩) [3, 6, 7] rfl (by kernel_rfl) (by kernel_rfl) (by kernel_rfl) (fun _ _ _ h => h) (by kernel_rfl) (by kernel_rfl) (by kernel_rfl) (Or.inl ⟨by rfl, fun w hw => by ((try dsimp only at hw); go_split_ands; go_simp; with_reducible rfl)⟩) (by assumption) ?_
      try simp only [Act.put, List.setIfInBounds_toArray, List.set_cons_zero, List.set_cons_succ]
      refine wpAnyU_take (i := 3) (oi := ⟨some 39, _, _, _, _, _⟩) [6, 7] rfl (by kernel_rfl) (by kernel_rfl) (by kernel_rfl) (fun _ _ _ h => h) (by kernel_rfl) (by kernel_rfl) (by kernel_rfl) (Or.inl ⟨by rfl, fun w hw => by ((try dsimp only at hw); go_split_ands; go_simp; with_reducible rfl)⟩) (by assumption) ?_
      try simp only [Act.put, List.setIfInBounds_toArray, List.set_cons_zero, List.set_cons_succ]
      refine wpAnyU_take (i := 4) (oi := ⟨some 40, _, _, _, _, _⟩) [6, 7] rfl (by kernel_rfl) (by kernel_rfl) (by kernel_rfl) (fun _ _ _ h => h) (by kernel_rfl) (by kernel_rfl) (by kernel_rfl) (yieldsIf_load_mid (by rfl) _ _ rfl _ _ rfl _ _ (fun w hw => by (try dsimp only at hw); go_split_ands; assumption) (by assumption) rfl (by assumption)) (by assumption) ?_
      try simp only [Act.put, List.setIfInBounds_toArray, List.set_cons_zero, List.set_cons_succ]
      refine wpAnyU_take (i := 5) (oi := ⟨some 41, _, _, _, _, _⟩) [6, 7] rfl (by kernel_rfl) (by kernel_rfl) (by kernel_rfl) (fun _ _ _ h => h) (by kernel_rfl) (by kernel_rfl) (by kernel_rfl) (yieldsIf_load_mid (by rfl) _ _ rfl _ _ rfl _ _ (fun w hw => by (try dsimp only at hw); go_split_ands; assumption) (by assumption) rfl (by assumption)) (by assumption) ?_
      try simp only [Act.put, List.setIfInBounds_toArray, List.set_cons_zero, List.set_cons_succ]
      clear hH hu hsz
      refine wpAnyU_one (i := 6) (by kernel_rfl) rfl (fun K hK => ?_)
      go_simp
      go_at_call 57
      refine (branch_any c.wd (emptyD c.wd k) (emptyD c.wd k) w8 (emptyD_isB _ _) (emptyD_length _ _) (emptyD_isB _ _) (emptyD_length _ _) HT8.out).mono ?_
      rintro e w9 ⟨rfl, hb9⟩
      have HI9 : Hid (CkIs w9 g (c.blanked (.slice (some ⟨w2.heap.size, 0, none⟩) 256 256))) := BlkIs.below HI8.out hb9
      have HE9 : Hid (BlkB w9 w4.heap.size 29 (emptyD c.wd k)) := BlkIs.below HE8.out hb9
      have hc9 : w9.cell? ⟨g, 0, none⟩ = some (.int .i64 c.wd) := (ck_cells HI9.out HOK.out).1
      refine hK.out _ _ (fun _ => ⟨hc9, BlkIs.range HE9.out⟩) ?_
      clear hK
      refine wpAnyU_one (i := 7) (o := ⟨none, _, _, _, _, _⟩) (by kernel_rfl) rfl (fun K hK => ?_)
      refine wpOp_store_part (o := ⟨none, _, _, _, _, _⟩) (by rfl) 29 (.tmp 5) (.tmp 42) rfl 0 [] (bvs (emptyD c.wd k)) (bvs (emptyD c.wd (k + 1))) [] rfl rfl (blk_in HE9.out) rfl (by simp [bvs, emptyD_length]) (by rw [size_dig]; simp [bvs, emptyD_length]) (fun u hu => bvs_oneCell _ u hu) ?_
      intro w10 h10 g10
      have hwl : w4.heap.size ≠ w.heap.size ∧ w4.heap.size ≠ g ∧ w4.heap.size ≠ w2.heap.size := by have := HGL.out; have := HS2.out; omega
      have htb : w4.heap.size ≠ 0 ∧ w4.heap.size ≠ 2 := by
        have h1 := HT.out.lt
        have := HS2.out
        omega
      refine hK.out _ _ (fun h => by cases h) ?_
      clear hK
      refine wpAnyU_done (by kernel_rfl) ?_ _
      change K9 _ _
      refine HK9.out _ _ ?_
      have HI10 : Hid (CkIs w10 g (c.blanked (.slice (some ⟨w2.heap.size, 0, none⟩) 256 256))) := (Touch.one g10).blk HI9.out (Ne.symm hwl.2.1)
      have HB10 : Hid (BlkB w10 w2.heap.size 29 (flatE c.wd (k + 1) ++ zs (32 * (256 - (k + 1))))) := (Touch.one g10).blk (BlkIs.below HB8.out hb9) (Ne.symm hwl.2.2)
      have HD10 : Hid (BlkB w10 w.heap.size 29 (zs 32)) := (Touch.one g10).blk (BlkIs.below HD8.out hb9) (Ne.symm hwl.1)
      have HE10 : Hid (BlkB w10 w4.heap.size 29 (emptyD c.wd (k + 1))) := blk_out h10
      have HT10 : Hid (Tabs w10) := (HT8.out.below hb9).grown g10 htb.1 htb.2
      have HTo10 : Hid (Touch (fun B => B = g) w w10) := (HTo8.out.trans ((Touch.ofBelow hb9).mono fun _ _ h => h.elim)).andThen (Touch.one g10) fun B hB e => by have := HS2.out; omega
      clear h10 g10 hwl htb hc9 hb9 HI8 HB8 HD8 HE8 HT8 HTo8 HI9 HE9 HK9
      go_wp2_with fail
      go_roundw
      case rel => exact ⟨k + 1, by omega, by go_num, HI10.out, HB10.out, HD10.out, HE10.out, HT10.out, HTo10.out⟩
      case measure => simp [intOf]; omega
    · have hk6 : k = 256 := by omega
      have hbr : BlkB wr w2.heap.size 29 (flatE c.wd 256) := by
        have h1 := HBr.out
        rw [hk6, show 32 * (256 - 256) = 0 from rfl, show zs 0 = [] from rfl, List.append_nil] at h1
        exact h1
      have HBR := Lib.hid hbr
      have hlt' : ¬ (k : Int) < 256 := by omega
      clear hk6 hbr
      obtain ⟨_, _, _, _, _, cb⟩ := ck_cells HIr.out HOK.out
      rw [HBK.out] at cb
      have HE : Hid (RB wr (some ⟨w2.heap.size, h * 32, none⟩) 32 (emptyD c.wd h)) := by
        have h1 := (HBR.out.whole (flatE_isB _ _) (flatE_length _ _)).drop (k := 32 * h) (B := some ⟨w2.heap.size, h * 32, none⟩) (by omega) (fun _ => by
          show _ = some (Addr.add ⟨w2.heap.size, 0, none⟩ (32 * h))
          rw [add_lit, Nat.zero_add, Nat.mul_comm])
        have h2 := h1.take (k := 32) (by omega)
        rwa [flatE_at _ hh] at h2
      go_wp2_with (first
        | (refine wpList_load_arr (o := ⟨some 50, _, _, _, _, _⟩) (by rfl) 29 (.tmp 49) rfl ⟨w2.heap.size, h * 32, none⟩ 32 (emptyD c.wd h) rfl HE.out (by omega) (by kernel_rfl) (by kernel_rfl) ?_)
        | (refine wpList_store_part (o := ⟨none, _, _, _, _, _⟩) (by rfl) 29 (.tmp 4) (.tmp 50) rfl 0 [] (bvs (zs 32)) (bvs (emptyD c.wd h)) [] rfl rfl (blk_in HDr.out) rfl (by simp [bvs, zs, emptyD_length]) (by rw [size_dig]; simp [bvs, emptyD_length]) (fun u hu => bvs_oneCell _ u hu) ?_; intro wf hf gf))
      have ht : Touch (fun B => B = w.heap.size) wr wf := Touch.one gf
      have ht2 : Touch (fun B => B = g) w wf := HTor.out.andThen ht fun B hB e => by omega
      exact arr_ret rfl rfl (blk_out hf) (emptyD_length _ _) row_dig size_dig rfl ⟨rfl, .slice (some ⟨w2.heap.size, 0, none⟩) 256 256, ht.blk HIr.out (by have := HGL.out; omega), .inr ⟨w2.heap.size, rfl, ht.blk HBR.out (by have := HS2.out; omega)⟩, ht2, .inr ⟨w2.heap.size, by have := HS2.out; omega, rfl⟩⟩
theorem bare_any (g : Nat) (c : Ck) (h : Nat) (w : World) (hi : CkIs w g c) (hc : c.Ok) (hb : BlankOk w c.wd c.blank) (hh : h < 256) (ht : Tabs w) (hg1 : g ≠ 0) (hg2 : g ≠ 2) :
    Calls Tryd.prog 55 #[.pointer (some ⟨g, 0, none⟩), .int .i64 h] w (Bared g c h w) := by
  rcases hb with hb | ⟨B, hb, hB⟩
  · exact bare_new g c h w hi hc hb hh ht hg1 hg2
  · exact bare_full g c h B w hi hc hb hB hh
end Go.Proofs.YtfnlhfaihoojfaaDoor

/- client: first. -/
namespace Go.Proofs.YtfnlhfaihoojfaaDoor
open Go.RowKit
theorem cell_grown {w w' : World} {g o r : Nat} {v : Value} (hg : w.grownBy w' (some r)) (hn : g ≠ r) (h : w.cell? ⟨g, o, none⟩ = some v) : w'.cell? ⟨g, o, none⟩ = some v := by
  rw [World.cell?_of_block (w := w) (a := ⟨g, o, none⟩) (hg.block g (World.block_lt_of_cell? w ⟨g, o, none⟩ h) fun e => by injection e with e; exact hn e)]
  exact h
/-- What a check's key says, a list of bytes or none. -/
def ValIs (w : World) (v : Value) (xs : List Nat) : Prop := ∃ A n k, v = .slice A n k ∧ RB w A n xs ∧ (A = none → k = 0) ∧ n ≤ 1073741824
set_option maxRecDepth 20000 in
set_option maxHeartbeats 1000000 in
theorem first_any (g : Nat) (c : Ck) (xs : List Nat) (w : World) (hi : CkIs w g c) (hc : c.Ok) (hv : ValIs w c.v xs) (ht : Tabs w) :
    Calls Tryd.prog 36 #[.pointer (some ⟨g, 0, none⟩)] w fun e w' => e = .returned (.agg (bvs (nodeD c.wd (startT c.key c.f xs))).toArray) ∧ Below w.heap.size w w' := by
  obtain ⟨A, n, k, hv1, hx, hA, hn⟩ := hv
  have HI := Lib.hid hi
  have HCO := Lib.hid hc
  have HV := Lib.hid hv1
  have HX := Lib.hid hx
  have HA := Lib.hid hA
  have HN := Lib.hid hn
  have HT := Lib.hid ht
  have HGL : Hid (g < w.heap.size) := hi.lt
  clear hi hc hv1 hx hA hn ht
  go_enter Tryd.func36, Tryd.ntmps36
  go_wp2_with (with_reducible refine stopAt (o := ⟨some 7, _, _, _, _, _⟩) ?_)
  refine start1 (G := fun w2 => Hid (wpList _ _ _ _ _ w2)) fun w2 HD0 HW HS => ?_
  have HD2 : Hid (BlkB w2 w.heap.size 29 (zs 32)) := HD0
  clear HD0
  have HI2 : Hid (CkIs w2 g c) := BlkIs.below HI.out HW.out
  have HX2 : Hid (RB w2 A n xs) := HX.out.below HW.out
  have HT2 : Hid (Tabs w2) := HT.out.below HW.out
  obtain ⟨c0, _, cf, cv, _, _⟩ := ck_cells HI2.out HCO.out
  rw [HV.out] at cv
  cases hf : c.f with
  | false =>
    rw [hf] at cf
    have HRS : Hid (startT c.key false xs = [2]) := rfl
    clear cv
    refine Lib.hid ?_
    go_wp2_with fail
    refine (empty_any c.wd w2 HT2.out).mono ?_
    rintro e w3 ⟨rfl, hb3⟩
    have HD3 : Hid (BlkB w3 w.heap.size 29 (zs 32)) := BlkIs.below HD2.out hb3
    have HB3 : Hid (Below w.heap.size w w3) := HW.out.trans (hb3.mono HW.out.size)
    clear hb3 c0 cf
    go_wp2_with (refine wpList_store_part (o := ⟨none, _, _, _, _, _⟩) (by rfl) 29 (.tmp 2) (.tmp 26) rfl 0 [] (bvs (zs 32)) (bvs (emptyD c.wd 0)) [] rfl rfl (blk_in HD3.out) rfl (by simp [bvs, zs, emptyD_length]) (by rw [size_dig]; simp [bvs, emptyD_length]) (fun u hu => bvs_oneCell _ u hu) ?_; intro w4 h4 g4)
    exact arr_ret rfl rfl (blk_out h4) (emptyD_length _ _) row_dig size_dig rfl ⟨by rw [hf, HRS.out]; rfl, HB3.out.grown g4 HB3.out.size fun k hk => by injection hk with hk; omega⟩
  | true =>
    rw [hf] at cf
    have HRS : Hid (startT c.key true xs = leafT c.key xs) := rfl
    refine Lib.hid ?_
    go_wp2_with fail
    rename_i KK hKK
    have HKK := Lib.hid hKK
    clear hKK
    have hu := und_key
    have hsz : (Tryd.prog.info? 31).map (·.size) = some (bvs c.key).length := by rw [size_key]; simp [bvs, HCO.out.kl]
    have hrk : w2.rangeAt g 1 (bvs c.key) := by
      have h : BlkIs w2 g _ c.C.toArray := HI2.out
      rw [c.byKey] at h
      exact h.rangeOf rfl
    refine wp_region_held_drew (S := fun w' => w'.cell? ⟨g, 0, none⟩ = some (.int .i64 c.wd) ∧ w'.rangeAt g 1 (bvs c.key) ∧ w'.cell? ⟨g, 67, none⟩ = some (.slice A n k)) (by kernel_rfl) ⟨c0, hrk, cv⟩ fun hH => ?_
    clear c0 hrk cv cf
    replace HD2 : Hid (BlkB w2.drew w.heap.size 29 (zs 32)) := HD2.out
    replace HX2 : Hid (RB w2.drew A n xs) := HX2.out.below (drewN_below (Below.refl _ _) 1)
    replace HT2 : Hid (Tabs w2.drew) := HT2.out.below (drewN_below (Below.refl _ _) 1)
    replace HW : Hid (Below w.heap.size w w2.drew) := drewN_below HW.out 1
    replace HS : Hid (w2.drew.heap.size = w.heap.size + 1) := HS.out
    generalize w2.drew = w2 at *
    refine wpAnyH_take (i := 0) (oi := ⟨some 8, _, _, _, _, _⟩) rfl (by kernel_rfl) (by kernel_rfl) (by kernel_rfl) (fun _ _ _ h => h) (Or.inl ⟨by rfl, fun w hw => by ((try dsimp only at hw); go_split_ands; go_simp; with_reducible rfl)⟩) (by assumption) ?_
    try simp only [Act.put, List.setIfInBounds_toArray, List.set_cons_zero, List.set_cons_succ]
    refine wpAnyH_take (i := 1) (oi := ⟨some 9, _, _, _, _, _⟩) rfl (by kernel_rfl) (by kernel_rfl) (by kernel_rfl) (fun _ _ _ h => h) (Or.inl ⟨by rfl, fun w hw => by ((try dsimp only at hw); go_split_ands; go_simp; with_reducible rfl)⟩) (by assumption) ?_
    try simp only [Act.put, List.setIfInBounds_toArray, List.set_cons_zero, List.set_cons_succ]
    refine wpAnyH_take (i := 2) (oi := ⟨some 10, _, _, _, _, _⟩) rfl (by kernel_rfl) (by kernel_rfl) (by kernel_rfl) (fun _ _ _ h => h) (Or.inl ⟨by rfl, fun w hw => by ((try dsimp only at hw); go_split_ands; go_simp; with_reducible rfl)⟩) (by assumption) ?_
    try simp only [Act.put, List.setIfInBounds_toArray, List.set_cons_zero, List.set_cons_succ]
    refine wpAnyH_take (i := 3) (oi := ⟨some 11, _, _, _, _, _⟩) rfl (by kernel_rfl) (by kernel_rfl) (by kernel_rfl) (fun _ _ _ h => h) (Or.inl ⟨by rfl, fun w hw => by ((try dsimp only at hw); go_split_ands; go_simp; with_reducible rfl)⟩) (by assumption) ?_
    try simp only [Act.put, List.setIfInBounds_toArray, List.set_cons_zero, List.set_cons_succ]
    refine wpAnyH_take (i := 4) (oi := ⟨some 12, _, _, _, _, _⟩) rfl (by kernel_rfl) (by kernel_rfl) (by kernel_rfl) (fun _ _ _ h => h) (Or.inl ⟨by rfl, fun w hw => by ((try dsimp only at hw); go_split_ands; go_simp; with_reducible rfl)⟩) (by assumption) ?_
    try simp only [Act.put, List.setIfInBounds_toArray, List.set_cons_zero, List.set_cons_succ]
    refine wpAnyH_take (i := 5) (oi := ⟨some 13, _, _, _, _, _⟩) rfl (by kernel_rfl) (by kernel_rfl) (by kernel_rfl) (fun _ _ _ h => h) (Or.inl ⟨by rfl, fun w hw => by ((try dsimp only at hw); go_split_ands; go_simp; with_reducible rfl)⟩) (by assumption) ?_
    try simp only [Act.put, List.setIfInBounds_toArray, List.set_cons_zero, List.set_cons_succ]
    refine wpAnyH_take (i := 6) (oi := ⟨some 14, _, _, _, _, _⟩) rfl (by kernel_rfl) (by kernel_rfl) (by kernel_rfl) (fun _ _ _ h => h) (Or.inl ⟨by rfl, fun w hw => by ((try dsimp only at hw); go_split_ands; go_simp; with_reducible rfl)⟩) (by assumption) ?_
    try simp only [Act.put, List.setIfInBounds_toArray, List.set_cons_zero, List.set_cons_succ]
    refine wpAnyH_take (i := 7) (oi := ⟨some 15, _, _, _, _, _⟩) rfl (by kernel_rfl) (by kernel_rfl) (by kernel_rfl) (fun _ _ _ h => h) (yieldsIf_load_mid (by rfl) _ _ rfl _ _ rfl _ _ (fun w hw => by (try dsimp only at hw); go_split_ands; assumption) (by assumption) rfl (by assumption)) (by assumption) ?_
    try simp only [Act.put, List.setIfInBounds_toArray, List.set_cons_zero, List.set_cons_succ]
    refine wpAnyH_take (i := 8) (oi := ⟨some 16, _, _, _, _, _⟩) rfl (by kernel_rfl) (by kernel_rfl) (by kernel_rfl) (fun _ _ _ h => h) (Or.inl ⟨by rfl, fun w hw => by ((try dsimp only at hw); go_split_ands; go_simp; with_reducible rfl)⟩) (by assumption) ?_
    try simp only [Act.put, List.setIfInBounds_toArray, List.set_cons_zero, List.set_cons_succ]
    refine wpAnyH_take (i := 9) (oi := ⟨some 17, _, _, _, _, _⟩) rfl (by kernel_rfl) (by kernel_rfl) (by kernel_rfl) (fun _ _ _ h => h) (Or.inl ⟨by rfl, fun w hw => by ((try dsimp only at hw); go_split_ands; go_simp; with_reducible rfl)⟩) (by assumption) ?_
    try simp only [Act.put, List.setIfInBounds_toArray, List.set_cons_zero, List.set_cons_succ]
    refine wpAnyH_take (i := 10) (oi := ⟨some 18, _, _, _, _, _⟩) rfl (by kernel_rfl) (by kernel_rfl) (by kernel_rfl) (fun _ _ _ h => h) (Or.inl ⟨by rfl, fun w hw => by ((try dsimp only at hw); go_split_ands; go_simp; with_reducible rfl)⟩) (by assumption) ?_
    try simp only [Act.put, List.setIfInBounds_toArray, List.set_cons_zero, List.set_cons_succ]
    refine wpAnyH_take (i := 11) (oi := ⟨some 19, _, _, _, _, _⟩) rfl (by kernel_rfl) (by kernel_rfl) (by kernel_rfl) (fun _ _ _ h => h) (Or.inl ⟨by rfl, fun w hw => by ((try dsimp only at hw); go_split_ands; go_simp; with_reducible rfl)⟩) (by assumption) ?_
    try simp only [Act.put, List.setIfInBounds_toArray, List.set_cons_zero, List.set_cons_succ]
    refine wpAnyH_take (i := 12) (oi := ⟨some 20, _, _, _, _, _⟩) rfl (by kernel_rfl) (by kernel_rfl) (by kernel_rfl) (fun _ _ _ h => h) (Or.inl ⟨by rfl, fun w hw => by ((try dsimp only at hw); go_split_ands; go_simp; with_reducible rfl)⟩) (by assumption) ?_
    try simp only [Act.put, List.setIfInBounds_toArray, List.set_cons_zero, List.set_cons_succ]
    have HHH := Lib.hid hH
    clear hH hu hsz
    refine wpAnyH_ready (rs := [13]) (by kernel_rfl) (by simp) ?_
    refine AllReadyH.cons rfl (fun K hK => ?_) (AllReadyH.nil)
    go_simp
    go_at_call 58
    refine (leaf_any c.wd c.key A n k xs w2 HCO.out.kB HCO.out.kl HX2.out HA.out HN.out HT2.out).mono ?_
    rintro e w3 ⟨rfl, hb3⟩
    have HD3 : Hid (BlkB w3 w.heap.size 29 (zs 32)) := BlkIs.below HD2.out hb3
    have HB3 : Hid (Below w.heap.size w w3) := HW.out.trans (hb3.mono HW.out.size)
    have hgl : g < w2.heap.size := by have := HGL.out; have := HS.out; omega
    have HH3 : Hid (w3.cell? ⟨g, 0, none⟩ = some (.int .i64 c.wd) ∧ w3.rangeAt g 1 (bvs c.key) ∧ w3.cell? ⟨g, 67, none⟩ = some (.slice A n k)) := ⟨(hb3.cell (p := ⟨g, 0, none⟩) hgl).trans HHH.out.1, fun j v hj => (hb3.cell (p := ⟨g, 1 + j, none⟩) hgl).trans (HHH.out.2.1 j v hj), (hb3.cell (p := ⟨g, 67, none⟩) hgl).trans HHH.out.2.2⟩
    refine hK.out _ _ HH3.out (fun _ => ?_)
    clear hK hb3 hgl HHH
    refine wpAnyH_ready (rs := [14]) (by kernel_rfl) (by simp) ?_
    refine AllReadyH.cons (o := ⟨none, _, _, _, _, _⟩) rfl (fun K hK => ?_) AllReadyH.nil
    refine wpOp_store_part (o := ⟨none, _, _, _, _, _⟩) (by rfl) 29 (.tmp 2) (.tmp 21) rfl 0 [] (bvs (zs 32)) (bvs (nodeD c.wd (leafT c.key xs))) [] rfl rfl (blk_in HD3.out) rfl (by simp [bvs, zs, nodeD_length]) (by rw [size_dig]; simp [bvs, nodeD_length]) (fun u hu => bvs_oneCell _ u hu) ?_
    intro w4 h4 g4
    have hgn : g ≠ w.heap.size := by have := HGL.out; omega
    refine hK.out _ _ ⟨(cell_grown g4 hgn HH3.out.1), range_grown HH3.out.2.1 g4 hgn, (cell_grown g4 hgn HH3.out.2.2)⟩ (fun _ => ?_)
    clear hK
    refine wpAnyH_done (by kernel_rfl) ?_ _
    change KK _ _
    refine HKK.out _ _ ?_
    go_wp2_with fail
    exact arr_ret rfl rfl (blk_out h4) (nodeD_length _ _) row_dig size_dig rfl ⟨by rw [hf, HRS.out], HB3.out.grown g4 HB3.out.size fun k hk => by injection hk with hk; omega⟩
end Go.Proofs.YtfnlhfaihoojfaaDoor
