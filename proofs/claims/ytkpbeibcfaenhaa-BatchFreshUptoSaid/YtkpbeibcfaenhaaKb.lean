/- KeepB, ListC, KeepC, UntB (merged by merge_k.py) -/
import Derived.Test.YtkpbeibcfaenhaaKa
import Derived.Test.YtkpbeibcfaenhaaGb
/- ledgerlaw3.keeper.keep. -/
namespace Go.Proofs.Ytkpbeibcfaenhaa
open Go.RowKit
theorem info_bytes : (Try.prog.info? 31).map (fun i => (i.zero, i.size, i.bytes)) = some (some (.slice none 0 0), 1, 24) := by kernel_rfl
theorem und_rows : Try.prog.underlying 57 = some (.slice 31) := by kernel_rfl
theorem upd_at1 (v : Nat → Value) (u : Value) : upd v 0 u 1 = v 1 := rfl
def KeepB (w0 : World) (gb : Nat) (KL LL pd : List Ob) (E : World → Prop) (e : Ending) (w' : World) : Prop := e = .returned (.tuple #[]) ∧ Ph w0 w' gb KL LL pd E
set_option maxRecDepth 100000 in
set_option maxHeartbeats 1600000 in
theorem keepB_any (w0 w : World) (gb : Nat) (KL LL pd : List Ob) (E : World → Prop) (u : Value) (xs : List Nat) (h : Ph w0 w gb KL LL (byO u xs :: pd) E) (hB : IsB xs) (hn : xs.length ≤ 1073741824) (hk : KL.length ≤ 1073741824) :
    Calls Try.prog 35 #[.pointer (some ⟨gb, 0, none⟩), u] w (KeepB w0 gb (KL ++ [byO u xs]) LL pd E) := by
  obtain ⟨v, KW, LW, R, hp⟩ := h
  have HP := Lib.hid hp
  have HIB := Lib.hid hB
  have hou : OwnU w w0.heap.size u xs := ⟨hp.objs.own (byO u xs) (List.mem_append_right _ List.mem_cons_self), hB⟩
  have HOU := Lib.hid hou
  obtain ⟨Au, cu, eu, hru, _⟩ := hou.form
  have HRU := Lib.hid hru
  obtain ⟨A0, c0, e0, _⟩ := rowV_form (hp.heads.row 0 (by omega))
  obtain ⟨A1, c1, e1, _⟩ := rowV_form (hp.heads.row 1 (by omega))
  have hat := hp.heads.at_
  have b0 := hat.1.1
  have f0 := hat.2 0
  rw [e0] at b0
  obtain ⟨n0, hn0⟩ : ∃ n0, (xsK KL KW LL LW 0).length = n0 := ⟨_, rfl⟩
  obtain ⟨n1, hn1⟩ : ∃ n1, (xsK KL KW LL LW 1).length = n1 := ⟨_, rfl⟩
  have HN0 := Lib.hid hn0
  have HN1 := Lib.hid hn1
  rw [hn0] at b0 e0
  rw [hn1] at e1
  clear hn0 hn1
  have HE0 := Lib.hid e0
  have HE1 := Lib.hid e1
  have hk0 : (xsK KL KW LL LW 0).length ≤ 1073741824 := by simp [xsK, hk]
  have hk1 : (xsK KL KW LL LW 1).length ≤ 1073741824 := by simp [xsK, hp.lenB, hk]
  have HNX := Lib.hid hn
  have HRW : Hid (∀ W, Touch (Spine gb v) w W → RB W Au xs.length xs) := fun W hW => hW.rb hru fun h0 ad ea hs => by
    have h1 := hp.inR (byO u xs) (List.mem_append_right _ List.mem_cons_self) ad.block (by show u.ownBlock = _; rw [eu, ea]; rfl)
    exact hp.sp _ hs h1
  have hnx : xs.length ≤ 140737488355328 := by omega
  clear hp hB hou hru hat e0 e1 hk hn
  subst eu
  go_enter Try.func35, Try.ntmps35
  go_wp2_with ((with_reducible refine stopAt (o := ⟨some 11, _, _, _, _, _⟩) ?_); refine appendV (o := ⟨some 11, _, _, _, _, _⟩) und_rows info_bytes w rfl (.tmp 8) (.tmp 10) rfl w0.heap.size _ _ (HP.out.heads.row 0 (by omega)) _ rfl HE0.out.symm rfl hk0 HP.out.bel.size ?_; intro v0' w1 hr1 hg1 hl1; obtain ⟨A0', c0', e0', _⟩ := rowV_form hr1; have e0q : v0' = .slice A0' (n0 + 1) c0' := (by rw [e0', List.length_append, HN0.out]; rfl); have g1 := (HP.out.heads.mid (j := 0) (by omega) hg1).cell 0; have H1 := Lib.hid (HP.out.heads.step (j := 0) (by omega) hg1 hr1 hl1); have f1 := (HP.out.heads.mid (j := 0) (by omega) hg1).frozen 0; clear e0' hr1 hg1 hl1; subst e0q)
  generalize hw2 : w1.setCell ⟨gb, 0, none⟩ (.slice A0' (n0 + 1) c0') = w2 at *
  clear hw2 b0 f0 f1 g1
  have b1 := H1.out.1.at_.1.2.1
  rw [upd_at1, HE1.out] at b1
  refine wp_region_upTo (S := fun w' => w'.cell? ⟨gb, 1, none⟩ = some (.slice A1 n1 c1)) 11 (by kernel_rfl) b1 fun hH => ?_
  have H2 : Hid (Heads w2.drew gb w0.heap.size (upd v 0 (.slice A0' (n0 + 1) c0')) (upd (xsK KL KW LL LW) 0 (xsK KL KW LL LW 0 ++ [.slice Au xs.length cu]))) := H1.out.1.below (drewN_below (Below.refl _ _) 1)
  have HT2 : Hid (Touch (Spine gb v) w w2.drew) := H1.out.2.1.trans (Touch.ofBelow (drewN_below (Below.refl _ _) 1))
  have HS1 := Lib.hid H1.out.2.2
  replace b1 : w2.drew.cell? ⟨gb, 1, none⟩ = some (.slice A1 n1 c1) := b1
  clear H1
  generalize w2.drew = w3 at *
  refine wpAnyU_take (i := 0) (oi := ⟨some 14, _, _, _, _, _⟩) [9, 10, 11] rfl (by kernel_rfl) (by kernel_rfl) (by kernel_rfl) (fun _ _ _ h => h) (by kernel_rfl) (by kernel_rfl) (by kernel_rfl) (Or.inl ⟨by rfl, fun w hw => by (try dsimp only at hw); go_simp; with_reducible rfl⟩) (by assumption) ?_
  try simp only [Act.put, List.setIfInBounds_toArray, List.set_cons_zero, List.set_cons_succ]
  refine wpAnyU_take (i := 1) (oi := ⟨some 15, _, _, _, _, _⟩) [2, 3, 4, 8, 9, 10, 11] rfl (by kernel_rfl) (by kernel_rfl) (by kernel_rfl) (fun _ _ _ h => h) (by kernel_rfl) (by kernel_rfl) (by kernel_rfl) (Or.inl ⟨by rfl, fun w hw => by (try dsimp only at hw); go_simp; with_reducible rfl⟩) (by assumption) ?_
  try simp only [Act.put, List.setIfInBounds_toArray, List.set_cons_zero, List.set_cons_succ]
  refine wpAnyU_take (i := 2) (oi := ⟨some 16, _, _, _, _, _⟩) [3, 4, 8, 9, 10, 11] rfl (by kernel_rfl) (by kernel_rfl) (by kernel_rfl) (fun _ _ _ h => h) (by kernel_rfl) (by kernel_rfl) (by kernel_rfl) (Or.inl ⟨by rfl, fun w hw => by (try dsimp only at hw); go_simp; with_reducible rfl⟩) (by assumption) ?_
  try simp only [Act.put, List.setIfInBounds_toArray, List.set_cons_zero, List.set_cons_succ]
  refine wpAnyU_take (i := 3) (oi := ⟨some 17, _, _, _, _, _⟩) [4, 8, 9, 10, 11] rfl (by kernel_rfl) (by kernel_rfl) (by kernel_rfl) (fun _ _ _ h => h) (by kernel_rfl) (by kernel_rfl) (by kernel_rfl) (Or.inl ⟨by rfl, fun w hw => by (try dsimp only at hw); go_simp; with_reducible rfl⟩) (by assumption) ?_
  try simp only [Act.put, List.setIfInBounds_toArray, List.set_cons_zero, List.set_cons_succ]
  refine wpAnyU_take (i := 5) (oi := ⟨some 19, _, _, _, _, _⟩) [6, 7, 8, 9, 10, 11] rfl (by kernel_rfl) (by kernel_rfl) (by kernel_rfl) (fun _ _ _ h => h) (by kernel_rfl) (by kernel_rfl) (by kernel_rfl) (Or.inl ⟨by rfl, fun w hw => by (try dsimp only at hw); go_simp; with_reducible rfl⟩) (by assumption) ?_
  try simp only [Act.put, List.setIfInBounds_toArray, List.set_cons_zero, List.set_cons_succ]
  refine wpAnyU_take (i := 4) (oi := ⟨some 18, _, _, _, _, _⟩) [8, 9, 10, 11] rfl (by kernel_rfl) (by kernel_rfl) (by kernel_rfl) (fun _ _ _ h => h) (by kernel_rfl) (by kernel_rfl) (by kernel_rfl) (Or.inl ⟨by rfl, fun w hw => by (try dsimp only at hw); go_simp; with_reducible rfl⟩) (by assumption) ?_
  try simp only [Act.put, List.setIfInBounds_toArray, List.set_cons_zero, List.set_cons_succ]
  refine wpAnyU_one (i := 6) (by kernel_rfl) rfl (fun K hK => ?_)
  go_simp
  go_at_call 26
  refine (copyBytes_any Au xs.length cu xs w3 (HRW.out w3 HT2.out) hnx).mono ?_
  rintro e w4 ⟨u2, rfl, hou2, hb4⟩
  obtain ⟨A2, c2, e2, _⟩ := hou2.form
  have HO2 := Lib.hid hou2
  have HB4 := Lib.hid hb4
  subst e2
  have b4 : w4.cell? ⟨gb, 1, none⟩ = some (.slice A1 n1 c1) := (hb4.cell (p := ⟨gb, 1, none⟩) H2.out.blk.lt).trans b1
  refine hK.out _ _ (fun _ => b4) ?_
  clear hK hou2 hb4 b1
  refine wpAnyU_one (i := 7) (by kernel_rfl) rfl (fun K hK => ?_)
  go_simp
  refine hK.out _ _ (fun _ => (((Below.refl w4.heap.size w4).alloc (Nat.le_refl _) _).cell (p := ⟨gb, 1, none⟩) (Nat.lt_of_lt_of_le H2.out.blk.lt HB4.out.size)).trans b4) ?_
  clear hK
  have H4 := Lib.hid (H2.out.below HB4.out)
  refine wpAnyU_one (i := 8) (by kernel_rfl) rfl (fun K hK => ?_)
  refine wpOp_appendV (o := ⟨some 22, _, _, _, _, _⟩) und_rows info_bytes ?hw w4 (.tmp 18) (.tmp 21) rfl w0.heap.size (v 1) _ (H4.out.row 1 (by omega)) (.slice A2 xs.length c2) rfl ?hs ?hx hk1 ?hb ?hh
  case hw => kernel_rfl
  case hs => exact HE1.out.symm
  case hx => rfl
  case hb => exact Nat.le_trans HP.out.bel.size (Nat.le_trans HT2.out.size HB4.out.size)
  intro v1' w5 hr5 hg5 hl5
  obtain ⟨A1', c1', e1', _⟩ := rowV_form hr5
  have e1q : v1' = .slice A1' (n1 + 1) c1' := by rw [e1', List.length_append]; show Value.slice A1' ((xsK KL KW LL LW 1).length + 1) c1' = _; rw [HN1.out]
  have H5 := Lib.hid (H4.out.step (j := 1) (by omega) hg5 hr5 hl5)
  have hblk5 := H4.out.mid (j := 1) (by omega) hg5
  have b5 : w5.cell? ⟨gb, 1, none⟩ = some (.slice A1 n1 c1) := (hblk5.cell 1).trans (by show some (v 1) = _; rw [HE1.out])
  have f5 := hblk5.frozen 1
  subst e1q
  refine hK.out _ _ (fun _ => b5) ?_
  clear hK hblk5 e1' hr5 hg5 hl5 b4
  refine wpAnyU_take (i := 9) (oi := ⟨some 23, _, _, _, _, _⟩) [10, 11] rfl (by kernel_rfl) (by kernel_rfl) (by kernel_rfl) (fun _ _ _ h => h) (by kernel_rfl) (by kernel_rfl) (by kernel_rfl) (Or.inl ⟨by rfl, fun w hw => by (try dsimp only at hw); go_simp; with_reducible rfl⟩) (by assumption) ?_
  try simp only [Act.put, List.setIfInBounds_toArray, List.set_cons_zero, List.set_cons_succ]
  refine wpAnyU_take (i := 10) (oi := ⟨some 24, _, _, _, _, _⟩) [11] rfl (by kernel_rfl) (by kernel_rfl) (by kernel_rfl) (fun _ _ _ h => h) (by kernel_rfl) (by kernel_rfl) (by kernel_rfl) (Or.inl ⟨by rfl, fun w hw => by (try dsimp only at hw); go_simp; with_reducible rfl⟩) (by assumption) ?_
  try simp only [Act.put, List.setIfInBounds_toArray, List.set_cons_zero, List.set_cons_succ]
  refine wpAnyU_one (i := 11) (by kernel_rfl) rfl (fun K hK => ?_)
  go_simp
  refine hK.out _ _ (fun h => by cases h) ?_
  refine wpAnyU_done (by kernel_rfl) ?_ _
  refine bodyPost_end (results_none rfl _ _ _) rfl ?_
  refine ⟨rfl, ?_⟩
  have q0 : KL.map Ob.v ++ [Value.slice Au xs.length cu] = xsK KL KW LL LW 0 ++ [Value.slice Au xs.length cu] := rfl
  have H2' : Heads w3 gb w0.heap.size (upd v 0 (.slice A0' (n0 + 1) c0')) (xsK (KL ++ [byO (.slice Au xs.length cu) xs]) KW LL LW) := by rw [← xsK_0]; exact H2.out
  have H5' : Heads (w5.setCell ⟨gb, 1, none⟩ (.slice A1' (n1 + 1) c1')) gb w0.heap.size (upd (upd v 0 (.slice A0' (n0 + 1) c0')) 1 (.slice A1' (n1 + 1) c1')) (xsK (KL ++ [byO (.slice Au xs.length cu) xs]) (KW ++ [.slice A2 xs.length c2]) LL LW) := by
    rw [← xsK_1, ← xsK_0]
    exact H5.out.1
  exact ⟨_, _, _, _, HP.out.addB HIB.out HNX.out H2' HT2.out HS1.out HB4.out HO2.out H5' H5.out.2.1 H5.out.2.2⟩
end Go.Proofs.Ytkpbeibcfaenhaa

/- ledgerlaw3.rows.list. (printed by gen_listk.py) -/
namespace Go.Proofs.Ytkpbeibcfaenhaa
open Go.RowKit
theorem info_chls : (Try.prog.info? 30).map (fun i => (i.zero, i.size, i.bytes)) = some (some (.slice none 0 0), 1, 24) := by kernel_rfl
theorem und_chls : Try.prog.underlying 55 = some (.slice 30) := by kernel_rfl
theorem upd_at3 (v : Nat → Value) (u : Value) : upd v 2 u 3 = v 3 := rfl
def ListC (w0 : World) (gb : Nat) (KL LL pd : List Ob) (E : World → Prop) (e : Ending) (w' : World) : Prop := e = .returned (.tuple #[]) ∧ Ph w0 w' gb KL LL pd E
set_option maxRecDepth 100000 in
set_option maxHeartbeats 1600000 in
theorem listC_any (w0 w : World) (gb : Nat) (KL LL pd : List Ob) (E : World → Prop) (u : Value) (n : Nat) (cs : List Value) (X : Nat → Chg) (h : Ph w0 w gb KL LL (roO u n cs :: pd) E)
    (hX : ∀ R : Nat → Prop, Dep R w E → (∀ o, o ∈ KL ++ LL ++ roO u n cs :: pd → ∀ B, o.v.ownBlock = some B → R B) → Dep R w fun w => ChsV w u n X) (hn : n ≤ 67108864) (hv : ∀ k, k < n → (X k).val.length ≤ 140737488355328) (hk : LL.length ≤ 1073741824) :
    Calls Try.prog 39 #[.pointer (some ⟨gb, 0, none⟩), u] w (ListC w0 gb KL (LL ++ [roO u n cs]) pd E) := by
  obtain ⟨v, KW, LW, R, hp⟩ := h
  have HP := Lib.hid hp
  have HV := Lib.hid hv
  have HDX := Lib.hid (hX R hp.dep hp.inR)
  obtain ⟨Au, cu, eu, hru⟩ := HDX.out.now
  obtain ⟨A0, c0, e0, _⟩ := rowV_form (hp.heads.row 2 (by omega))
  obtain ⟨A1, c1, e1, _⟩ := rowV_form (hp.heads.row 3 (by omega))
  have hat := hp.heads.at_
  have b0 := hat.1.2.2.1
  have f0 := hat.2 2
  rw [e0] at b0
  obtain ⟨n0, hn0⟩ : ∃ n0, (xsK KL KW LL LW 2).length = n0 := ⟨_, rfl⟩
  obtain ⟨n1, hn1⟩ : ∃ n1, (xsK KL KW LL LW 3).length = n1 := ⟨_, rfl⟩
  have HN0 := Lib.hid hn0
  have HN1 := Lib.hid hn1
  rw [hn0] at b0 e0
  rw [hn1] at e1
  clear hn0 hn1
  have HE0 := Lib.hid e0
  have HE1 := Lib.hid e1
  have hk0 : (xsK KL KW LL LW 2).length ≤ 1073741824 := by simp [xsK, hk]
  have hk1 : (xsK KL KW LL LW 3).length ≤ 1073741824 := by simp [xsK, hp.lenC, hk]
  have HNX := Lib.hid hn
  have HRW : Hid (∀ W, Touch (Spine gb v) w W → ChsAt W Au n X) := fun W hW => by
    obtain ⟨A', c', e', h'⟩ := (HDX.out.same hW.size fun k hk => hW.block k (hp.rlt k hk) fun hs => hp.sp k hs hk).now
    rw [eu] at e'
    injection e' with e1 _ _
    rw [e1]
    exact h'
  have hnx : n * 64 ≤ 140737488355328 := by omega
  clear hp hv hX hru hat e0 e1 hk hn
  subst eu
  go_enter Try.func39, Try.ntmps39
  go_wp2_with ((with_reducible refine stopAt (o := ⟨some 11, _, _, _, _, _⟩) ?_); refine appendV (o := ⟨some 11, _, _, _, _, _⟩) und_chls info_chls w rfl (.tmp 8) (.tmp 10) rfl w0.heap.size _ _ (HP.out.heads.row 2 (by omega)) _ rfl HE0.out.symm rfl hk0 HP.out.bel.size ?_; intro v0' w1 hr1 hg1 hl1; obtain ⟨A0', c0', e0', _⟩ := rowV_form hr1; have e0q : v0' = .slice A0' (n0 + 1) c0' := (by rw [e0', List.length_append, HN0.out]; rfl); have g1 := (HP.out.heads.mid (j := 2) (by omega) hg1).cell 2; have H1 := Lib.hid (HP.out.heads.step (j := 2) (by omega) hg1 hr1 hl1); have f1 := (HP.out.heads.mid (j := 2) (by omega) hg1).frozen 2; clear e0' hr1 hg1 hl1; subst e0q)
  generalize hw2 : w1.setCell ⟨gb, 2, none⟩ (.slice A0' (n0 + 1) c0') = w2 at *
  clear hw2 b0 f0 f1 g1
  have b1 := H1.out.1.at_.1.2.2.2
  rw [upd_at3, HE1.out] at b1
  refine wp_region_upTo (S := fun w' => w'.cell? ⟨gb, 3, none⟩ = some (.slice A1 n1 c1)) 11 (by kernel_rfl) b1 fun hH => ?_
  have H2 : Hid (Heads w2.drew gb w0.heap.size (upd v 2 (.slice A0' (n0 + 1) c0')) (upd (xsK KL KW LL LW) 2 (xsK KL KW LL LW 2 ++ [.slice Au n cu]))) := H1.out.1.below (drewN_below (Below.refl _ _) 1)
  have HT2 : Hid (Touch (Spine gb v) w w2.drew) := H1.out.2.1.trans (Touch.ofBelow (drewN_below (Below.refl _ _) 1))
  have HS1 := Lib.hid H1.out.2.2
  replace b1 : w2.drew.cell? ⟨gb, 3, none⟩ = some (.slice A1 n1 c1) := b1
  clear H1
  generalize w2.drew = w3 at *
  refine wpAnyU_take (i := 0) (oi := ⟨some 14, _, _, _, _, _⟩) [9, 10, 11] rfl (by kernel_rfl) (by kernel_rfl) (by kernel_rfl) (fun _ _ _ h => h) (by kernel_rfl) (by kernel_rfl) (by kernel_rfl) (Or.inl ⟨by rfl, fun w hw => by (try dsimp only at hw); go_simp; with_reducible rfl⟩) (by assumption) ?_
  try simp only [Act.put, List.setIfInBounds_toArray, List.set_cons_zero, List.set_cons_succ]
  refine wpAnyU_take (i := 1) (oi := ⟨some 15, _, _, _, _, _⟩) [2, 3, 4, 8, 9, 10, 11] rfl (by kernel_rfl) (by kernel_rfl) (by kernel_rfl) (fun _ _ _ h => h) (by kernel_rfl) (by kernel_rfl) (by kernel_rfl) (Or.inl ⟨by rfl, fun w hw => by (try dsimp only at hw); go_simp; with_reducible rfl⟩) (by assumption) ?_
  try simp only [Act.put, List.setIfInBounds_toArray, List.set_cons_zero, List.set_cons_succ]
  refine wpAnyU_take (i := 2) (oi := ⟨some 16, _, _, _, _, _⟩) [3, 4, 8, 9, 10, 11] rfl (by kernel_rfl) (by kernel_rfl) (by kernel_rfl) (fun _ _ _ h => h) (by kernel_rfl) (by kernel_rfl) (by kernel_rfl) (Or.inl ⟨by rfl, fun w hw => by (try dsimp only at hw); go_simp; with_reducible rfl⟩) (by assumption) ?_
  try simp only [Act.put, List.setIfInBounds_toArray, List.set_cons_zero, List.set_cons_succ]
  refine wpAnyU_take (i := 3) (oi := ⟨some 17, _, _, _, _, _⟩) [4, 8, 9, 10, 11] rfl (by kernel_rfl) (by kernel_rfl) (by kernel_rfl) (fun _ _ _ h => h) (by kernel_rfl) (by kernel_rfl) (by kernel_rfl) (Or.inl ⟨by rfl, fun w hw => by (try dsimp only at hw); go_simp; with_reducible rfl⟩) (by assumption) ?_
  try simp only [Act.put, List.setIfInBounds_toArray, List.set_cons_zero, List.set_cons_succ]
  refine wpAnyU_take (i := 5) (oi := ⟨some 19, _, _, _, _, _⟩) [6, 7, 8, 9, 10, 11] rfl (by kernel_rfl) (by kernel_rfl) (by kernel_rfl) (fun _ _ _ h => h) (by kernel_rfl) (by kernel_rfl) (by kernel_rfl) (Or.inl ⟨by rfl, fun w hw => by (try dsimp only at hw); go_simp; with_reducible rfl⟩) (by assumption) ?_
  try simp only [Act.put, List.setIfInBounds_toArray, List.set_cons_zero, List.set_cons_succ]
  refine wpAnyU_take (i := 4) (oi := ⟨some 18, _, _, _, _, _⟩) [8, 9, 10, 11] rfl (by kernel_rfl) (by kernel_rfl) (by kernel_rfl) (fun _ _ _ h => h) (by kernel_rfl) (by kernel_rfl) (by kernel_rfl) (Or.inl ⟨by rfl, fun w hw => by (try dsimp only at hw); go_simp; with_reducible rfl⟩) (by assumption) ?_
  try simp only [Act.put, List.setIfInBounds_toArray, List.set_cons_zero, List.set_cons_succ]
  refine wpAnyU_one (i := 6) (by kernel_rfl) rfl (fun K hK => ?_)
  go_simp
  go_at_call 20
  refine (copyK_any Au n cu X w3 (HRW.out w3 HT2.out) hnx HV.out).mono ?_
  rintro e w4 ⟨u2, Ad2, Cp2, rfl, hou2, hb4⟩
  obtain ⟨A2, c2, e2, _⟩ := hou2.own.form
  have HO2 := Lib.hid hou2
  have HB4 := Lib.hid hb4
  subst e2
  have b4 : w4.cell? ⟨gb, 3, none⟩ = some (.slice A1 n1 c1) := (hb4.cell (p := ⟨gb, 3, none⟩) H2.out.blk.lt).trans b1
  refine hK.out _ _ (fun _ => b4) ?_
  clear hK hou2 hb4 b1
  refine wpAnyU_one (i := 7) (by kernel_rfl) rfl (fun K hK => ?_)
  go_simp
  refine hK.out _ _ (fun _ => (((Below.refl w4.heap.size w4).alloc (Nat.le_refl _) _).cell (p := ⟨gb, 3, none⟩) (Nat.lt_of_lt_of_le H2.out.blk.lt HB4.out.size)).trans b4) ?_
  clear hK
  have H4 := Lib.hid (H2.out.below HB4.out)
  refine wpAnyU_one (i := 8) (by kernel_rfl) rfl (fun K hK => ?_)
  refine wpOp_appendV (o := ⟨some 22, _, _, _, _, _⟩) und_chls info_chls ?hw w4 (.tmp 18) (.tmp 21) rfl w0.heap.size (v 3) _ (H4.out.row 3 (by omega)) (.slice A2 n c2) rfl ?hs ?hx hk1 ?hb ?hh
  case hw => kernel_rfl
  case hs => exact HE1.out.symm
  case hx => rfl
  case hb => exact Nat.le_trans HP.out.bel.size (Nat.le_trans HT2.out.size HB4.out.size)
  intro v1' w5 hr5 hg5 hl5
  obtain ⟨A1', c1', e1', _⟩ := rowV_form hr5
  have e1q : v1' = .slice A1' (n1 + 1) c1' := by rw [e1', List.length_append]; show Value.slice A1' ((xsK KL KW LL LW 3).length + 1) c1' = _; rw [HN1.out]
  have H5 := Lib.hid (H4.out.step (j := 3) (by omega) hg5 hr5 hl5)
  have hblk5 := H4.out.mid (j := 3) (by omega) hg5
  have b5 : w5.cell? ⟨gb, 3, none⟩ = some (.slice A1 n1 c1) := (hblk5.cell 3).trans (by show some (v 3) = _; rw [HE1.out])
  have f5 := hblk5.frozen 3
  subst e1q
  refine hK.out _ _ (fun _ => b5) ?_
  clear hK hblk5 e1' hr5 hg5 hl5 b4
  refine wpAnyU_take (i := 9) (oi := ⟨some 23, _, _, _, _, _⟩) [10, 11] rfl (by kernel_rfl) (by kernel_rfl) (by kernel_rfl) (fun _ _ _ h => h) (by kernel_rfl) (by kernel_rfl) (by kernel_rfl) (Or.inl ⟨by rfl, fun w hw => by (try dsimp only at hw); go_simp; with_reducible rfl⟩) (by assumption) ?_
  try simp only [Act.put, List.setIfInBounds_toArray, List.set_cons_zero, List.set_cons_succ]
  refine wpAnyU_take (i := 10) (oi := ⟨some 24, _, _, _, _, _⟩) [11] rfl (by kernel_rfl) (by kernel_rfl) (by kernel_rfl) (fun _ _ _ h => h) (by kernel_rfl) (by kernel_rfl) (by kernel_rfl) (Or.inl ⟨by rfl, fun w hw => by (try dsimp only at hw); go_simp; with_reducible rfl⟩) (by assumption) ?_
  try simp only [Act.put, List.setIfInBounds_toArray, List.set_cons_zero, List.set_cons_succ]
  refine wpAnyU_one (i := 11) (by kernel_rfl) rfl (fun K hK => ?_)
  go_simp
  refine hK.out _ _ (fun h => by cases h) ?_
  refine wpAnyU_done (by kernel_rfl) ?_ _
  refine bodyPost_end (results_none rfl _ _ _) rfl ?_
  refine ⟨rfl, ?_⟩
  have H2' : Heads w3 gb w0.heap.size (upd v 2 (.slice A0' (n0 + 1) c0')) (xsK KL KW (LL ++ [roO (.slice Au n cu) n cs]) LW) := by rw [← xsK_2]; exact H2.out
  have H5' : Heads (w5.setCell ⟨gb, 3, none⟩ (.slice A1' (n1 + 1) c1')) gb w0.heap.size (upd (upd v 2 (.slice A0' (n0 + 1) c0')) 3 (.slice A1' (n1 + 1) c1')) (xsK KL KW (LL ++ [roO (.slice Au n cu) n cs]) (LW ++ [.slice A2 n c2])) := by
    rw [← xsK_3, ← xsK_2]
    exact H5.out.1
  exact ⟨_, _, _, _, HP.out.addC HNX.out HDX.out H2' HT2.out HS1.out HB4.out HO2.out H5' H5.out.2.1 H5.out.2.2⟩
end Go.Proofs.Ytkpbeibcfaenhaa

/- ledgerlaw3.rows.keep. -/
namespace Go.Proofs.Ytkpbeibcfaenhaa
open Go.RowKit
/-- What a list of changes and its values are, in plain words. -/
structure GoodL (n : Nat) (X : Nat → Chg) (Ad : Nat → Option Addr) (Cp : Nat → Nat) : Prop where
  key : ∀ i, i < n → IsB (X i).key ∧ (X i).key.length = 32
  val : ∀ i, i < n → IsB (X i).val ∧ (X i).val.length ≤ 1073741824 ∧ (X i).val.length ≤ Cp i ∧ Cp i ≤ maxLen ∧ (Ad i = none → Cp i = 0)
  few : n ≤ 67108864
theorem chsOwn_objs {w : World} {base n : Nat} {u : Value} {X : Nat → Chg} {Ad : Nat → Option Addr} {Cp : Nat → Nat} (hg : GoodL n X Ad Cp) (hr : w.ownsRow base 45 34 u n (flat X Ad Cp n)) (hv : ∀ o, o ∈ vaOs X Ad Cp n → o.In w base) (ha : ∀ o, o ∈ vaOs X Ad Cp n → Apart u o.v) : ChsOwn w base u n X Ad Cp :=
  { own := hr
    key := hg.key
    val := fun i hi => ⟨(show OwnU w base (.slice (Ad i) (X i).val.length (Cp i)) (X i).val from ⟨hv _ (vaOs_mem.2 ⟨i, hi, rfl⟩), (hg.val i hi).1⟩).reads, (hg.val i hi).2.2⟩
    apart := fun i hi _ ad e he => ha _ (vaOs_mem.2 ⟨i, hi, rfl⟩) ad.block he.symm (by show (Value.slice (Ad i) _ _).ownBlock = _; rw [e]; rfl) }
theorem chsV_objs {w : World} {base n : Nat} {u : Value} {X : Nat → Chg} {Ad : Nat → Option Addr} {Cp : Nat → Nat} {l : List Ob} {R : Nat → Prop} (hg : GoodL n X Ad Cp) (ho : Obs w base l) (hr : roO u n (flat X Ad Cp n) ∈ l) (hv : ∀ o, o ∈ vaOs X Ad Cp n → o ∈ l) (ha : ∀ o, o ∈ vaOs X Ad Cp n → Apart u o.v)
    (hR : ∀ o, o ∈ l → ∀ B, o.v.ownBlock = some B → R B) : Dep R w fun w => ChsV w u n X := fun w' hs hk => by
  have h1 := chsOwn_objs (w := w') (base := base) hg ((Dep.row (ho.own _ hr) (hR _ hr)) w' hs hk) (fun o ho' => (Dep.row (ho.own o (hv o ho')) (hR o (hv o ho'))) w' hs hk) ha
  obtain ⟨A, C, e, hc, _⟩ := h1.form
  exact ⟨A, C, e, hc⟩
theorem Obs.ap {w : World} {base : Nat} {l : List Ob} {a b : Ob} {l1 l2 l3 : List Ob} (h : Obs w base l) (e : l.Perm (l1 ++ a :: (l2 ++ b :: l3))) : Apart a.v b.v := by
  have h1 := (h.perm e).dis
  have h2 := (List.pairwise_append.1 h1).2.1
  exact (List.pairwise_cons.1 h2).1 b (by simp)
theorem vaOs_drop {X : Nat → Chg} {Ad : Nat → Option Addr} {Cp : Nat → Nat} {n i : Nat} (hi : i < n) : (vaOs X Ad Cp n).drop i = byO (.slice (Ad i) (X i).val.length (Cp i)) (X i).val :: (vaOs X Ad Cp n).drop (i + 1) := by
  rw [List.drop_eq_getElem_cons (by rw [vaOs_length]; exact hi)]
  congr 1
  have := vaOs_at (X := X) (Ad := Ad) (Cp := Cp) hi
  rw [List.getElem?_eq_getElem (by rw [vaOs_length]; exact hi)] at this
  exact Option.some.inj this
theorem vaOs_apart {w0 w : World} {gb n i : Nat} {KL LL pd : List Ob} {E : World → Prop} {u : Value} {cs : List Value} {X : Nat → Chg} {Ad : Nat → Option Addr} {Cp : Nat → Nat} (h : Ph w0 w gb (KL ++ vaOs X Ad Cp n) LL (roO u i cs :: pd) E) : ∀ o, o ∈ vaOs X Ad Cp n → Apart u o.v := fun o ho => by
  have h1 := h.objs.dis
  have h2 := (List.pairwise_append.1 h1).2.2 o (by simp [ho]) (roO u i cs) List.mem_cons_self
  exact h2.symm'
theorem chC_val {x : Chg} {A : Option Addr} {C : Nat} (hl : x.key.length = 32) : (chC x A C)[33]? = some (.slice A x.val.length C) := by
  unfold chC
  rw [List.getElem?_append_right (by simp [bvs, hl])]
  simp [bvs, hl]
set_option maxRecDepth 100000 in
set_option maxHeartbeats 1600000 in
theorem keepC_any (w0 w : World) (gb : Nat) (KL LL pd : List Ob) (E : World → Prop) (u : Value) (n : Nat) (X : Nat → Chg) (Ad : Nat → Option Addr) (Cp : Nat → Nat) (h : Ph w0 w gb KL LL (roO u n (flat X Ad Cp n) :: (vaOs X Ad Cp n ++ pd)) E) (hg : GoodL n X Ad Cp) (hk : KL.length + n ≤ 1073741824) (hl : LL.length ≤ 1073741824) :
    Calls Try.prog 37 #[.pointer (some ⟨gb, 0, none⟩), u] w (KeepB w0 gb (KL ++ vaOs X Ad Cp n) (LL ++ [roO u n (flat X Ad Cp n)]) pd E) := by
  have HG := Lib.hid hg
  have HP := Lib.hid h
  obtain ⟨A, c, eu, hnc, hcm, _⟩ := rowV_form (h.own (o := roO u n (flat X Ad Cp n)) List.mem_cons_self)
  have hn := hg.few
  have HK := Lib.hid hk
  have HL := Lib.hid hl
  clear h hg hk hl
  change u = .slice A n c at eu
  subst eu
  go_enter Try.func37, Try.ntmps37
  go_wp2_with fail
  go_loopw [4] (fun i wr => ∃ k : Nat, k ≤ n ∧ i = .int .i64 k ∧ Hid (Ph w0 wr gb (KL ++ vaOs X Ad Cp k) LL (roO (.slice A n c) n (flat X Ad Cp n) :: ((vaOs X Ad Cp n).drop k ++ pd)) E)) (fun i _ => n - (intOf i).toNat)
  case atStart => exact ⟨0, by omega, rfl, by rw [vaOs_zero, List.append_nil, List.drop_zero]; exact HP.out⟩
  case round =>
    clear HP
    obtain ⟨k, hk, rfl, HP⟩ := hrel
    obtain ⟨w1, rfl⟩ : ∃ w1, w1 = wr := ⟨_, rfl⟩
    by_cases hlt : k < n
    · have hlt' : (k : Int) < n := by omega
      have hrow := HP.out.own (o := roO (.slice A n c) n (flat X Ad Cp n)) List.mem_cons_self
      obtain ⟨g, rfl⟩ : ∃ g, A = some ⟨g, 0, none⟩ := by
        rcases hrow.2 with ⟨_, h0⟩ | ⟨g, _, _, e1, _⟩
        · have : n = 0 := h0
          omega
        · exact ⟨g, by injection e1⟩
      have hcell : w1.cell? ⟨g, k * 34 + 33, none⟩ = some (.slice (Ad k) (X k).val.length (Cp k)) := by
        have h1 := World.ownsRow.cellAt (h := hrow) (k * 34 + 33) (by show _ < n * 34; omega)
        rw [h1]
        show (flat X Ad Cp n)[k * 34 + 33]? = _
        rw [flat_at (fun i hi => (HG.out.key i hi).2) hlt (by omega)]
        exact chC_val (HG.out.key k hlt).2
      have HP2 : Hid (Ph w0 w1.drew gb (KL ++ vaOs X Ad Cp k) LL (byO (.slice (Ad k) (X k).val.length (Cp k)) (X k).val :: (roO (.slice (some ⟨g, 0, none⟩) n c) n (flat X Ad Cp n) :: ((vaOs X Ad Cp n).drop (k + 1) ++ pd))) E) := by
        have h1 := HP.out
        rw [vaOs_drop hlt] at h1
        exact (h1.below (drewN_below (Below.refl _ _) 1)).perm (List.Perm.swap _ _ _)
      have HKB := Lib.hid (keepB_any w0 w1.drew gb (KL ++ vaOs X Ad Cp k) LL _ E _ _ HP2.out (HG.out.val k hlt).1 (HG.out.val k hlt).2.1 (by rw [List.length_append, vaOs_length]; have := HK.out; omega))
      have hcell2 : w1.drew.cell? ⟨g, k * 34 + 33, none⟩ = some (.slice (Ad k) (X k).val.length (Cp k)) := hcell
      clear hrow hcell HP
      go_wp2_with fail
      refine wp_region_upTo (S := fun w' => w'.cell? ⟨g, k * 34 + 33, none⟩ = some (.slice (Ad k) (X k).val.length (Cp k))) 8 (by kernel_rfl) hcell2 fun hH => ?_
      refine wpAnyU_take (i := 0) (oi := ⟨some 11, _, _, _, _, _⟩) [1, 2, 8] rfl (by kernel_rfl) (by kernel_rfl) (by kernel_rfl) (fun _ _ _ h => h) (by kernel_rfl) (by kernel_rfl) (by kernel_rfl) (Or.inl ⟨by rfl, fun w hw => by (try dsimp only at hw); go_simp; with_reducible rfl⟩) (by assumption) ?_
      try simp only [Act.put, List.setIfInBounds_toArray, List.set_cons_zero, List.set_cons_succ]
      refine wpAnyU_take (i := 1) (oi := ⟨some 12, _, _, _, _, _⟩) [2, 8] rfl (by kernel_rfl) (by kernel_rfl) (by kernel_rfl) (fun _ _ _ h => h) (by kernel_rfl) (by kernel_rfl) (by kernel_rfl) (Or.inl ⟨by rfl, fun w hw => by (try dsimp only at hw); go_simp; with_reducible rfl⟩) (by assumption) ?_
      try simp only [Act.put, List.setIfInBounds_toArray, List.set_cons_zero, List.set_cons_succ]
      refine wpAnyU_take (i := 2) (oi := ⟨some 13, _, _, _, _, _⟩) [8] rfl (by kernel_rfl) (by kernel_rfl) (by kernel_rfl) (fun _ _ _ h => h) (by kernel_rfl) (by kernel_rfl) (by kernel_rfl) (Or.inl ⟨by rfl, fun w hw => by (try dsimp only at hw); go_simp; with_reducible rfl⟩) (by assumption) ?_
      try simp only [Act.put, List.setIfInBounds_toArray, List.set_cons_zero, List.set_cons_succ]
      refine wpAnyU_take (i := 3) (oi := ⟨some 14, _, _, _, _, _⟩) [5, 6, 7, 8] rfl (by kernel_rfl) (by kernel_rfl) (by kernel_rfl) (fun _ _ _ h => h) (by kernel_rfl) (by kernel_rfl) (by kernel_rfl) (Or.inl ⟨by rfl, fun w hw => by (try dsimp only at hw); go_simp; with_reducible rfl⟩) (by assumption) ?_
      try simp only [Act.put, List.setIfInBounds_toArray, List.set_cons_zero, List.set_cons_succ]
      refine wpAnyU_take (i := 4) (oi := ⟨some 15, _, _, _, _, _⟩) [5, 6, 7, 8] rfl (by kernel_rfl) (by kernel_rfl) (by kernel_rfl) (fun _ _ _ h => h) (by kernel_rfl) (by kernel_rfl) (by kernel_rfl) (Or.inl ⟨by rfl, fun w hw => by (try dsimp only at hw); go_simp; with_reducible rfl⟩) (by assumption) ?_
      try simp only [Act.put, List.setIfInBounds_toArray, List.set_cons_zero, List.set_cons_succ]
      refine wpAnyU_take (i := 5) (oi := ⟨some 16, _, _, _, _, _⟩) [6, 7, 8] rfl (by kernel_rfl) (by kernel_rfl) (by kernel_rfl) (fun _ _ _ h => h) (by kernel_rfl) (by kernel_rfl) (by kernel_rfl) (Or.inl ⟨by rfl, fun w hw => by (try dsimp only at hw); go_simp; with_reducible rfl⟩) (by assumption) ?_
      try simp only [Act.put, List.setIfInBounds_toArray, List.set_cons_zero, List.set_cons_succ]
      refine wpAnyU_take (i := 6) (oi := ⟨some 17, _, _, _, _, _⟩) [7, 8] rfl (by kernel_rfl) (by kernel_rfl) (by kernel_rfl) (fun _ _ _ h => h) (by kernel_rfl) (by kernel_rfl) (by kernel_rfl) (Or.inl ⟨by rfl, fun w hw => by (try dsimp only at hw); go_simp; with_reducible rfl⟩) (by assumption) ?_
      try simp only [Act.put, List.setIfInBounds_toArray, List.set_cons_zero, List.set_cons_succ]
      refine wpAnyU_take (i := 7) (oi := ⟨some 18, _, _, _, _, _⟩) [8] rfl (by kernel_rfl) (by kernel_rfl) (by kernel_rfl) (fun _ _ _ h => h) (by kernel_rfl) (by kernel_rfl) (by kernel_rfl) (Or.inl ⟨by rfl, fun w hw => by (try dsimp only at hw); go_simp; with_reducible rfl⟩) (by assumption) ?_
      try simp only [Act.put, List.setIfInBounds_toArray, List.set_cons_zero, List.set_cons_succ]
      refine wpAnyU_one (i := 8) (by kernel_rfl) rfl (fun K hK => ?_)
      go_simp
      go_at_call 35
      refine HKB.out.mono ?_
      rintro e w2 ⟨rfl, hp2⟩
      have HP3 : Hid (Ph w0 w2 gb (KL ++ vaOs X Ad Cp (k + 1)) LL (roO (.slice (some ⟨g, 0, none⟩) n c) n (flat X Ad Cp n) :: ((vaOs X Ad Cp n).drop (k + 1) ++ pd)) E) := by
        rw [vaOs_succ, ← List.append_assoc]
        exact hp2
      refine hK.out _ _ (fun h => by cases h) ?_
      refine wpAnyU_done (by kernel_rfl) ?_ _
      clear hK hp2 HP2 HKB hcell2
      go_wp2_with fail
      go_roundw
      case rel => exact ⟨k + 1, by omega, by go_num, HP3.out⟩
      case measure => simp [intOf]; omega
    · have hnlt : ¬ (k : Int) < n := by omega
      obtain rfl : k = n := by omega
      have HP2 : Hid (Ph w0 w1 gb (KL ++ vaOs X Ad Cp k) LL (roO (.slice A k c) k (flat X Ad Cp k) :: pd) E) := by
        have h1 := HP.out
        rw [List.drop_of_length_le (by rw [vaOs_length]; exact Nat.le_refl _), List.nil_append] at h1
        exact h1
      have HLC := Lib.hid (listC_any w0 w1 gb (KL ++ vaOs X Ad Cp k) LL pd E (.slice A k c) k (flat X Ad Cp k) X HP2.out (fun R _ hR => chsV_objs HG.out HP2.out.objs (by simp) (fun o ho => by simp [ho]) (vaOs_apart HP2.out) hR) hn (fun j hj => by have := (HG.out.val j hj).2.1; omega) HL.out)
      clear HP HP2 HG
      go_wp2_with fail
      refine HLC.out.mono ?_
      rintro e w2 ⟨rfl, hp2⟩
      have HP3 := Lib.hid hp2
      clear hp2 HLC
      go_wp2_with fail
      refine bodyPost_end (results_none rfl _ _ _) rfl ?_
      exact ⟨rfl, HP3.out⟩
end Go.Proofs.Ytkpbeibcfaenhaa

/- ledgerlaw3.keeper.untouched. -/
namespace Go.Proofs.Ytkpbeibcfaenhaa
open Go.RowKit
theorem slice_inj {A B : Option Addr} {n m c d : Nat} (h : Value.slice A n c = .slice B m d) : A = B ∧ n = m ∧ c = d := by
  injection h with h1 h2 h3
  exact ⟨h1, h2, h3⟩
section
variable {w0 w : World} {gb : Nat} {v : Nat → Value} {KW LW : List Value} {R : Nat → Prop} {KL LL pd : List Ob} {E : World → Prop}
theorem PhI.headB (h : PhI w0 w gb v KW LW R KL LL pd E) : ∃ A c B d, w.cell? ⟨gb, 0, none⟩ = some (.slice A KL.length c) ∧ w.cell? ⟨gb, 1, none⟩ = some (.slice B KL.length d) ∧ v 0 = .slice A KL.length c ∧ v 1 = .slice B KL.length d := by
  obtain ⟨A, c, e0, _⟩ := rowV_form (h.heads.row 0 (by omega))
  obtain ⟨B, d, e1, _⟩ := rowV_form (h.heads.row 1 (by omega))
  have n0 : (xsK KL KW LL LW 0).length = KL.length := by simp [xsK]
  have n1 : (xsK KL KW LL LW 1).length = KL.length := by simp [xsK, h.lenB]
  rw [n0] at e0
  rw [n1] at e1
  exact ⟨A, c, B, d, by rw [← e0]; exact h.heads.at_.1.1, by rw [← e1]; exact h.heads.at_.1.2.1, e0, e1⟩
theorem PhI.readB (h : PhI w0 w gb v KW LW R KL LL pd E) {A B : Option Addr} {c d i : Nat} (e0 : v 0 = .slice A KL.length c) (e1 : v 1 = .slice B KL.length d) (hi : i < KL.length) :
    ∃ g0 g1 Ai ci Bi di xs, A = some ⟨g0, 0, none⟩ ∧ B = some ⟨g1, 0, none⟩ ∧ w.cell? ⟨g0, i, none⟩ = some (.slice Ai xs.length ci) ∧ w.cell? ⟨g1, i, none⟩ = some (.slice Bi xs.length di) ∧ RB w Ai xs.length xs ∧ RB w Bi xs.length xs ∧ xs.length ≤ 1073741824 := by
  have n0 : (xsK KL KW LL LW 0).length = KL.length := by simp [xsK]
  have n1 : (xsK KL KW LL LW 1).length = KL.length := by simp [xsK, h.lenB]
  obtain ⟨g0, c0, q0, _, r0⟩ := rowV_at (h.heads.row 0 (by omega)) (i := i) (by omega)
  obtain ⟨g1, c1, q1, _, r1⟩ := rowV_at (h.heads.row 1 (by omega)) (i := i) (by omega)
  rw [e0] at q0
  rw [e1] at q1
  have ho : KL[i]? = some KL[i] := List.getElem?_eq_getElem hi
  have hu : KW[i]? = some (KW[i]'(by rw [h.lenB]; exact hi)) := List.getElem?_eq_getElem (by rw [h.lenB]; exact hi)
  obtain ⟨xs, _, _, hn, hd⟩ := h.eqB i _ _ ho hu
  obtain ⟨⟨Ai, ci, ea, ha⟩, ⟨Bi, di, eb, hb⟩⟩ := hd.now
  refine ⟨g0, g1, Ai, ci, Bi, di, xs, (slice_inj q0).1, (slice_inj q1).1, ?_, ?_, ha, hb, hn⟩
  · rw [r0]
    show (KL.map Ob.v)[i]? = _
    rw [List.getElem?_map, ho, Option.map_some, ea]
  · rw [r1]
    show KW[i]? = _
    rw [hu, eb]
end
set_option maxRecDepth 100000 in
set_option maxHeartbeats 1600000 in
theorem untouchedB_any (w0 w : World) (gb : Nat) (KL LL pd : List Ob) (E : World → Prop) (h : Ph w0 w gb KL LL pd E) (hk : KL.length ≤ 1073741824) :
    Calls Try.prog 54 #[.pointer (some ⟨gb, 0, none⟩)] w fun e w' => e = .returned (.bool true) ∧ ∃ q, w' = w.drewN q := by
  obtain ⟨v, KW, LW, R, hp⟩ := h
  have HP := Lib.hid hp
  obtain ⟨A, c, B, d, b0, b1, e0, e1⟩ := hp.headB
  have HR : Hid (∀ i, i < KL.length → ∃ g0 g1 Ai ci Bi di xs, A = some ⟨g0, 0, none⟩ ∧ B = some ⟨g1, 0, none⟩ ∧ w.cell? ⟨g0, i, none⟩ = some (.slice Ai xs.length ci) ∧ w.cell? ⟨g1, i, none⟩ = some (.slice Bi xs.length di) ∧ RB w Ai xs.length xs ∧ RB w Bi xs.length xs ∧ xs.length ≤ 1073741824) := fun i hi => hp.readB e0 e1 hi
  clear hp e0 e1 HP
  obtain ⟨n, hn⟩ : ∃ n, KL.length = n := ⟨_, rfl⟩
  rw [hn] at b0 b1 HR hk
  clear hn
  go_enter Try.func54, Try.ntmps54
  go_wp2_with fail
  go_loopw [3] (fun i wr => ∃ k q : Nat, k ≤ n ∧ i = .int .i64 k ∧ wr = w.drewN q) (fun i _ => n - (intOf i).toNat)
  case atStart => exact ⟨0, 0, by omega, rfl, rfl⟩
  case round =>
    obtain ⟨k, q, hk', rfl, rfl⟩ := hrel
    by_cases hlt : k < n
    · have hlt' : (k : Int) < n := by omega
      obtain ⟨g0, g1, Ai, ci, Bi, di, xs, rfl, rfl, r0, r1, ha, hb, hxn⟩ := HR.out k hlt
      have HA : Hid (∀ j, RB (w.drewN j) Ai xs.length xs ∧ RB (w.drewN j) Bi xs.length xs) := fun j => ⟨ha, hb⟩
      have hxn2 : xs.length ≤ 9223372036854775807 := by omega
      have KS : Hid (∀ j, (w.drewN j).cell? ⟨gb, 0, none⟩ = some (.slice (some ⟨g0, 0, none⟩) n c) ∧ (w.drewN j).cell? ⟨gb, 1, none⟩ = some (.slice (some ⟨g1, 0, none⟩) n d) ∧ (w.drewN j).cell? ⟨g0, k, none⟩ = some (.slice Ai xs.length ci) ∧ (w.drewN j).cell? ⟨g1, k, none⟩ = some (.slice Bi xs.length di)) := fun j => ⟨b0, b1, r0, r1⟩
      clear ha hb hxn r0 r1
      have c0 := (KS.out q).1
      go_wp2_with fail
      rename_i KK hKK
      have HKK := Lib.hid hKK
      clear hKK c0
      refine wp_region_held_drew (S := fun w' => w'.cell? ⟨gb, 0, none⟩ = some (.slice (some ⟨g0, 0, none⟩) n c) ∧ w'.cell? ⟨gb, 1, none⟩ = some (.slice (some ⟨g1, 0, none⟩) n d) ∧ w'.cell? ⟨g0, k, none⟩ = some (.slice Ai xs.length ci) ∧ w'.cell? ⟨g1, k, none⟩ = some (.slice Bi xs.length di)) (by kernel_rfl) (KS.out (q + 1)) fun hH => ?_
      refine wpAnyH_take (i := 0) (oi := ⟨some 13, _, _, _, _, _⟩) rfl (by kernel_rfl) (by kernel_rfl) (by kernel_rfl) (fun _ _ _ h => h) (Or.inl ⟨by rfl, fun w hw => by ((try dsimp only at hw); go_split_ands; go_simp; with_reducible rfl)⟩) (by assumption) ?_
      try simp only [Act.put, List.setIfInBounds_toArray, List.set_cons_zero, List.set_cons_succ]
      refine wpAnyH_take (i := 1) (oi := ⟨some 14, _, _, _, _, _⟩) rfl (by kernel_rfl) (by kernel_rfl) (by kernel_rfl) (fun _ _ _ h => h) (Or.inl ⟨by rfl, fun w hw => by ((try dsimp only at hw); go_split_ands; go_simp; with_reducible rfl)⟩) (by assumption) ?_
      try simp only [Act.put, List.setIfInBounds_toArray, List.set_cons_zero, List.set_cons_succ]
      refine wpAnyH_take (i := 2) (oi := ⟨some 15, _, _, _, _, _⟩) rfl (by kernel_rfl) (by kernel_rfl) (by kernel_rfl) (fun _ _ _ h => h) (Or.inl ⟨by rfl, fun w hw => by ((try dsimp only at hw); go_split_ands; go_simp; with_reducible rfl)⟩) (by assumption) ?_
      try simp only [Act.put, List.setIfInBounds_toArray, List.set_cons_zero, List.set_cons_succ]
      refine wpAnyH_take (i := 3) (oi := ⟨some 16, _, _, _, _, _⟩) rfl (by kernel_rfl) (by kernel_rfl) (by kernel_rfl) (fun _ _ _ h => h) (Or.inl ⟨by rfl, fun w hw => by ((try dsimp only at hw); go_split_ands; go_simp; with_reducible rfl)⟩) (by assumption) ?_
      try simp only [Act.put, List.setIfInBounds_toArray, List.set_cons_zero, List.set_cons_succ]
      refine wpAnyH_take (i := 4) (oi := ⟨some 17, _, _, _, _, _⟩) rfl (by kernel_rfl) (by kernel_rfl) (by kernel_rfl) (fun _ _ _ h => h) (Or.inl ⟨by rfl, fun w hw => by ((try dsimp only at hw); go_split_ands; go_simp; with_reducible rfl)⟩) (by assumption) ?_
      try simp only [Act.put, List.setIfInBounds_toArray, List.set_cons_zero, List.set_cons_succ]
      refine wpAnyH_take (i := 5) (oi := ⟨some 18, _, _, _, _, _⟩) rfl (by kernel_rfl) (by kernel_rfl) (by kernel_rfl) (fun _ _ _ h => h) (Or.inl ⟨by rfl, fun w hw => by ((try dsimp only at hw); go_split_ands; go_simp; with_reducible rfl)⟩) (by assumption) ?_
      try simp only [Act.put, List.setIfInBounds_toArray, List.set_cons_zero, List.set_cons_succ]
      refine wpAnyH_take (i := 6) (oi := ⟨some 19, _, _, _, _, _⟩) rfl (by kernel_rfl) (by kernel_rfl) (by kernel_rfl) (fun _ _ _ h => h) (Or.inl ⟨by rfl, fun w hw => by ((try dsimp only at hw); go_split_ands; go_simp; with_reducible rfl)⟩) (by assumption) ?_
      try simp only [Act.put, List.setIfInBounds_toArray, List.set_cons_zero, List.set_cons_succ]
      refine wpAnyH_take (i := 7) (oi := ⟨some 20, _, _, _, _, _⟩) rfl (by kernel_rfl) (by kernel_rfl) (by kernel_rfl) (fun _ _ _ h => h) (Or.inl ⟨by rfl, fun w hw => by ((try dsimp only at hw); go_split_ands; go_simp; with_reducible rfl)⟩) (by assumption) ?_
      try simp only [Act.put, List.setIfInBounds_toArray, List.set_cons_zero, List.set_cons_succ]
      refine wpAnyH_take (i := 8) (oi := ⟨some 21, _, _, _, _, _⟩) rfl (by kernel_rfl) (by kernel_rfl) (by kernel_rfl) (fun _ _ _ h => h) (Or.inl ⟨by rfl, fun w hw => by ((try dsimp only at hw); go_split_ands; go_simp; with_reducible rfl)⟩) (by assumption) ?_
      try simp only [Act.put, List.setIfInBounds_toArray, List.set_cons_zero, List.set_cons_succ]
      refine wpAnyH_take (i := 9) (oi := ⟨some 22, _, _, _, _, _⟩) rfl (by kernel_rfl) (by kernel_rfl) (by kernel_rfl) (fun _ _ _ h => h) (Or.inl ⟨by rfl, fun w hw => by ((try dsimp only at hw); go_split_ands; go_simp; with_reducible rfl)⟩) (by assumption) ?_
      try simp only [Act.put, List.setIfInBounds_toArray, List.set_cons_zero, List.set_cons_succ]
      refine wpAnyH_take (i := 10) (oi := ⟨some 23, _, _, _, _, _⟩) rfl (by kernel_rfl) (by kernel_rfl) (by kernel_rfl) (fun _ _ _ h => h) (Or.inl ⟨by rfl, fun w hw => by ((try dsimp only at hw); go_split_ands; go_simp; with_reducible rfl)⟩) (by assumption) ?_
      try simp only [Act.put, List.setIfInBounds_toArray, List.set_cons_zero, List.set_cons_succ]
      refine wpAnyH_take (i := 11) (oi := ⟨some 24, _, _, _, _, _⟩) rfl (by kernel_rfl) (by kernel_rfl) (by kernel_rfl) (fun _ _ _ h => h) (Or.inl ⟨by rfl, fun w hw => by ((try dsimp only at hw); go_split_ands; go_simp; with_reducible rfl)⟩) (by assumption) ?_
      try simp only [Act.put, List.setIfInBounds_toArray, List.set_cons_zero, List.set_cons_succ]
      refine wpAnyH_take (i := 12) (oi := ⟨some 25, _, _, _, _, _⟩) rfl (by kernel_rfl) (by kernel_rfl) (by kernel_rfl) (fun _ _ _ h => h) (Or.inl ⟨by rfl, fun w hw => by ((try dsimp only at hw); go_split_ands; go_simp; with_reducible rfl)⟩) (by assumption) ?_
      try simp only [Act.put, List.setIfInBounds_toArray, List.set_cons_zero, List.set_cons_succ]
      refine wpAnyH_take (i := 13) (oi := ⟨some 26, _, _, _, _, _⟩) rfl (by kernel_rfl) (by kernel_rfl) (by kernel_rfl) (fun _ _ _ h => h) (Or.inl ⟨by rfl, fun w hw => by ((try dsimp only at hw); go_split_ands; go_simp; with_reducible rfl)⟩) (by assumption) ?_
      try simp only [Act.put, List.setIfInBounds_toArray, List.set_cons_zero, List.set_cons_succ]
      refine wpAnyH_ready (rs := [14]) (by kernel_rfl) (by simp) ?_
      refine AllReadyH.cons rfl (fun K hK => ?_) (AllReadyH.nil)
      go_simp
      refine (sameBytes_true (n := xs.length) (m := xs.length) (HA.out (q + 1)).1 (HA.out (q + 1)).2 hxn2 rfl).mono ?_
      rintro e w2 ⟨rfl, p, hp⟩
      obtain ⟨p', hp'⟩ : ∃ p', w2 = w.drewN p' := ⟨q + 1 + p, by rw [hp, World.drewN_drewN]⟩
      have HP := Lib.hid hp'
      clear hp hp'
      refine hK.out _ _ (by rw [HP.out]; exact KS.out p') (fun hH2 => ?_)
      clear hK hH
      refine wpAnyH_take (i := 15) (oi := ⟨some 28, _, _, _, _, _⟩) rfl (by kernel_rfl) (by kernel_rfl) (by kernel_rfl) (fun _ _ _ h => h) (Or.inl ⟨by rfl, fun w hw => by ((try dsimp only at hw); go_split_ands; go_simp; with_reducible rfl)⟩) (by assumption) ?_
      try simp only [Act.put, List.setIfInBounds_toArray, List.set_cons_zero, List.set_cons_succ]
      refine wpAnyH_done (by kernel_rfl) ?_ _
      change KK _ _
      refine HKK.out _ _ ?_
      clear HKK KK hH2
      go_wp2_with fail
      go_roundw
      case rel => exact ⟨k + 1, p', by omega, by go_num, HP.out⟩
      case measure => simp [intOf]; omega
    · have hnlt : ¬ (k : Int) < n := by omega
      have c0 : (w.drewN q).cell? ⟨gb, 0, none⟩ = some (.slice A n c) := b0
      go_wp2_with fail
      go_ret
      exact ⟨rfl, q, rfl⟩
end Go.Proofs.Ytkpbeibcfaenhaa
