/- client: texts, what watches the climb. -/
import Derived.Test.YtfnlhfaihoojfaaDoorMi
namespace Go.Proofs.YtfnlhfaihoojfaaDoor
open Go.RowKit
/-- A list of lists of bytes that the call itself made. -/
structure Rws (w : World) (base : Nat) (v : Value) (ys : List Value) (zf : Nat → List Nat) : Prop where
  row : w.ownsRow base 22 1 v ys.length ys
  own : ∀ (i : Nat) (y : Value), ys[i]? = some y → OwnU w base y (zf i)
  apart : ∀ (i : Nat) (y : Value), ys[i]? = some y → Apart v y
/-- Its blocks. -/
def RwsU (v : Value) (ys : List Value) (B : Nat) : Prop := v.ownBlock = some B ∨ ∃ (i : Nat) (y : Value), ys[i]? = some y ∧ y.ownBlock = some B
section
variable {w w' : World} {base : Nat} {v v' : Value} {ys : List Value} {zf : Nat → List Nat} {V : Nat → Prop}
theorem Rws.touch (h : Rws w base v ys zf) (ht : Touch V w w') (hn : ∀ B, V B → ¬ RwsU v ys B) : Rws w' base v ys zf :=
  ⟨ht.row h.row fun B hB hv => hn B hv (.inl hB), fun i y hy => ht.own (h.own i y hy) fun B hB hv => hn B hv (.inr ⟨i, y, hy, hB⟩), h.apart⟩
theorem Rws.below (h : Rws w base v ys zf) (hb : Below w.heap.size w w') : Rws w' base v ys zf := h.touch (Touch.ofBelow hb) fun _ h => h.elim
theorem Rws.lt (h : Rws w base v ys zf) : ∀ B, RwsU v ys B → base ≤ B ∧ B < w.heap.size := fun B hB => by
  rcases hB with hB | ⟨i, y, hy, hB⟩
  · exact row_lt h.row hB
  · exact (h.own i y hy).lt B hB
theorem Rws.push {y : Value} (h : Rws w base v ys zf) (hy : OwnU w base y (zf ys.length)) (hn : Apart v y) (hr : w'.ownsRow base 22 1 v' (ys ++ [y]).length (ys ++ [y])) (hg : w.grownBy w' v.ownBlock) (hl : Lies w v v') : Rws w' base v' (ys ++ [y]) zf := by
  have new : ∀ (i : Nat) (z : Value), (ys ++ [y])[i]? = some z → ys[i]? = some z ∨ i = ys.length ∧ z = y := fun i z hz => by
    rcases Nat.lt_or_ge i ys.length with h1 | h1
    · rw [List.getElem?_append_left h1] at hz
      exact .inl hz
    · rw [List.getElem?_append_right h1] at hz
      rcases hi : i - ys.length with _ | m
      · rw [hi] at hz
        exact .inr ⟨by omega, by simpa using hz.symm⟩
      · rw [hi] at hz
        simp at hz
  refine ⟨hr, fun i z hz => ?_, fun i z hz => ?_⟩
  · rcases new i z hz with hz | ⟨rfl, rfl⟩
    · exact (Touch.grown hg).own (h.own i z hz) fun B hB e => h.apart i z hz B e.symm hB
    · exact (Touch.grown hg).own hy fun B hB e => hn B e.symm hB
  · rcases new i z hz with hz | ⟨rfl, rfl⟩
    · exact apart_step (h.apart i z hz) hl fun B hB => ((h.own i z hz).lt B hB).2
    · exact apart_step hn hl fun B hB => (hy.lt B hB).2
theorem RwsU.push {y : Value} (hl : Lies w v v') : ∀ B, RwsU v' (ys ++ [y]) B → RwsU v ys B ∨ y.ownBlock = some B ∨ w.heap.size ≤ B := fun B hB => by
  rcases hB with hB | ⟨i, z, hz, hB⟩
  · rcases hl B hB with h1 | h1
    · exact .inl (.inl h1)
    · exact .inr (.inr h1)
  · rcases Nat.lt_or_ge i ys.length with h1 | h1
    · rw [List.getElem?_append_left h1] at hz
      exact .inl (.inr ⟨i, z, hz, hB⟩)
    · rw [List.getElem?_append_right h1] at hz
      rcases hi : i - ys.length with _ | m
      · rw [hi] at hz
        have : z = y := by simpa using hz.symm
        exact .inr (.inl (this ▸ hB))
      · rw [hi] at hz
        simp at hz
end
/-- What is owned lies in no block of another type. -/
theorem row_blk {w : World} {base size n B : Nat} {e t : TypeId} {v : Value} {xs : List Value} {cs : Array Value} (h : w.ownsRow base e size v n xs) (hb : BlkIs w B t cs) (hne : e ≠ t) : v.ownBlock ≠ some B := fun hv => by
  rcases h.2 with ⟨rfl, _⟩ | ⟨g, cap, cur, rfl, _, h2, _⟩
  · cases hv
  · have hg : g = B := by injection hv
    subst hg
    have h3 : w.heap[g]? = some (.cells cs t (0, 0)) := hb
    rw [h3] at h2
    injection h2 with h2
    injection h2 with _ h2
    exact hne h2.symm
theorem Rws.not {w : World} {base B : Nat} {v : Value} {ys : List Value} {zf : Nat → List Nat} {t : TypeId} {cs : Array Value} (h : Rws w base v ys zf) (hb : BlkIs w B t cs) (h1 : 22 ≠ t) (h2 : 5 ≠ t) : ¬ RwsU v ys B := fun hu => by
  rcases hu with hu | ⟨i, y, hy, hu⟩
  · exact row_blk h.row hb h1 hu
  · exact row_blk (h.own i y hy).1 hb h2 hu
section
variable {P : Program}
/-- 'append(l, y)' of a list of lists, as one step of a region that draws its order. -/
theorem wpOp_appendVal {t e : TypeId} (ht : P.underlying t = some (.slice e)) (hinfo : (P.info? e).map (fun i => (i.zero, i.size, i.bytes)) = some (some (.slice none 0 0), 1, 24))
    {ops : Array Oper} {Q : Exit → Act → World → Prop} {K : Act → World → Prop} {o : Oper} {a : Act} (hw : Region.wanted o (yielded ops a.tmps) = true) (w : World) (s x : Operand) (ho : o.op = .call { callee := .builtin .append, args := #[s, x], argTypes := #[t, t] })
    (base : Nat) (v : Value) (xs : List Value) (hown : w.ownsRow base e 1 v xs.length xs) (y : Value) (hy : y.oneCell' = true) (hs : a.eval s = v) (k : Nat) (hk : k = w.heap.size) (hx : a.eval x = .slice (some ⟨k, 0, none⟩) 1 1)
    (hlen : xs.length + 1 ≤ 1073741825) (hbase : base ≤ w.heap.size)
    (h : ∀ v' w', w'.ownsRow base e 1 v' (xs ++ [y]).length (xs ++ [y]) → w.grownBy w' v.ownBlock → Lies w v v' → K (a.put o.dst v') w') :
    if Region.wanted o (yielded ops a.tmps) = true then o.wp P a (w.alloc (.cells #[y] e)) K Q else K (a.put o.dst undef) (w.alloc (.cells #[y] e)) := by
  subst hk
  obtain ⟨i, hi, hz0, hz1, hz2⟩ := info_parts hinfo
  have hnews : ∀ (q : Nat) (u : Value), [y][q]? = some u → (w.alloc (.cells #[y] e)).cell? ((⟨w.heap.size, 0, none⟩ : Addr).add q) = some u := fun q u hq => by
    rw [add_lit, Nat.zero_add, BlkIs.cell (BlkIs.new w e #[y])]
    simpa using hq
  obtain ⟨v', w', hrun, q1, q2, _, q4⟩ := run_append_own_at (P := P) (w.alloc (.cells #[y] e)) base t o.type e i (.slice none 0 0) 1 24 ht hi hz0 hz1 hz2 rfl (by decide) v xs.length xs (hown.alloc _) ⟨w.heap.size, 0, none⟩ 1 1 [y] (by simp) hnews (by simpa using hy) (by unfold maxLen; omega) (by omega) (by simp; omega)
  rw [if_pos hw]
  unfold Oper.wp execOp
  simp only [ho, resolve, invoke, builtin, Sem.run_bind, Sem.run_pure, Result.andThen_ok, List.map_toArray, List.map_cons, List.map_nil, hs, hx, hrun]
  refine h v' w' (by rw [List.length_append]; exact q1) (grown_trans (World.grownBy_alloc _ _ _) q2) ?_
  intro k hk
  rcases q4 with h4 | h4
  · rw [h4] at hk
    exact .inl hk
  · rw [h4] at hk
    injection hk with hk
    simp at hk
    exact .inr (by omega)
end
/-- What a climb's watcher has gathered: the texts up to a height. -/
def TxJ (base B1 B4 g : Nat) (zf : Nat → List Nat) (h : Nat) (U : Nat → Prop) (w : World) : Prop :=
  ∃ v ys, BlkIs w B4 78 #[v] ∧ BlkIs w B1 53 #[.pointer (some ⟨g, 0, none⟩)] ∧ Rws w base v ys zf ∧ ys.length = h + 1 ∧ base ≤ B1 ∧ base ≤ B4 ∧ ∀ B, U B ↔ (B = B4 ∨ B = B1 ∨ RwsU v ys B)
section
variable {base B1 B4 g h : Nat} {zf : Nat → List Nat} {U V : Nat → Prop} {w w' : World}
theorem TxJ.lt (hj : TxJ base B1 B4 g zf h U w) : ∀ B, U B → B < w.heap.size := fun B hB => by
  obtain ⟨v, ys, h1, h2, h3, _, _, _, h4⟩ := hj
  rcases (h4 B).1 hB with rfl | rfl | h5
  · exact BlkIs.lt h1
  · exact BlkIs.lt h2
  · exact (h3.lt B h5).2
theorem TxJ.ge (hj : TxJ base B1 B4 g zf h U w) : ∀ B, U B → base ≤ B := fun B hB => by
  obtain ⟨v, ys, h1, h2, h3, _, h5, h6, h4⟩ := hj
  rcases (h4 B).1 hB with rfl | rfl | h7
  · exact h6
  · exact h5
  · exact (h3.lt B h7).1
theorem TxJ.keep (hj : TxJ base B1 B4 g zf h U w) (ht : Touch V w w') (hn : ∀ B, V B → ¬ U B) : TxJ base B1 B4 g zf h U w' := by
  obtain ⟨v, ys, h1, h2, h3, h5, h6, h7, h4⟩ := hj
  exact ⟨v, ys, ht.blk h1 fun hv => hn _ hv ((h4 _).2 (.inl rfl)), ht.blk h2 fun hv => hn _ hv ((h4 _).2 (.inr (.inl rfl))), h3.touch ht fun B hB hu => hn B hB ((h4 B).2 (.inr (.inr hu))), h5, h6, h7, h4⟩
end
theorem sides_text (wd : Int) (k : List Nat) (h : Nat) (d n : List Nat) : branchT wd (sidesN k h d n).1 (sidesN k h d n).2 = upT wd k h d n := rfl
set_option maxRecDepth 20000 in
set_option maxHeartbeats 4000000 in
theorem texts1_any (base B1 B4 g : Nat) (zf : Nat → List Nat) (c : Ck) (p : Pr) (h : Nat) (U : Nat → Prop) (b : Value) (w : World) (d n : List Nat) (hh : h < 256) (hd : IsB d) (hdl : d.length = 32) (hn : IsB n) (hnl : n.length = 32) (hz : zf (h + 1) = upT c.wd c.key h d n)
    (hj : TxJ base B1 B4 g zf h U w) (hr : Ready w g (c.blanked b) p) (hf : Far U g (c.blanked b)) :
    Calls Tryd.prog 61 #[.int .i64 h, .agg (bvs d).toArray, .agg (bvs n).toArray, .pointer (some ⟨B1, 0, none⟩), .pointer (some ⟨B4, 0, none⟩)] w (Eyed g c p (TxJ base B1 B4 g zf) h U b w) := by
  have HD := Lib.hid (And.intro hdl hd)
  have HN := Lib.hid (And.intro hnl hn)
  have HZ := Lib.hid hz
  have HJ := Lib.hid hj
  have HR := Lib.hid hr
  have HF := Lib.hid hf
  have HKL : Hid (c.key.length = 32 ∧ IsB c.key) := ⟨hr.ok.kl, hr.ok.kB⟩
  have HSD := Lib.hid (sidesN_facts (k := c.key) (h := h) hd hdl hn hnl)
  clear hd hdl hn hnl hz hj hr hf
  go_enter Tryd.func61, Tryd.ntmps61
  go_upto_region 1 with fail
  refine start2 (G := fun w2 => Code.wp _ _ _ _ w2) fun w2 H1 H2 HW HS => ?_
  have HD2 : Hid (BlkB w2 w.heap.size 29 d) := H1
  have HN2 : Hid (BlkB w2 (w.heap.size + 1) 29 n) := H2
  have HR2 : Hid (Ready w2 g (c.blanked b) p) := HR.out.below HW.out
  have HJ2 : Hid (TxJ base B1 B4 g zf h U w2) := HJ.out.keep (Touch.ofBelow HW.out) fun _ h => h.elim
  clear H1 H2
  go_cut [8, 9] from 10 (fun s8 s9 wx => ∃ a1 a2 : Nat, s8 = .pointer (some ⟨a1, 0, none⟩) ∧ s9 = .pointer (some ⟨a2, 0, none⟩) ∧ Hid (w2.heap.size ≤ a1 ∧ w2.heap.size ≤ a2) ∧ Hid (Below w2.heap.size w2 wx) ∧ Hid (BlkB wx a1 29 (sidesN c.key h d n).1) ∧ Hid (BlkB wx a2 29 (sidesN c.key h d n).2))
  case first =>
    have hu := und_dig
    have hszp : (Tryd.prog.info? 29).map (·.size) = some (bvs d).length := by rw [size_dig]; simp [bvs, HD.out.1]
    have hszn : (Tryd.prog.info? 29).map (·.size) = some (bvs n).length := by rw [size_dig]; simp [bvs, HN.out.1]
    have huk := und_key
    have hszk : (Tryd.prog.info? 31).map (·.size) = some (bvs c.key).length := by rw [size_key]; simp [bvs, HKL.out.1]
    have hrk : w2.rangeAt g 1 (bvs c.key) := by
      have h : BlkIs w2 g _ (c.blanked b).C.toArray := HR2.out.ck
      rw [Ck.byKey] at h
      exact h.rangeOf rfl
    have hc1 : w2.cell? ⟨B1, 0, none⟩ = some (.pointer (some ⟨g, 0, none⟩)) ∧ B1 < w2.heap.size := by
      obtain ⟨v, ys, _, h2, _⟩ := HJ2.out
      exact ⟨BlkIs.cell h2 0, BlkIs.lt h2⟩
    have HSS : Hid (∀ wx, Below w2.heap.size w2 wx → wx.cell? ⟨B1, 0, none⟩ = some (.pointer (some ⟨g, 0, none⟩)) ∧ wx.rangeAt g 1 (bvs c.key) ∧ wx.rangeAt w.heap.size 0 (bvs d) ∧ wx.rangeAt (w.heap.size + 1) 0 (bvs n)) := fun wx hb =>
      ⟨(hb.cell (p := ⟨B1, 0, none⟩) hc1.2).trans hc1.1, fun j v hj => (hb.cell (p := ⟨g, 1 + j, none⟩) HR2.out.ck.lt).trans (hrk j v hj), BlkIs.range (BlkIs.below HD2.out hb), BlkIs.range (BlkIs.below HN2.out hb)⟩
    clear hrk hc1
    refine wp_region_held_drew (S := fun w' => w'.cell? ⟨B1, 0, none⟩ = some (.pointer (some ⟨g, 0, none⟩)) ∧ w'.rangeAt g 1 (bvs c.key) ∧ w'.rangeAt w.heap.size 0 (bvs d) ∧ w'.rangeAt (w.heap.size + 1) 0 (bvs n)) (by kernel_rfl) (HSS.out _ (drewN_below (Below.refl _ _) 1)) fun hH => ?_
    have HB0 : Hid (Below w2.heap.size w2 w2.drew) := drewN_below (Below.refl _ _) 1
    generalize w2.drew = w2d at *
    refine wpAnyH_take (i := 0) (oi := ⟨some 11, _, _, _, _, _⟩) rfl (by kernel_rfl) (by kernel_rfl) (by kernel_rfl) (fun _ _ _ h => h) (Or.inl ⟨by rfl, fun w hw => by ((try dsimp only at hw); go_split_ands; go_simp; with_reducible rfl)⟩) (by assumption) ?_
    try simp only [Act.put, List.setIfInBounds_toArray, List.set_cons_zero, List.set_cons_succ]
    refine wpAnyH_take (i := 1) (oi := ⟨some 12, _, _, _, _, _⟩) rfl (by kernel_rfl) (by kernel_rfl) (by kernel_rfl) (fun _ _ _ h => h) (Or.inl ⟨by rfl, fun w hw => by ((try dsimp only at hw); go_split_ands; go_simp; with_reducible rfl)⟩) (by assumption) ?_
    try simp only [Act.put, List.setIfInBounds_toArray, List.set_cons_zero, List.set_cons_succ]
    refine wpAnyH_take (i := 2) (oi := ⟨some 13, _, _, _, _, _⟩) rfl (by kernel_rfl) (by kernel_rfl) (by kernel_rfl) (fun _ _ _ h => h) (Or.inl ⟨by rfl, fun w hw => by ((try dsimp only at hw); go_split_ands; go_simp; with_reducible rfl)⟩) (by assumption) ?_
    try simp only [Act.put, List.setIfInBounds_toArray, List.set_cons_zero, List.set_cons_succ]
    refine wpAnyH_take (i := 3) (oi := ⟨some 14, _, _, _, _, _⟩) rfl (by kernel_rfl) (by kernel_rfl) (by kernel_rfl) (fun _ _ _ h => h) (yieldsIf_load_mid (by rfl) _ _ rfl _ _ rfl _ _ (fun w hw => by (try dsimp only at hw); go_split_ands; assumption) (by assumption) rfl (by assumption)) (by assumption) ?_
    try simp only [Act.put, List.setIfInBounds_toArray, List.set_cons_zero, List.set_cons_succ]
    refine wpAnyH_take (i := 4) (oi := ⟨some 15, _, _, _, _, _⟩) rfl (by kernel_rfl) (by kernel_rfl) (by kernel_rfl) (fun _ _ _ h => h) (Or.inl ⟨by rfl, fun w hw => by ((try dsimp only at hw); go_split_ands; go_simp; with_reducible rfl)⟩) (by assumption) ?_
    try simp only [Act.put, List.setIfInBounds_toArray, List.set_cons_zero, List.set_cons_succ]
    refine wpAnyH_take (i := 5) (oi := ⟨some 16, _, _, _, _, _⟩) rfl (by kernel_rfl) (by kernel_rfl) (by kernel_rfl) (fun _ _ _ h => h) (yieldsIf_load_mid (by rfl) _ _ rfl _ _ rfl _ _ (fun w hw => by (try dsimp only at hw); go_split_ands; assumption) (by assumption) rfl (by assumption)) (by assumption) ?_
    try simp only [Act.put, List.setIfInBounds_toArray, List.set_cons_zero, List.set_cons_succ]
    refine wpAnyH_take (i := 6) (oi := ⟨some 17, _, _, _, _, _⟩) rfl (by kernel_rfl) (by kernel_rfl) (by kernel_rfl) (fun _ _ _ h => h) (yieldsIf_load_mid (by rfl) _ _ rfl _ _ rfl _ _ (fun w hw => by (try dsimp only at hw); go_split_ands; assumption) (by assumption) rfl (by assumption)) (by assumption) ?_
    try simp only [Act.put, List.setIfInBounds_toArray, List.set_cons_zero, List.set_cons_succ]
    clear hu hszp hszn huk hszk
    refine wpAnyH_ready (rs := [7, 11, 12]) (by kernel_rfl) (by simp) ?_
    refine AllReadyH.cons rfl (fun K hK => ?_) (AllReadyH.cons rfl (fun K hK => ?_) (AllReadyH.cons rfl (fun K hK => ?_) AllReadyH.nil))
    · go_simp
      go_at_call 56
      refine (sides_any c.key d n h w2d HKL.out.2 HKL.out.1 HD.out.2 HD.out.1 HN.out.2 HN.out.1 hh).mono ?_
      rintro e y1 ⟨rfl, hb1⟩
      have HB1 : Hid (Below w2.heap.size w2 y1) := HB0.out.trans (hb1.mono HB0.out.size)
      refine hK.out _ _ (HSS.out y1 HB1.out) (fun hH => ?_)
      clear hK hb1
      refine wpAnyH_take (i := 8) (oi := ⟨some 10, _, _, _, _, _⟩) rfl (by kernel_rfl) (by kernel_rfl) (by kernel_rfl) (fun _ _ _ h => h) (Or.inl ⟨by rfl, fun w hw => by ((try dsimp only at hw); go_split_ands; go_simp; with_reducible rfl)⟩) (by assumption) ?_
      try simp only [Act.put, List.setIfInBounds_toArray, List.set_cons_zero, List.set_cons_succ]
      refine wpAnyH_take (i := 9) (oi := ⟨some 19, _, _, _, _, _⟩) rfl (by kernel_rfl) (by kernel_rfl) (by kernel_rfl) (fun _ _ _ h => h) (Or.inl ⟨by rfl, fun w hw => by ((try dsimp only at hw); go_split_ands; go_simp; with_reducible rfl)⟩) (by assumption) ?_
      try simp only [Act.put, List.setIfInBounds_toArray, List.set_cons_zero, List.set_cons_succ]
      refine wpAnyH_take (i := 10) (oi := ⟨some 20, _, _, _, _, _⟩) rfl (by kernel_rfl) (by kernel_rfl) (by kernel_rfl) (fun _ _ _ h => h) (Or.inl ⟨by rfl, fun w hw => by ((try dsimp only at hw); go_split_ands; go_simp; with_reducible rfl)⟩) (by assumption) ?_
      try simp only [Act.put, List.setIfInBounds_toArray, List.set_cons_zero, List.set_cons_succ]
      refine wpAnyH_ready (rs := [11, 12]) (by kernel_rfl) (by simp) ?_
      refine AllReadyH.cons rfl (fun K hK => ?_) (AllReadyH.cons rfl (fun K hK => ?_) AllReadyH.nil)
      · refine wpOp_alloc (o := ⟨some 8, _, _, _, _, _⟩) (by rfl) 29 rfl _ _ info_dig ?_
        intro y2 hz2 hb2 hs2
        have hb2 := hb2.out
        have HB2 : Hid (Below w2.heap.size w2 y2) := HB1.out.trans (hb2.mono HB1.out.size)
        have HZ11_2 : Hid (BlkB y2 y1.heap.size 29 (zs 32)) := hz2.out
        have HG11_2 : Hid (w2.heap.size ≤ y1.heap.size) := HB1.out.size
        refine hK.out _ _ (HSS.out y2 HB2.out) (fun hH => ?_)
        clear hK hb2
        refine wpAnyH_ready (rs := [12]) (by kernel_rfl) (by simp) ?_
        refine AllReadyH.cons rfl (fun K hK => ?_) AllReadyH.nil
        refine wpOp_alloc (o := ⟨some 9, _, _, _, _, _⟩) (by rfl) 29 rfl _ _ info_dig ?_
        intro y3 hz3 hb3 hs3
        have hb3 := hb3.out
        have HB3 : Hid (Below w2.heap.size w2 y3) := HB2.out.trans (hb3.mono HB2.out.size)
        have HZ11_3 : Hid (BlkB y3 y1.heap.size 29 (zs 32)) := BlkIs.below HZ11_2.out hb3
        have HZ12_3 : Hid (BlkB y3 y2.heap.size 29 (zs 32)) := hz3.out
        have HG12_3 : Hid (w2.heap.size ≤ y2.heap.size) := HB2.out.size
        have HNE3 : Hid (y1.heap.size ≠ y2.heap.size) := by have := HZ11_2.out.lt; show _ ≠ _; omega
        refine hK.out _ _ (HSS.out y3 HB3.out) (fun hH => ?_)
        clear hK hb3
        refine wpAnyH_ready (rs := [13]) (by kernel_rfl) (by simp) ?_
        refine AllReadyH.cons (o := ⟨none, _, _, _, _, _⟩) rfl (fun K hK => ?_) AllReadyH.nil
        refine wpOp_store_part (o := ⟨none, _, _, _, _, _⟩) (by rfl) 29 (.tmp 8) (.tmp 19) rfl 0 [] (bvs (zs 32)) (bvs (sidesN c.key h d n).1) [] rfl rfl (blk_in HZ11_3.out) rfl (by simp [bvs, zs, HSD.out.2.1]) (by rw [size_dig]; simp [bvs, HSD.out.2.1]) (fun u hu => bvs_oneCell _ u hu) ?_
        intro z1 hz1 gz1
        have HBz1 : Hid (Below w2.heap.size w2 z1) := HB3.out.grown gz1 HB3.out.size fun k hk => by injection hk with hk; have := HG11_2.out; omega
        have HZb : Hid (BlkB z1 y2.heap.size 29 (zs 32)) := (Touch.one gz1).blk HZ12_3.out (Ne.symm HNE3.out)
        refine hK.out _ _ (HSS.out z1 HBz1.out) (fun hH => ?_)
        clear hK
        refine wpAnyH_ready (rs := [14]) (by kernel_rfl) (by simp) ?_
        refine AllReadyH.cons (o := ⟨none, _, _, _, _, _⟩) rfl (fun K hK => ?_) AllReadyH.nil
        refine wpOp_store_part (o := ⟨none, _, _, _, _, _⟩) (by rfl) 29 (.tmp 9) (.tmp 20) rfl 0 [] (bvs (zs 32)) (bvs (sidesN c.key h d n).2) [] rfl rfl (blk_in HZb.out) rfl (by simp [bvs, zs, HSD.out.2.2.2]) (by rw [size_dig]; simp [bvs, HSD.out.2.2.2]) (fun u hu => bvs_oneCell _ u hu) ?_
        intro z2 hz2 gz2
        have HBz2 : Hid (Below w2.heap.size w2 z2) := HBz1.out.grown gz2 HBz1.out.size fun k hk => by injection hk with hk; have := HG12_3.out; omega
        refine hK.out _ _ (HSS.out z2 HBz2.out) (fun hH => ?_)
        clear hK
        refine wpAnyH_done (by kernel_rfl) ?_ _
        go_wp2_with fail
        go_meet
        case rel => exact ⟨y1.heap.size, y2.heap.size, rfl, rfl, ⟨HG11_2.out, HG12_3.out⟩, HBz2.out, (Touch.one gz2).blk (blk_out hz1) HNE3.out, blk_out hz2⟩
      · refine wpOp_alloc (o := ⟨some 9, _, _, _, _, _⟩) (by rfl) 29 rfl _ _ info_dig ?_
        intro y4 hz4 hb4 hs4
        have hb4 := hb4.out
        have HB4 : Hid (Below w2.heap.size w2 y4) := HB1.out.trans (hb4.mono HB1.out.size)
        have HZ12_4 : Hid (BlkB y4 y1.heap.size 29 (zs 32)) := hz4.out
        have HG12_4 : Hid (w2.heap.size ≤ y1.heap.size) := HB1.out.size
        refine hK.out _ _ (HSS.out y4 HB4.out) (fun hH => ?_)
        clear hK hb4
        refine wpAnyH_ready (rs := [11]) (by kernel_rfl) (by simp) ?_
        refine AllReadyH.cons rfl (fun K hK => ?_) AllReadyH.nil
        refine wpOp_alloc (o := ⟨some 8, _, _, _, _, _⟩) (by rfl) 29 rfl _ _ info_dig ?_
        intro y5 hz5 hb5 hs5
        have hb5 := hb5.out
        have HB5 : Hid (Below w2.heap.size w2 y5) := HB4.out.trans (hb5.mono HB4.out.size)
        have HZ12_5 : Hid (BlkB y5 y1.heap.size 29 (zs 32)) := BlkIs.below HZ12_4.out hb5
        have HZ11_5 : Hid (BlkB y5 y4.heap.size 29 (zs 32)) := hz5.out
        have HG11_5 : Hid (w2.heap.size ≤ y4.heap.size) := HB4.out.size
        have HNE5 : Hid (y4.heap.size ≠ y1.heap.size) := by have := HZ12_4.out.lt; show _ ≠ _; omega
        refine hK.out _ _ (HSS.out y5 HB5.out) (fun hH => ?_)
        clear hK hb5
        refine wpAnyH_ready (rs := [13]) (by kernel_rfl) (by simp) ?_
        refine AllReadyH.cons (o := ⟨none, _, _, _, _, _⟩) rfl (fun K hK => ?_) AllReadyH.nil
        refine wpOp_store_part (o := ⟨none, _, _, _, _, _⟩) (by rfl) 29 (.tmp 8) (.tmp 19) rfl 0 [] (bvs (zs 32)) (bvs (sidesN c.key h d n).1) [] rfl rfl (blk_in HZ11_5.out) rfl (by simp [bvs, zs, HSD.out.2.1]) (by rw [size_dig]; simp [bvs, HSD.out.2.1]) (fun u hu => bvs_oneCell _ u hu) ?_
        intro z1 hz1 gz1
        have HBz1 : Hid (Below w2.heap.size w2 z1) := HB5.out.grown gz1 HB5.out.size fun k hk => by injection hk with hk; have := HG11_5.out; omega
        have HZb : Hid (BlkB z1 y1.heap.size 29 (zs 32)) := (Touch.one gz1).blk HZ12_5.out (Ne.symm HNE5.out)
        refine hK.out _ _ (HSS.out z1 HBz1.out) (fun hH => ?_)
        clear hK
        refine wpAnyH_ready (rs := [14]) (by kernel_rfl) (by simp) ?_
        refine AllReadyH.cons (o := ⟨none, _, _, _, _, _⟩) rfl (fun K hK => ?_) AllReadyH.nil
        refine wpOp_store_part (o := ⟨none, _, _, _, _, _⟩) (by rfl) 29 (.tmp 9) (.tmp 20) rfl 0 [] (bvs (zs 32)) (bvs (sidesN c.key h d n).2) [] rfl rfl (blk_in HZb.out) rfl (by simp [bvs, zs, HSD.out.2.2.2]) (by rw [size_dig]; simp [bvs, HSD.out.2.2.2]) (fun u hu => bvs_oneCell _ u hu) ?_
        intro z2 hz2 gz2
        have HBz2 : Hid (Below w2.heap.size w2 z2) := HBz1.out.grown gz2 HBz1.out.size fun k hk => by injection hk with hk; have := HG12_4.out; omega
        refine hK.out _ _ (HSS.out z2 HBz2.out) (fun hH => ?_)
        clear hK
        refine wpAnyH_done (by kernel_rfl) ?_ _
        go_wp2_with fail
        go_meet
        case rel => exact ⟨y4.heap.size, y1.heap.size, rfl, rfl, ⟨HG11_5.out, HG12_4.out⟩, HBz2.out, (Touch.one gz2).blk (blk_out hz1) HNE5.out, blk_out hz2⟩
    · refine wpOp_alloc (o := ⟨some 8, _, _, _, _, _⟩) (by rfl) 29 rfl _ _ info_dig ?_
      intro y6 hz6 hb6 hs6
      have hb6 := hb6.out
      have HB6 : Hid (Below w2.heap.size w2 y6) := HB0.out.trans (hb6.mono HB0.out.size)
      have HZ11_6 : Hid (BlkB y6 w2d.heap.size 29 (zs 32)) := hz6.out
      have HG11_6 : Hid (w2.heap.size ≤ w2d.heap.size) := HB0.out.size
      refine hK.out _ _ (HSS.out y6 HB6.out) (fun hH => ?_)
      clear hK hb6
      refine wpAnyH_ready (rs := [7, 12]) (by kernel_rfl) (by simp) ?_
      refine AllReadyH.cons rfl (fun K hK => ?_) (AllReadyH.cons rfl (fun K hK => ?_) AllReadyH.nil)
      · go_simp
        go_at_call 56
        refine (sides_any c.key d n h y6 HKL.out.2 HKL.out.1 HD.out.2 HD.out.1 HN.out.2 HN.out.1 hh).mono ?_
        rintro e y7 ⟨rfl, hb7⟩
        have HB7 : Hid (Below w2.heap.size w2 y7) := HB6.out.trans (hb7.mono HB6.out.size)
        have HZ11_7 : Hid (BlkB y7 w2d.heap.size 29 (zs 32)) := BlkIs.below HZ11_6.out hb7
        refine hK.out _ _ (HSS.out y7 HB7.out) (fun hH => ?_)
        clear hK hb7
        refine wpAnyH_take (i := 8) (oi := ⟨some 10, _, _, _, _, _⟩) rfl (by kernel_rfl) (by kernel_rfl) (by kernel_rfl) (fun _ _ _ h => h) (Or.inl ⟨by rfl, fun w hw => by ((try dsimp only at hw); go_split_ands; go_simp; with_reducible rfl)⟩) (by assumption) ?_
        try simp only [Act.put, List.setIfInBounds_toArray, List.set_cons_zero, List.set_cons_succ]
        refine wpAnyH_take (i := 9) (oi := ⟨some 19, _, _, _, _, _⟩) rfl (by kernel_rfl) (by kernel_rfl) (by kernel_rfl) (fun _ _ _ h => h) (Or.inl ⟨by rfl, fun w hw => by ((try dsimp only at hw); go_split_ands; go_simp; with_reducible rfl)⟩) (by assumption) ?_
        try simp only [Act.put, List.setIfInBounds_toArray, List.set_cons_zero, List.set_cons_succ]
        refine wpAnyH_take (i := 10) (oi := ⟨some 20, _, _, _, _, _⟩) rfl (by kernel_rfl) (by kernel_rfl) (by kernel_rfl) (fun _ _ _ h => h) (Or.inl ⟨by rfl, fun w hw => by ((try dsimp only at hw); go_split_ands; go_simp; with_reducible rfl)⟩) (by assumption) ?_
        try simp only [Act.put, List.setIfInBounds_toArray, List.set_cons_zero, List.set_cons_succ]
        refine wpAnyH_ready (rs := [12]) (by kernel_rfl) (by simp) ?_
        refine AllReadyH.cons rfl (fun K hK => ?_) AllReadyH.nil
        refine wpOp_alloc (o := ⟨some 9, _, _, _, _, _⟩) (by rfl) 29 rfl _ _ info_dig ?_
        intro y8 hz8 hb8 hs8
        have hb8 := hb8.out
        have HB8 : Hid (Below w2.heap.size w2 y8) := HB7.out.trans (hb8.mono HB7.out.size)
        have HZ11_8 : Hid (BlkB y8 w2d.heap.size 29 (zs 32)) := BlkIs.below HZ11_7.out hb8
        have HZ12_8 : Hid (BlkB y8 y7.heap.size 29 (zs 32)) := hz8.out
        have HG12_8 : Hid (w2.heap.size ≤ y7.heap.size) := HB7.out.size
        have HNE8 : Hid (w2d.heap.size ≠ y7.heap.size) := by have := HZ11_7.out.lt; show _ ≠ _; omega
        refine hK.out _ _ (HSS.out y8 HB8.out) (fun hH => ?_)
        clear hK hb8
        refine wpAnyH_ready (rs := [13]) (by kernel_rfl) (by simp) ?_
        refine AllReadyH.cons (o := ⟨none, _, _, _, _, _⟩) rfl (fun K hK => ?_) AllReadyH.nil
        refine wpOp_store_part (o := ⟨none, _, _, _, _, _⟩) (by rfl) 29 (.tmp 8) (.tmp 19) rfl 0 [] (bvs (zs 32)) (bvs (sidesN c.key h d n).1) [] rfl rfl (blk_in HZ11_8.out) rfl (by simp [bvs, zs, HSD.out.2.1]) (by rw [size_dig]; simp [bvs, HSD.out.2.1]) (fun u hu => bvs_oneCell _ u hu) ?_
        intro z1 hz1 gz1
        have HBz1 : Hid (Below w2.heap.size w2 z1) := HB8.out.grown gz1 HB8.out.size fun k hk => by injection hk with hk; have := HG11_6.out; omega
        have HZb : Hid (BlkB z1 y7.heap.size 29 (zs 32)) := (Touch.one gz1).blk HZ12_8.out (Ne.symm HNE8.out)
        refine hK.out _ _ (HSS.out z1 HBz1.out) (fun hH => ?_)
        clear hK
        refine wpAnyH_ready (rs := [14]) (by kernel_rfl) (by simp) ?_
        refine AllReadyH.cons (o := ⟨none, _, _, _, _, _⟩) rfl (fun K hK => ?_) AllReadyH.nil
        refine wpOp_store_part (o := ⟨none, _, _, _, _, _⟩) (by rfl) 29 (.tmp 9) (.tmp 20) rfl 0 [] (bvs (zs 32)) (bvs (sidesN c.key h d n).2) [] rfl rfl (blk_in HZb.out) rfl (by simp [bvs, zs, HSD.out.2.2.2]) (by rw [size_dig]; simp [bvs, HSD.out.2.2.2]) (fun u hu => bvs_oneCell _ u hu) ?_
        intro z2 hz2 gz2
        have HBz2 : Hid (Below w2.heap.size w2 z2) := HBz1.out.grown gz2 HBz1.out.size fun k hk => by injection hk with hk; have := HG12_8.out; omega
        refine hK.out _ _ (HSS.out z2 HBz2.out) (fun hH => ?_)
        clear hK
        refine wpAnyH_done (by kernel_rfl) ?_ _
        go_wp2_with fail
        go_meet
        case rel => exact ⟨w2d.heap.size, y7.heap.size, rfl, rfl, ⟨HG11_6.out, HG12_8.out⟩, HBz2.out, (Touch.one gz2).blk (blk_out hz1) HNE8.out, blk_out hz2⟩
      · refine wpOp_alloc (o := ⟨some 9, _, _, _, _, _⟩) (by rfl) 29 rfl _ _ info_dig ?_
        intro y9 hz9 hb9 hs9
        have hb9 := hb9.out
        have HB9 : Hid (Below w2.heap.size w2 y9) := HB6.out.trans (hb9.mono HB6.out.size)
        have HZ11_9 : Hid (BlkB y9 w2d.heap.size 29 (zs 32)) := BlkIs.below HZ11_6.out hb9
        have HZ12_9 : Hid (BlkB y9 y6.heap.size 29 (zs 32)) := hz9.out
        have HG12_9 : Hid (w2.heap.size ≤ y6.heap.size) := HB6.out.size
        have HNE9 : Hid (w2d.heap.size ≠ y6.heap.size) := by have := HZ11_6.out.lt; show _ ≠ _; omega
        refine hK.out _ _ (HSS.out y9 HB9.out) (fun hH => ?_)
        clear hK hb9
        refine wpAnyH_ready (rs := [7]) (by kernel_rfl) (by simp) ?_
        refine AllReadyH.cons rfl (fun K hK => ?_) AllReadyH.nil
        go_simp
        go_at_call 56
        refine (sides_any c.key d n h y9 HKL.out.2 HKL.out.1 HD.out.2 HD.out.1 HN.out.2 HN.out.1 hh).mono ?_
        rintro e y10 ⟨rfl, hb10⟩
        have HB10 : Hid (Below w2.heap.size w2 y10) := HB9.out.trans (hb10.mono HB9.out.size)
        have HZ11_10 : Hid (BlkB y10 w2d.heap.size 29 (zs 32)) := BlkIs.below HZ11_9.out hb10
        have HZ12_10 : Hid (BlkB y10 y6.heap.size 29 (zs 32)) := BlkIs.below HZ12_9.out hb10
        refine hK.out _ _ (HSS.out y10 HB10.out) (fun hH => ?_)
        clear hK hb10
        refine wpAnyH_take (i := 8) (oi := ⟨some 10, _, _, _, _, _⟩) rfl (by kernel_rfl) (by kernel_rfl) (by kernel_rfl) (fun _ _ _ h => h) (Or.inl ⟨by rfl, fun w hw => by ((try dsimp only at hw); go_split_ands; go_simp; with_reducible rfl)⟩) (by assumption) ?_
        try simp only [Act.put, List.setIfInBounds_toArray, List.set_cons_zero, List.set_cons_succ]
        refine wpAnyH_take (i := 9) (oi := ⟨some 19, _, _, _, _, _⟩) rfl (by kernel_rfl) (by kernel_rfl) (by kernel_rfl) (fun _ _ _ h => h) (Or.inl ⟨by rfl, fun w hw => by ((try dsimp only at hw); go_split_ands; go_simp; with_reducible rfl)⟩) (by assumption) ?_
        try simp only [Act.put, List.setIfInBounds_toArray, List.set_cons_zero, List.set_cons_succ]
        refine wpAnyH_take (i := 10) (oi := ⟨some 20, _, _, _, _, _⟩) rfl (by kernel_rfl) (by kernel_rfl) (by kernel_rfl) (fun _ _ _ h => h) (Or.inl ⟨by rfl, fun w hw => by ((try dsimp only at hw); go_split_ands; go_simp; with_reducible rfl)⟩) (by assumption) ?_
        try simp only [Act.put, List.setIfInBounds_toArray, List.set_cons_zero, List.set_cons_succ]
        refine wpAnyH_ready (rs := [13]) (by kernel_rfl) (by simp) ?_
        refine AllReadyH.cons (o := ⟨none, _, _, _, _, _⟩) rfl (fun K hK => ?_) AllReadyH.nil
        refine wpOp_store_part (o := ⟨none, _, _, _, _, _⟩) (by rfl) 29 (.tmp 8) (.tmp 19) rfl 0 [] (bvs (zs 32)) (bvs (sidesN c.key h d n).1) [] rfl rfl (blk_in HZ11_10.out) rfl (by simp [bvs, zs, HSD.out.2.1]) (by rw [size_dig]; simp [bvs, HSD.out.2.1]) (fun u hu => bvs_oneCell _ u hu) ?_
        intro z1 hz1 gz1
        have HBz1 : Hid (Below w2.heap.size w2 z1) := HB10.out.grown gz1 HB10.out.size fun k hk => by injection hk with hk; have := HG11_6.out; omega
        have HZb : Hid (BlkB z1 y6.heap.size 29 (zs 32)) := (Touch.one gz1).blk HZ12_10.out (Ne.symm HNE9.out)
        refine hK.out _ _ (HSS.out z1 HBz1.out) (fun hH => ?_)
        clear hK
        refine wpAnyH_ready (rs := [14]) (by kernel_rfl) (by simp) ?_
        refine AllReadyH.cons (o := ⟨none, _, _, _, _, _⟩) rfl (fun K hK => ?_) AllReadyH.nil
        refine wpOp_store_part (o := ⟨none, _, _, _, _, _⟩) (by rfl) 29 (.tmp 9) (.tmp 20) rfl 0 [] (bvs (zs 32)) (bvs (sidesN c.key h d n).2) [] rfl rfl (blk_in HZb.out) rfl (by simp [bvs, zs, HSD.out.2.2.2]) (by rw [size_dig]; simp [bvs, HSD.out.2.2.2]) (fun u hu => bvs_oneCell _ u hu) ?_
        intro z2 hz2 gz2
        have HBz2 : Hid (Below w2.heap.size w2 z2) := HBz1.out.grown gz2 HBz1.out.size fun k hk => by injection hk with hk; have := HG12_9.out; omega
        refine hK.out _ _ (HSS.out z2 HBz2.out) (fun hH => ?_)
        clear hK
        refine wpAnyH_done (by kernel_rfl) ?_ _
        go_wp2_with fail
        go_meet
        case rel => exact ⟨w2d.heap.size, y6.heap.size, rfl, rfl, ⟨HG11_6.out, HG12_9.out⟩, HBz2.out, (Touch.one gz2).blk (blk_out hz1) HNE9.out, blk_out hz2⟩
    · refine wpOp_alloc (o := ⟨some 9, _, _, _, _, _⟩) (by rfl) 29 rfl _ _ info_dig ?_
      intro y11 hz11 hb11 hs11
      have hb11 := hb11.out
      have HB11 : Hid (Below w2.heap.size w2 y11) := HB0.out.trans (hb11.mono HB0.out.size)
      have HZ12_11 : Hid (BlkB y11 w2d.heap.size 29 (zs 32)) := hz11.out
      have HG12_11 : Hid (w2.heap.size ≤ w2d.heap.size) := HB0.out.size
      refine hK.out _ _ (HSS.out y11 HB11.out) (fun hH => ?_)
      clear hK hb11
      refine wpAnyH_ready (rs := [7, 11]) (by kernel_rfl) (by simp) ?_
      refine AllReadyH.cons rfl (fun K hK => ?_) (AllReadyH.cons rfl (fun K hK => ?_) AllReadyH.nil)
      · go_simp
        go_at_call 56
        refine (sides_any c.key d n h y11 HKL.out.2 HKL.out.1 HD.out.2 HD.out.1 HN.out.2 HN.out.1 hh).mono ?_
        rintro e y12 ⟨rfl, hb12⟩
        have HB12 : Hid (Below w2.heap.size w2 y12) := HB11.out.trans (hb12.mono HB11.out.size)
        have HZ12_12 : Hid (BlkB y12 w2d.heap.size 29 (zs 32)) := BlkIs.below HZ12_11.out hb12
        refine hK.out _ _ (HSS.out y12 HB12.out) (fun hH => ?_)
        clear hK hb12
        refine wpAnyH_take (i := 8) (oi := ⟨some 10, _, _, _, _, _⟩) rfl (by kernel_rfl) (by kernel_rfl) (by kernel_rfl) (fun _ _ _ h => h) (Or.inl ⟨by rfl, fun w hw => by ((try dsimp only at hw); go_split_ands; go_simp; with_reducible rfl)⟩) (by assumption) ?_
        try simp only [Act.put, List.setIfInBounds_toArray, List.set_cons_zero, List.set_cons_succ]
        refine wpAnyH_take (i := 9) (oi := ⟨some 19, _, _, _, _, _⟩) rfl (by kernel_rfl) (by kernel_rfl) (by kernel_rfl) (fun _ _ _ h => h) (Or.inl ⟨by rfl, fun w hw => by ((try dsimp only at hw); go_split_ands; go_simp; with_reducible rfl)⟩) (by assumption) ?_
        try simp only [Act.put, List.setIfInBounds_toArray, List.set_cons_zero, List.set_cons_succ]
        refine wpAnyH_take (i := 10) (oi := ⟨some 20, _, _, _, _, _⟩) rfl (by kernel_rfl) (by kernel_rfl) (by kernel_rfl) (fun _ _ _ h => h) (Or.inl ⟨by rfl, fun w hw => by ((try dsimp only at hw); go_split_ands; go_simp; with_reducible rfl)⟩) (by assumption) ?_
        try simp only [Act.put, List.setIfInBounds_toArray, List.set_cons_zero, List.set_cons_succ]
        refine wpAnyH_ready (rs := [11]) (by kernel_rfl) (by simp) ?_
        refine AllReadyH.cons rfl (fun K hK => ?_) AllReadyH.nil
        refine wpOp_alloc (o := ⟨some 8, _, _, _, _, _⟩) (by rfl) 29 rfl _ _ info_dig ?_
        intro y13 hz13 hb13 hs13
        have hb13 := hb13.out
        have HB13 : Hid (Below w2.heap.size w2 y13) := HB12.out.trans (hb13.mono HB12.out.size)
        have HZ12_13 : Hid (BlkB y13 w2d.heap.size 29 (zs 32)) := BlkIs.below HZ12_12.out hb13
        have HZ11_13 : Hid (BlkB y13 y12.heap.size 29 (zs 32)) := hz13.out
        have HG11_13 : Hid (w2.heap.size ≤ y12.heap.size) := HB12.out.size
        have HNE13 : Hid (y12.heap.size ≠ w2d.heap.size) := by have := HZ12_12.out.lt; show _ ≠ _; omega
        refine hK.out _ _ (HSS.out y13 HB13.out) (fun hH => ?_)
        clear hK hb13
        refine wpAnyH_ready (rs := [13]) (by kernel_rfl) (by simp) ?_
        refine AllReadyH.cons (o := ⟨none, _, _, _, _, _⟩) rfl (fun K hK => ?_) AllReadyH.nil
        refine wpOp_store_part (o := ⟨none, _, _, _, _, _⟩) (by rfl) 29 (.tmp 8) (.tmp 19) rfl 0 [] (bvs (zs 32)) (bvs (sidesN c.key h d n).1) [] rfl rfl (blk_in HZ11_13.out) rfl (by simp [bvs, zs, HSD.out.2.1]) (by rw [size_dig]; simp [bvs, HSD.out.2.1]) (fun u hu => bvs_oneCell _ u hu) ?_
        intro z1 hz1 gz1
        have HBz1 : Hid (Below w2.heap.size w2 z1) := HB13.out.grown gz1 HB13.out.size fun k hk => by injection hk with hk; have := HG11_13.out; omega
        have HZb : Hid (BlkB z1 w2d.heap.size 29 (zs 32)) := (Touch.one gz1).blk HZ12_13.out (Ne.symm HNE13.out)
        refine hK.out _ _ (HSS.out z1 HBz1.out) (fun hH => ?_)
        clear hK
        refine wpAnyH_ready (rs := [14]) (by kernel_rfl) (by simp) ?_
        refine AllReadyH.cons (o := ⟨none, _, _, _, _, _⟩) rfl (fun K hK => ?_) AllReadyH.nil
        refine wpOp_store_part (o := ⟨none, _, _, _, _, _⟩) (by rfl) 29 (.tmp 9) (.tmp 20) rfl 0 [] (bvs (zs 32)) (bvs (sidesN c.key h d n).2) [] rfl rfl (blk_in HZb.out) rfl (by simp [bvs, zs, HSD.out.2.2.2]) (by rw [size_dig]; simp [bvs, HSD.out.2.2.2]) (fun u hu => bvs_oneCell _ u hu) ?_
        intro z2 hz2 gz2
        have HBz2 : Hid (Below w2.heap.size w2 z2) := HBz1.out.grown gz2 HBz1.out.size fun k hk => by injection hk with hk; have := HG12_11.out; omega
        refine hK.out _ _ (HSS.out z2 HBz2.out) (fun hH => ?_)
        clear hK
        refine wpAnyH_done (by kernel_rfl) ?_ _
        go_wp2_with fail
        go_meet
        case rel => exact ⟨y12.heap.size, w2d.heap.size, rfl, rfl, ⟨HG11_13.out, HG12_11.out⟩, HBz2.out, (Touch.one gz2).blk (blk_out hz1) HNE13.out, blk_out hz2⟩
      · refine wpOp_alloc (o := ⟨some 8, _, _, _, _, _⟩) (by rfl) 29 rfl _ _ info_dig ?_
        intro y14 hz14 hb14 hs14
        have hb14 := hb14.out
        have HB14 : Hid (Below w2.heap.size w2 y14) := HB11.out.trans (hb14.mono HB11.out.size)
        have HZ12_14 : Hid (BlkB y14 w2d.heap.size 29 (zs 32)) := BlkIs.below HZ12_11.out hb14
        have HZ11_14 : Hid (BlkB y14 y11.heap.size 29 (zs 32)) := hz14.out
        have HG11_14 : Hid (w2.heap.size ≤ y11.heap.size) := HB11.out.size
        have HNE14 : Hid (y11.heap.size ≠ w2d.heap.size) := by have := HZ12_11.out.lt; show _ ≠ _; omega
        refine hK.out _ _ (HSS.out y14 HB14.out) (fun hH => ?_)
        clear hK hb14
        refine wpAnyH_ready (rs := [7]) (by kernel_rfl) (by simp) ?_
        refine AllReadyH.cons rfl (fun K hK => ?_) AllReadyH.nil
        go_simp
        go_at_call 56
        refine (sides_any c.key d n h y14 HKL.out.2 HKL.out.1 HD.out.2 HD.out.1 HN.out.2 HN.out.1 hh).mono ?_
        rintro e y15 ⟨rfl, hb15⟩
        have HB15 : Hid (Below w2.heap.size w2 y15) := HB14.out.trans (hb15.mono HB14.out.size)
        have HZ11_15 : Hid (BlkB y15 y11.heap.size 29 (zs 32)) := BlkIs.below HZ11_14.out hb15
        have HZ12_15 : Hid (BlkB y15 w2d.heap.size 29 (zs 32)) := BlkIs.below HZ12_14.out hb15
        refine hK.out _ _ (HSS.out y15 HB15.out) (fun hH => ?_)
        clear hK hb15
        refine wpAnyH_take (i := 8) (oi := ⟨some 10, _, _, _, _, _⟩) rfl (by kernel_rfl) (by kernel_rfl) (by kernel_rfl) (fun _ _ _ h => h) (Or.inl ⟨by rfl, fun w hw => by ((try dsimp only at hw); go_split_ands; go_simp; with_reducible rfl)⟩) (by assumption) ?_
        try simp only [Act.put, List.setIfInBounds_toArray, List.set_cons_zero, List.set_cons_succ]
        refine wpAnyH_take (i := 9) (oi := ⟨some 19, _, _, _, _, _⟩) rfl (by kernel_rfl) (by kernel_rfl) (by kernel_rfl) (fun _ _ _ h => h) (Or.inl ⟨by rfl, fun w hw => by ((try dsimp only at hw); go_split_ands; go_simp; with_reducible rfl)⟩) (by assumption) ?_
        try simp only [Act.put, List.setIfInBounds_toArray, List.set_cons_zero, List.set_cons_succ]
        refine wpAnyH_take (i := 10) (oi := ⟨some 20, _, _, _, _, _⟩) rfl (by kernel_rfl) (by kernel_rfl) (by kernel_rfl) (fun _ _ _ h => h) (Or.inl ⟨by rfl, fun w hw => by ((try dsimp only at hw); go_split_ands; go_simp; with_reducible rfl)⟩) (by assumption) ?_
        try simp only [Act.put, List.setIfInBounds_toArray, List.set_cons_zero, List.set_cons_succ]
        refine wpAnyH_ready (rs := [13]) (by kernel_rfl) (by simp) ?_
        refine AllReadyH.cons (o := ⟨none, _, _, _, _, _⟩) rfl (fun K hK => ?_) AllReadyH.nil
        refine wpOp_store_part (o := ⟨none, _, _, _, _, _⟩) (by rfl) 29 (.tmp 8) (.tmp 19) rfl 0 [] (bvs (zs 32)) (bvs (sidesN c.key h d n).1) [] rfl rfl (blk_in HZ11_15.out) rfl (by simp [bvs, zs, HSD.out.2.1]) (by rw [size_dig]; simp [bvs, HSD.out.2.1]) (fun u hu => bvs_oneCell _ u hu) ?_
        intro z1 hz1 gz1
        have HBz1 : Hid (Below w2.heap.size w2 z1) := HB15.out.grown gz1 HB15.out.size fun k hk => by injection hk with hk; have := HG11_14.out; omega
        have HZb : Hid (BlkB z1 w2d.heap.size 29 (zs 32)) := (Touch.one gz1).blk HZ12_15.out (Ne.symm HNE14.out)
        refine hK.out _ _ (HSS.out z1 HBz1.out) (fun hH => ?_)
        clear hK
        refine wpAnyH_ready (rs := [14]) (by kernel_rfl) (by simp) ?_
        refine AllReadyH.cons (o := ⟨none, _, _, _, _, _⟩) rfl (fun K hK => ?_) AllReadyH.nil
        refine wpOp_store_part (o := ⟨none, _, _, _, _, _⟩) (by rfl) 29 (.tmp 9) (.tmp 20) rfl 0 [] (bvs (zs 32)) (bvs (sidesN c.key h d n).2) [] rfl rfl (blk_in HZb.out) rfl (by simp [bvs, zs, HSD.out.2.2.2]) (by rw [size_dig]; simp [bvs, HSD.out.2.2.2]) (fun u hu => bvs_oneCell _ u hu) ?_
        intro z2 hz2 gz2
        have HBz2 : Hid (Below w2.heap.size w2 z2) := HBz1.out.grown gz2 HBz1.out.size fun k hk => by injection hk with hk; have := HG12_11.out; omega
        refine hK.out _ _ (HSS.out z2 HBz2.out) (fun hH => ?_)
        clear hK
        refine wpAnyH_done (by kernel_rfl) ?_ _
        go_wp2_with fail
        go_meet
        case rel => exact ⟨y11.heap.size, w2d.heap.size, rfl, rfl, ⟨HG11_14.out, HG12_11.out⟩, HBz2.out, (Touch.one gz2).blk (blk_out hz1) HNE14.out, blk_out hz2⟩
  case rest =>
    obtain ⟨a1, a2, rfl, rfl, HA, HB, HA1, HA2⟩ := hcut
    have HRc : Hid (Ready wc g (c.blanked b) p) := HR2.out.below HB.out
    have HJc : Hid (TxJ base B1 B4 g zf h U wc) := HJ2.out.keep (Touch.ofBelow HB.out) fun _ h => h.elim
    have HBw : Hid (Below w.heap.size w wc) := HW.out.trans (HB.out.mono HW.out.size)
    have HLU : Hid (∀ B, U B → B < w2.heap.size) := HJ2.out.lt
    clear HJ2 HR2 HD2 HN2
    obtain ⟨v, ys, hb4, hb1, hrw, hyl, hg1, hg4, hU⟩ := HJc.out
    have HB4 := Lib.hid hb4
    have HB1 := Lib.hid hb1
    have HRW := Lib.hid hrw
    have HYL := Lib.hid hyl
    have HU := Lib.hid hU
    have HGG := Lib.hid (And.intro hg1 hg4)
    clear hb4 hb1 hrw hyl hU hg1 hg4
    obtain ⟨va, vn, vc, hvf⟩ := row_form HRW.out.row
    subst hvf
    have hcw := (ck_cells (c := c.blanked b) HRc.out.ck HRc.out.ok).1
    rw [show (c.blanked b).wd = c.wd from rfl] at hcw
    have HSS : Hid (∀ wx, Below wc.heap.size wc wx → wx.cell? ⟨B4, 0, none⟩ = some (.slice va vn vc) ∧ wx.cell? ⟨B1, 0, none⟩ = some (.pointer (some ⟨g, 0, none⟩)) ∧ wx.cell? ⟨g, 0, none⟩ = some (.int .i64 c.wd) ∧ wx.rangeAt a1 0 (bvs (sidesN c.key h d n).1) ∧ wx.rangeAt a2 0 (bvs (sidesN c.key h d n).2)) := fun wx hb =>
      ⟨BlkIs.cell (BlkIs.below HB4.out hb) 0, BlkIs.cell (BlkIs.below HB1.out hb) 0, (hb.cell (p := ⟨g, 0, none⟩) HRc.out.ck.lt).trans hcw, BlkIs.range (BlkIs.below HA1.out hb), BlkIs.range (BlkIs.below HA2.out hb)⟩
    clear hcw
    go_upto_region 2 with fail
    have hu := und_dig
    have hsz1 : (Tryd.prog.info? 29).map (·.size) = some (bvs (sidesN c.key h d n).1).length := by rw [size_dig]; simp [bvs, HSD.out.2.1]
    have hsz2 : (Tryd.prog.info? 29).map (·.size) = some (bvs (sidesN c.key h d n).2).length := by rw [size_dig]; simp [bvs, HSD.out.2.2.2]
    refine wp_region_upTo (S := fun w' => w'.cell? ⟨B4, 0, none⟩ = some (.slice va vn vc) ∧ w'.cell? ⟨B1, 0, none⟩ = some (.pointer (some ⟨g, 0, none⟩)) ∧ w'.cell? ⟨g, 0, none⟩ = some (.int .i64 c.wd) ∧ w'.rangeAt a1 0 (bvs (sidesN c.key h d n).1) ∧ w'.rangeAt a2 0 (bvs (sidesN c.key h d n).2)) 10 (by kernel_rfl) (HSS.out _ (drewN_below (Below.refl _ _) 1)) fun hH => ?_
    have HB0 : Hid (Below wc.heap.size wc wc.drew) := drewN_below (Below.refl _ _) 1
    generalize wc.drew = wd0 at *
    refine wpAnyU_take (i := 0) (oi := ⟨some 21, _, _, _, _, _⟩) [9, 10] rfl (by kernel_rfl) (by kernel_rfl) (by kernel_rfl) (fun _ _ _ h => h) (by kernel_rfl) (by kernel_rfl) (by kernel_rfl) (Or.inl ⟨by rfl, fun w hw => by ((try dsimp only at hw); go_split_ands; go_simp; with_reducible rfl)⟩) (by assumption) ?_
    try simp only [Act.put, List.setIfInBounds_toArray, List.set_cons_zero, List.set_cons_succ]
    refine wpAnyU_take (i := 1) (oi := ⟨some 22, _, _, _, _, _⟩) [2, 3, 4, 7, 8, 9, 10] rfl (by kernel_rfl) (by kernel_rfl) (by kernel_rfl) (fun _ _ _ h => h) (by kernel_rfl) (by kernel_rfl) (by kernel_rfl) (Or.inl ⟨by rfl, fun w hw => by ((try dsimp only at hw); go_split_ands; go_simp; with_reducible rfl)⟩) (by assumption) ?_
    try simp only [Act.put, List.setIfInBounds_toArray, List.set_cons_zero, List.set_cons_succ]
    refine wpAnyU_take (i := 2) (oi := ⟨some 23, _, _, _, _, _⟩) [3, 4, 7, 8, 9, 10] rfl (by kernel_rfl) (by kernel_rfl) (by kernel_rfl) (fun _ _ _ h => h) (by kernel_rfl) (by kernel_rfl) (by kernel_rfl) (Or.inl ⟨by rfl, fun w hw => by ((try dsimp only at hw); go_split_ands; go_simp; with_reducible rfl)⟩) (by assumption) ?_
    try simp only [Act.put, List.setIfInBounds_toArray, List.set_cons_zero, List.set_cons_succ]
    refine wpAnyU_take (i := 3) (oi := ⟨some 24, _, _, _, _, _⟩) [4, 7, 8, 9, 10] rfl (by kernel_rfl) (by kernel_rfl) (by kernel_rfl) (fun _ _ _ h => h) (by kernel_rfl) (by kernel_rfl) (by kernel_rfl) (Or.inl ⟨by rfl, fun w hw => by ((try dsimp only at hw); go_split_ands; go_simp; with_reducible rfl)⟩) (by assumption) ?_
    try simp only [Act.put, List.setIfInBounds_toArray, List.set_cons_zero, List.set_cons_succ]
    refine wpAnyU_take (i := 4) (oi := ⟨some 25, _, _, _, _, _⟩) [7, 8, 9, 10] rfl (by kernel_rfl) (by kernel_rfl) (by kernel_rfl) (fun _ _ _ h => h) (by kernel_rfl) (by kernel_rfl) (by kernel_rfl) (Or.inl ⟨by rfl, fun w hw => by ((try dsimp only at hw); go_split_ands; go_simp; with_reducible rfl)⟩) (by assumption) ?_
    try simp only [Act.put, List.setIfInBounds_toArray, List.set_cons_zero, List.set_cons_succ]
    refine wpAnyU_take (i := 5) (oi := ⟨some 26, _, _, _, _, _⟩) [7, 8, 9, 10] rfl (by kernel_rfl) (by kernel_rfl) (by kernel_rfl) (fun _ _ _ h => h) (by kernel_rfl) (by kernel_rfl) (by kernel_rfl) (yieldsIf_load_mid (by rfl) _ _ rfl _ _ rfl _ _ (fun w hw => by (try dsimp only at hw); go_split_ands; assumption) (by assumption) rfl (by assumption)) (by assumption) ?_
    try simp only [Act.put, List.setIfInBounds_toArray, List.set_cons_zero, List.set_cons_succ]
    refine wpAnyU_take (i := 6) (oi := ⟨some 27, _, _, _, _, _⟩) [7, 8, 9, 10] rfl (by kernel_rfl) (by kernel_rfl) (by kernel_rfl) (fun _ _ _ h => h) (by kernel_rfl) (by kernel_rfl) (by kernel_rfl) (yieldsIf_load_mid (by rfl) _ _ rfl _ _ rfl _ _ (fun w hw => by (try dsimp only at hw); go_split_ands; assumption) (by assumption) rfl (by assumption)) (by assumption) ?_
    try simp only [Act.put, List.setIfInBounds_toArray, List.set_cons_zero, List.set_cons_succ]
    clear hu hsz1 hsz2
    refine wpAnyU_one (i := 7) (by kernel_rfl) rfl (fun K hK => ?_)
    go_simp
    go_at_call 62
    refine (branchText_any c.wd _ _ wd0 HSD.out.1 HSD.out.2.1 HSD.out.2.2.1 HSD.out.2.2.2).mono ?_
    rintro e w3 ⟨V, rfl, ho, hb3⟩
    have HB3 : Hid (Below wc.heap.size wc w3) := HB0.out.trans (hb3.mono HB0.out.size)
    rw [sides_text, ← HZ.out] at ho
    have HLW : Hid (wc.heap.size ≤ wd0.heap.size) := HB0.out.size
    obtain ⟨Ay, cy, hv3, _⟩ := ho.form
    subst hv3
    have HO3 := Lib.hid ho
    refine hK.out _ _ (fun _ => HSS.out _ HB3.out) ?_
    clear hK hb3 ho hH
    refine wpAnyU_one (i := 8) (o := ⟨some 29, _, _, _, _, _⟩) (by kernel_rfl) rfl (fun K hK => ?_)
    go_simp
    refine hK.out _ _ (fun _ => HSS.out _ (HB3.out.alloc HB3.out.size _)) ?_
    clear hK
    have HRW3 : Hid (Rws w3 base (.slice va vn vc) ys zf) := HRW.out.below HB3.out
    have HYO : Hid (OwnU w3 base (.slice Ay (zf (h + 1)).length cy) (zf ys.length)) := by
      rw [HYL.out]
      exact HO3.out.mono (by have h1 := (HRW.out.lt); have h2 := HGG.out.2; have h3 := BlkIs.lt HB4.out; have h4 := HLW.out; omega)
    have HYN : Hid (Apart (.slice va vn vc) (.slice Ay (zf (h + 1)).length cy)) := fun B hB hB' => by
      have h1 := (HRW.out.lt B (.inl hB)).2
      have h2 := (HO3.out.lt B hB').1
      have h3 := HLW.out
      omega
    have HYB : Hid (∀ B, (Value.slice Ay (zf (h + 1)).length cy).ownBlock = some B → w.heap.size ≤ B) := fun B hB => by
      have h2 := (HO3.out.lt B hB).1
      have h3 := HLW.out
      have h4 := HBw.out.size
      omega
    have hyl3 : ys.length + 1 ≤ 1073741825 := by rw [HYL.out]; omega
    have hbs3 : base ≤ w3.heap.size := by have h1 := HGG.out.2; have h2 := BlkIs.lt HB4.out; have h3 := HB3.out.size; omega
    refine wpAnyU_one (i := 9) (o := ⟨some 30, _, _, _, _, _⟩) (by kernel_rfl) rfl (fun K hK => ?_)
    refine wpOp_appendVal (t := 78) (e := 22) (o := ⟨some 30, _, _, _, _, _⟩) (by kernel_rfl) (by kernel_rfl) (by rfl) w3 (.tmp 21) (.tmp 29) rfl base (.slice va vn vc) ys HRW3.out.row (.slice Ay (zf (h + 1)).length cy) rfl rfl w3.heap.size rfl rfl hyl3 hbs3 ?_
    intro v4 w4 hr4 hg4 hl4
    obtain ⟨v4a, v4n, v4c, e4⟩ := row_form hr4
    subst e4
    have HRW4 : Hid (Rws w4 base (.slice v4a v4n v4c) (ys ++ [.slice Ay (zf (h + 1)).length cy]) zf) := HRW3.out.push HYO.out HYN.out hr4 hg4 hl4
    have HL4 : Hid (∀ B, RwsU (.slice v4a v4n v4c) (ys ++ [.slice Ay (zf (h + 1)).length cy]) B → RwsU (.slice va vn vc) ys B ∨ w.heap.size ≤ B) := fun B hB => by
      rcases RwsU.push hl4 B hB with h1 | h1 | h1
      · exact .inl h1
      · exact .inr (HYB.out B h1)
      · have h2 := HB3.out.size
        have h3 := HBw.out.size
        exact .inr (by omega)
    have hUv : ∀ B, some B = (Value.slice va vn vc).ownBlock → U B := fun B hB => (HU.out B).2 (.inr (.inr (.inl hB.symm)))
    have HT4 : Hid (Touch U w3 w4) := (Touch.grown hg4).mono fun B _ hB => hUv B hB
    have hn4 : (Value.slice va vn vc).ownBlock ≠ some B4 := row_blk HRW.out.row HB4.out (by decide)
    have hn1 : (Value.slice va vn vc).ownBlock ≠ some B1 := row_blk HRW.out.row HB1.out (by decide)
    have HB44 : Hid (BlkIs w4 B4 78 #[.slice va vn vc]) := (Touch.grown hg4).blk (BlkIs.below HB4.out HB3.out) fun e => hn4 e.symm
    have HB14 : Hid (BlkIs w4 B1 53 #[.pointer (some ⟨g, 0, none⟩)]) := (Touch.grown hg4).blk (BlkIs.below HB1.out HB3.out) fun e => hn1 e.symm
    have HR4 : Hid (Ready w4 g (c.blanked b) p) := (HRc.out.below HB3.out).far HT4.out HF.out
    have hr1 : w4.rangeAt a1 0 (bvs (sidesN c.key h d n).1) := BlkIs.range ((Touch.grown hg4).blk (BlkIs.below HA1.out HB3.out) fun e => by have h1 := HLU.out _ (hUv _ e); have h2 := HA.out.1; omega)
    have hr2 : w4.rangeAt a2 0 (bvs (sidesN c.key h d n).2) := BlkIs.range ((Touch.grown hg4).blk (BlkIs.below HA2.out HB3.out) fun e => by have h1 := HLU.out _ (hUv _ e); have h2 := HA.out.2; omega)
    have hc4 : w4.cell? ⟨B4, 0, none⟩ = some (.slice va vn vc) := BlkIs.cell HB44.out 0
    have hf4 : w4.frozen? ⟨B4, 0, none⟩ = false := BlkIs.frozen HB44.out 0
    have hS4 : w4.cell? ⟨B4, 0, none⟩ = some (.slice va vn vc) ∧ w4.cell? ⟨B1, 0, none⟩ = some (.pointer (some ⟨g, 0, none⟩)) ∧ w4.cell? ⟨g, 0, none⟩ = some (.int .i64 c.wd) ∧ w4.rangeAt a1 0 (bvs (sidesN c.key h d n).1) ∧ w4.rangeAt a2 0 (bvs (sidesN c.key h d n).2) :=
      ⟨hc4, BlkIs.cell HB14.out 0, (ck_cells (c := c.blanked b) HR4.out.ck HR4.out.ok).1, hr1, hr2⟩
    refine hK.out _ _ (fun _ => hS4) ?_
    clear hK hr1 hr2 hS4
    have HB45 : Hid (BlkIs (w4.setCell ⟨B4, 0, none⟩ (.slice v4a v4n v4c)) B4 78 #[.slice v4a v4n v4c]) := BlkIs.stored HB44.out 0 _
    have HT5 : Hid (Touch (fun B => B = B4) w4 (w4.setCell ⟨B4, 0, none⟩ (.slice v4a v4n v4c))) := Touch.one (grown_setCell _ _ _)
    refine wpAnyU_one (i := 10) (by kernel_rfl) rfl (fun K hK => ?_)
    go_simp
    refine hK.out _ _ (fun h => by cases h) ?_
    refine wpAnyU_done (by kernel_rfl) ?_ _
    clear hK hc4 hf4
    generalize w4.setCell ⟨B4, 0, none⟩ (.slice v4a v4n v4c) = w5 at *
    go_wp2_with fail
    have hU4 : U B4 := (HU.out B4).2 (.inl rfl)
    have hU1 : U B1 := (HU.out B1).2 (.inr (.inl rfl))
    have ht35 : Touch U w3 w5 := HT4.out.trans (HT5.out.mono fun B _ hB => hB ▸ hU4)
    have hnu : NewU w U (fun B => B = B4 ∨ B = B1 ∨ RwsU (.slice v4a v4n v4c) (ys ++ [.slice Ay (zf (h + 1)).length cy]) B) := fun B hB => by
      rcases hB with rfl | rfl | hB
      · exact .inl hU4
      · exact .inl hU1
      · rcases HL4.out B hB with h1 | h1
        · exact .inl ((HU.out B).2 (.inr (.inr h1)))
        · exact .inr h1
    have hnt : ∀ B, B = B4 → ¬ RwsU (.slice v4a v4n v4c) (ys ++ [.slice Ay (zf (h + 1)).length cy]) B := fun B hB => hB ▸ HRW4.out.not HB44.out (by decide) (by decide)
    have hb11 : B1 ≠ B4 := fun e => by
      have h1 : wc.heap[B4]? = _ := HB4.out
      have h2 : wc.heap[B1]? = _ := HB1.out
      rw [e, h1] at h2
      injection h2 with h2
      injection h2 with _ h2
      revert h2
      decide
    have htw : Touch U w w5 := (((Touch.ofBelow (HBw.out.trans (HB3.out.mono HBw.out.size))).mono fun _ _ h => h.elim)).trans ht35
    exact bodyPost_end (results_none rfl _ _ _) rfl ⟨rfl, fun B => B = B4 ∨ B = B1 ∨ RwsU (.slice v4a v4n v4c) (ys ++ [.slice Ay (zf (h + 1)).length cy]) B, b,
      ⟨.slice v4a v4n v4c, ys ++ [.slice Ay (zf (h + 1)).length cy], HB45.out, HT5.out.blk HB14.out hb11, HRW4.out.touch HT5.out hnt, by rw [List.length_append, HYL.out]; rfl, HGG.out.1, HGG.out.2, fun B => Iff.rfl⟩,
      HR4.out.far HT5.out (HF.out.mono fun B hB => hB ▸ hU4), .inl rfl, htw.mono fun B _ h => .inl h, hnu, HF.out.same HR.out hnu⟩
end Go.Proofs.YtfnlhfaihoojfaaDoor
