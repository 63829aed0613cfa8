/- ledgerlaw1.DigestPlays: place and joins. -/
import Derived.Test.YtadhjgopekekgaaDoorRowInv
import Derived.Test.YtadhjgopekekgaaDoorRoomF
namespace Go.Proofs.YtadhjgopekekgaaDoor
open Go.RowKit
section
variable {P : Program}
/-- 'l = append(l, x)' of one value of one cell: it lies in a new block of its own first. -/
theorem append1V {t e : TypeId} {z : Value} {by_ : Nat} (ht : P.underlying t = some (.slice e)) (hinfo : (P.info? e).map (fun i => (i.zero, i.size, i.bytes)) = some (some z, 1, by_)) (hzs : z.cells.size = 1)
    {ops : Array Oper} {rest : List Oper} {o : Oper} {a : Act} {Q : Exit → Act → World → Prop} (w : World) (hgd : o.guard = none) (s x : Operand)
    (ho : o.op = .call { callee := .builtin .append, args := #[s, x], argTypes := #[t, t] })
    (base : Nat) (v : Value) (n : Nat) (xs : List Value) (hown : w.ownsRow base e 1 v n xs) (u : Value) (hu : u.oneCell' = true) (hs : a.eval s = v) (b : Nat) (hb : b = w.heap.size) (hx : a.eval x = .slice (some ⟨b, 0, none⟩) 1 1)
    (hlen : (n + 1) * by_ ≤ 140737488355328) (hm : n + 1 ≤ 140737488355328) (hbase : base ≤ w.heap.size)
    (h : ∀ v' w', w'.ownsRow base e 1 v' (n + 1) (xs ++ [u]) → w.grownBy w' v.ownBlock → Lies w v v' → wpList P ops Q rest (a.put o.dst v') w') :
    wpList P ops Q (o :: rest) a (w.alloc (.cells #[u] e)) := by
  subst hb
  obtain ⟨i, hi, hz, hs1, hby⟩ := info_parts hinfo
  refine wpList_append_own_at (w.alloc (.cells #[u] e)) hgd s x t ho base e i z 1 by_ ht hi hz hs1 hby hzs (by decide) v n xs hs (hown.alloc _)
    ⟨w.heap.size, 0, none⟩ 1 1 [u] hx rfl (cell_one_new w u e) ?_ (by unfold maxLen; omega) hlen (by simp; omega) ?_
  · intro y hy
    simp at hy
    subst hy
    exact hu
  · intro v' w' h1 h2 _ h4
    refine h v' w' h1 (grown_trans (World.grownBy_alloc _ _ _) h2) ?_
    intro k hk
    rcases h4 with h4 | h4
    · rw [h4] at hk
      exact .inl hk
    · rw [h4] at hk
      injection hk with hk
      simp at hk
      exact .inr (by omega)
/-- The same, as a run: for a region that draws its order. -/
theorem append1V_run {t e : TypeId} {z : Value} {by_ : Nat} (ht : P.underlying t = some (.slice e)) (hinfo : (P.info? e).map (fun i => (i.zero, i.size, i.bytes)) = some (some z, 1, by_)) (hzs : z.cells.size = 1)
    {o : Oper} {a : Act} (w : World) (s x : Operand) (ho : o.op = .call { callee := .builtin .append, args := #[s, x], argTypes := #[t, t] })
    (base : Nat) (v : Value) (n : Nat) (xs : List Value) (hown : w.ownsRow base e 1 v n xs) (u : Value) (hu : u.oneCell' = true) (hs : a.eval s = v) (hx : a.eval x = .slice (some ⟨w.heap.size, 0, none⟩) 1 1)
    (hlen : (n + 1) * by_ ≤ 140737488355328) (hm : n + 1 ≤ 140737488355328) (hbase : base ≤ w.heap.size) :
    ∃ v' w', (execOp a.eval o).run P (w.alloc (.cells #[u] e)) = .ok (.value v') w' ∧ w'.ownsRow base e 1 v' (n + 1) (xs ++ [u]) ∧ w.grownBy w' v.ownBlock ∧ Lies w v v' := by
  obtain ⟨i, hi, hz, hs1, hby⟩ := info_parts hinfo
  obtain ⟨v', w', hr, h1, h2, _, h4⟩ := run_append_own_at (P := P) (w.alloc (.cells #[u] e)) base t o.type e i z 1 by_ ht hi hz hs1 hby hzs (by decide) v n xs (hown.alloc _)
    ⟨w.heap.size, 0, none⟩ 1 1 [u] rfl (cell_one_new w u e) (by intro y hy; simp at hy; subst hy; exact hu) (by unfold maxLen; omega) hlen (by simp; omega)
  refine ⟨v', w', ?_, h1, grown_trans (World.grownBy_alloc _ _ _) h2, ?_⟩
  · unfold execOp
    simp only [ho, resolve, invoke, builtin, Sem.run_bind, Sem.run_pure, Result.andThen_ok, List.map_toArray, List.map_cons, List.map_nil, hs, hx, hr]
  · intro k hk
    rcases h4 with h4 | h4
    · rw [h4] at hk
      exact .inl hk
    · rw [h4] at hk
      injection hk with hk
      simp at hk
      exact .inr (by omega)
theorem wpOp_of_run {ops : Array Oper} {Q : Exit → Act → World → Prop} {i : Nat} {o : Oper} {a : Act} {w w' : World} {v : Value} {K : Act → World → Prop} (hi : ops[i]? = some o) (hw : Region.wanted o (yielded ops a.tmps) = true)
    (hr : (execOp a.eval o).run P w = .ok (.value v) w') (h : K (a.put o.dst v) w') : wpOp P ops Q i K a w := by
  unfold wpOp
  simp only [hi, hw, if_true, Oper.wp, hr, Oper.upon]
  exact .inl h
theorem wpOp_append1V {t e : TypeId} {z : Value} {by_ : Nat} (ht : P.underlying t = some (.slice e)) (hinfo : (P.info? e).map (fun i => (i.zero, i.size, i.bytes)) = some (some z, 1, by_)) (hzs : z.cells.size = 1)
    {ops : Array Oper} {Q : Exit → Act → World → Prop} {K : Act → World → Prop} {o : Oper} {a : Act} (hw : Region.wanted o (yielded ops a.tmps) = true) (w : World) (s x : Operand) (ho : o.op = .call { callee := .builtin .append, args := #[s, x], argTypes := #[t, t] })
    (base : Nat) (v : Value) (n : Nat) (xs : List Value) (hown : w.ownsRow base e 1 v n xs) (u : Value) (hu : u.oneCell' = true) (hs : a.eval s = v) (hx : a.eval x = .slice (some ⟨w.heap.size, 0, none⟩) 1 1)
    (hlen : (n + 1) * by_ ≤ 140737488355328) (hm : n + 1 ≤ 140737488355328) (hbase : base ≤ w.heap.size)
    (h : ∀ v' w', w'.ownsRow base e 1 v' (n + 1) (xs ++ [u]) → w.grownBy w' v.ownBlock → Lies w v v' → K (a.put o.dst v') w') :
    if Region.wanted o (yielded ops a.tmps) = true then o.wp P a (w.alloc (.cells #[u] e)) K Q else K (a.put o.dst undef) (w.alloc (.cells #[u] e)) := by
  obtain ⟨v', w', hr, h1, h2, h3⟩ := append1V_run ht hinfo hzs w s x ho base v n xs hown u hu hs hx hlen hm hbase
  rw [if_pos hw]
  unfold Oper.wp
  rw [hr]
  exact h v' w' h1 h2 h3
end

section
variable {w0 w w1 w' : World} {K : Nat → Nat} {r n m : Nat} {vh vt : Value} {held : Int} {G : Nat → Nat} {T U : Nat → List Nat} {V : Nat → Value}
theorem RowInv.c0 (h : RowInv w0 K r vh vt held n m G T U V w) : w.cell? ⟨r, 0, none⟩ = some vh := h.blk.cell 0
theorem RowInv.c1 (h : RowInv w0 K r vh vt held n m G T U V w) : w.cell? ⟨r, 1, none⟩ = some vt := h.blk.cell 1
theorem RowInv.c2 (h : RowInv w0 K r vh vt held n m G T U V w) : w.cell? ⟨r, 2, none⟩ = some (.int .i64 held) := h.blk.cell 2
end
theorem tmod_bounds (o : Int) (n : Nat) (h : 0 < n) : -(n : Int) < o.tmod n ∧ o.tmod n < n := by
  have h1 := Int.tmod_lt_of_pos o (show (0 : Int) < n by omega)
  have h2 : -(n : Int) < o.tmod n := by
    have := Int.tmod_lt_of_pos (-o) (show (0 : Int) < n by omega)
    rw [Int.neg_tmod] at this
    omega
  exact ⟨h2, h1⟩
set_option maxRecDepth 100000 in
theorem place_any {w0 w : World} {K : Nat → Nat} {r n m : Nat} {vh vt : Value} {held : Int} {G : Nat → Nat} {T U : Nat → List Nat} {V : Nat → Value} (o : Int) (hI : RowInv w0 K r vh vt held n m G T U V w) (hn : 0 < n) (hn2 : n ≤ 1000000) :
    Calls Tryd.prog 26 #[.pointer (some ⟨r, 0, none⟩), .int .i64 o] w fun e w' => (∃ i : Nat, i < n ∧ e = .returned (.int .i64 (i : Int))) ∧ Below w.heap.size w w' := by
  obtain ⟨g, c, hv, _⟩ := row_shape hI.oh hn
  have c0 := hI.c0
  rw [hv] at c0
  clear hI hv
  have hb := tmod_bounds o n hn
  go_enter Tryd.func26, Tryd.ntmps26
  go_wp2_with fail
  all_goals
    go_ret
    first
      | exact ⟨⟨(o.tmod ↑n).toNat, by omega, ret_int (by omega)⟩, Below.refl _ _⟩
      | exact ⟨⟨(o.tmod ↑n + ↑n).toNat, by omega, ret_int (by omega)⟩, Below.refl _ _⟩
theorem info_ptr : (Tryd.prog.info? 41).map (fun i => (i.zero, i.size, i.bytes)) = some (some (.pointer none), 1, 8) := by kernel_rfl
theorem info_bytes : (Tryd.prog.info? 26).map (fun i => (i.zero, i.size, i.bytes)) = some (some (.slice none 0 0), 1, 24) := by kernel_rfl
theorem und_ptrs : Tryd.prog.underlying 37 = some (.slice 41) := by kernel_rfl
theorem und_texts : Tryd.prog.underlying 35 = some (.slice 26) := by kernel_rfl
def JoinPost (w0 : World) (r : Nat) (held : Int) (n : Nat) (G : Nat → Nat) (T U : Nat → List Nat) (w : World) (e : Ending) (w' : World) : Prop :=
  e = .returned (.bool true) ∧ w.heap.size ≤ w'.heap.size ∧ ∃ K vh vt V, RowInv w0 K r vh vt held n n G T U V w'
set_option maxRecDepth 100000 in
set_option maxHeartbeats 4000000 in
theorem joins_any {w0 w : World} {K : Nat → Nat} {r n : Nat} {vh vt : Value} {held : Int} {G : Nat → Nat} {T U : Nat → List Nat} {V : Nat → Value} (hI : RowInv w0 K r vh vt held n n G T U V w) (hn2 : n ≤ 1000000)
    (g : Nat) (ys : List Nat) (hlo : w0.heap.size ≤ g) (hkg : K g = 3 + 2 * n) (hh : HashIs w g ys) (A : Option Addr) (L c : Nat) (hA : A = none → c = 0) (hL : L ≤ 2147483647) (h0 : 0 ≤ held) (h1 : held ≤ 2147483647)
    (hx : ∀ K' vh' held' W, RowInv w0 K' r vh' vt held' (n + 1) n (upd G n g) (upd T n ys) U V W → RB W A L ys) :
    Calls Tryd.prog 15 #[.pointer (some ⟨r, 0, none⟩), .pointer (some ⟨g, 0, none⟩), .slice A L c] w (JoinPost w0 r (held + L) (n + 1) (upd G n g) (upd T n ys) (upd U n ys) w) := by
  obtain ⟨KT, hKT⟩ : ∃ KT, KT = K := ⟨K, rfl⟩
  rw [← hKT] at hI hkg
  clear hKT
  have HI := Lib.hid hI
  have HI1 := Lib.hid (hI.putHeld (held + L))
  have c2 := hI.c2
  have f2 := hI.blk.frozen 2
  have c0 := (hI.putHeld (held + L)).c0
  have HH : Hid (HashIs (w.setCell ⟨r, 2, none⟩ (.int .i64 (held + L))) g ys) := hh.grown (grown_setCell w 2 _) (fun e => by injection e with e; have := hI.kr; rw [← e] at this; omega)
  have hs : w.heap.size ≤ (w.setCell ⟨r, 2, none⟩ (.int .i64 (held + L))).heap.size := (grown_setCell w (g := r) 2 (.int .i64 (held + L))).size
  have HX := Lib.hid hx
  clear hI hh hx
  go_enter Tryd.func15, Tryd.ntmps15
  go_wp2_with (first
    | (refine append1V (o := ⟨some 26, _, _, _, _, _⟩) und_ptrs info_ptr rfl _ rfl (.tmp 23) (.tmp 25) rfl w0.heap.size vh n _ HI1.out.oh (ptr g) rfl rfl w.heap.size (by simp [World.setCell]) rfl (by omega) (by omega) HI1.out.below.size ?_; intro v1 w1 ho1 hg1 hl1; obtain ⟨gh, ch, hv1, _⟩ := row_shape ho1 (by omega); subst hv1; have HI2 := Lib.hid (HI1.out.addHash hlo hkg HH.out ho1 hg1 hl1); have f0 := (HI1.out.blk.grown hg1 (tag_ne1 HI1.out.kr HI1.out.kh (by omega))).frozen 0; have hs1 := hg1.size; have c1 := HI2.out.c1; have d0 := (HI1.out.blk.grown hg1 (tag_ne1 HI1.out.kr HI1.out.kh (by omega))).cell 0; clear ho1 hg1 hl1))
  rename_i KK hKK
  have HKK := Lib.hid hKK
  clear hKK
  clear c2 f2 c0 f0 d0
  generalize hw2 : w1.setCell ⟨r, 0, none⟩ (Value.slice (some ⟨gh, 0, none⟩) (n + 1) ch) = w2 at *
  have hu := Tryd.underlying35
  refine wp_region_held_drew (S := fun _ => True) (by kernel_rfl) trivial fun _ => ?_
  have HI3 := Lib.hid ((HI2.out.later (drewN_below (Below.refl _ _) 1)).retag (4 + 2 * n))
  have hz3 : w.heap.size ≤ (w2.drewN 1).heap.size := by rw [← hw2]; exact Nat.le_trans (Nat.le_trans hs hs1) (grown_setCell w1 (g := r) 0 _).size
  have HT3 : Hid (∀ k, (w2.drewN 1).heap.size ≤ k → tagged (w2.drewN 1) (tagged (w.setCell ⟨r, 2, none⟩ (.int .i64 (held + L))) KT 1) (4 + 2 * n) k = 4 + 2 * n) := fun k hk => tagged_new hk
  refine wpAnyH_take (i := 0) (oi := ⟨some 29, _, _, _, _, _⟩) rfl (by kernel_rfl) (by kernel_rfl) (by kernel_rfl) (fun _ _ _ h => h) (Or.inl ⟨by rfl, fun w hw => by (try dsimp only at hw); go_simp; with_reducible rfl⟩) (by assumption) ?_
  try simp only [Act.put, List.setIfInBounds_toArray, List.set_cons_zero, List.set_cons_succ]
  refine wpAnyH_take (i := 1) (oi := ⟨some 30, _, _, _, _, _⟩) rfl (by kernel_rfl) (by kernel_rfl) (by kernel_rfl) (fun _ _ _ h => h) (Or.inl ⟨by rfl, fun w hw => by (try dsimp only at hw); go_simp; with_reducible rfl⟩) (by assumption) ?_
  try simp only [Act.put, List.setIfInBounds_toArray, List.set_cons_zero, List.set_cons_succ]
  refine wpAnyH_take (i := 2) (oi := ⟨some 31, _, _, _, _, _⟩) rfl (by kernel_rfl) (by kernel_rfl) (by kernel_rfl) (fun _ _ _ h => h) (Or.inl ⟨by rfl, fun w hw => by (try dsimp only at hw); go_simp; with_reducible rfl⟩) (by assumption) ?_
  try simp only [Act.put, List.setIfInBounds_toArray, List.set_cons_zero, List.set_cons_succ]
  refine wpAnyH_take (i := 3) (oi := ⟨some 32, _, _, _, _, _⟩) rfl (by kernel_rfl) (by kernel_rfl) (by kernel_rfl) (fun _ _ _ h => h) (Or.inl ⟨by rfl, fun w hw => by (try dsimp only at hw); go_simp; with_reducible rfl⟩) (by assumption) ?_
  try simp only [Act.put, List.setIfInBounds_toArray, List.set_cons_zero, List.set_cons_succ]
  refine wpAnyH_take (i := 5) (oi := ⟨some 34, _, _, _, _, _⟩) rfl (by kernel_rfl) (by kernel_rfl) (by kernel_rfl) (fun _ _ _ h => h) (Or.inl ⟨by rfl, fun w hw => by (try dsimp only at hw); go_simp; with_reducible rfl⟩) (by assumption) ?_
  try simp only [Act.put, List.setIfInBounds_toArray, List.set_cons_zero, List.set_cons_succ]
  have HCO := Lib.hid (copied_any A L c ys (w2.drewN 1) (HX.out _ _ _ _ (HI2.out.later (drewN_below (Below.refl _ _) 1))) hA (by omega))
  refine wpAnyH_ready (rs := [4, 6]) (by kernel_rfl) (by simp) ?_
  refine AllReadyH.cons rfl (fun K hK => ?_) (AllReadyH.cons rfl (fun K hK => ?_) AllReadyH.nil)
  · go_simp
    refine hK.out _ _ trivial (fun _ => ?_)
    clear hK
    refine wpAnyH_ready (rs := [6]) (by kernel_rfl) (by simp) ?_
    refine AllReadyH.cons rfl (fun K hK => ?_) (AllReadyH.nil)
    go_simp
    refine HCO.out.mono ?_
    rintro e w4 ⟨vc, rfl, hoc, hbc⟩
    refine hK.out _ _ trivial (fun _ => ?_)
    clear hK
    obtain ⟨A4, d4, hvc, _⟩ := hoc.form
    subst hvc
    have HI4 := Lib.hid (HI3.out.later hbc)
    have HOC := Lib.hid (hoc.mono (base' := w0.heap.size) HI3.out.below.size)
    have HKU : Hid (∀ k, (Value.slice A4 ys.length d4).ownBlock = some k → tagged (w2.drewN 1) (tagged (w.setCell ⟨r, 2, none⟩ (.int .i64 (held + L))) KT 1) (4 + 2 * n) k = 4 + 2 * n) := fun k hk => HT3.out k (hoc.lt k hk).1
    refine wpAnyH_ready (rs := [7]) (by kernel_rfl) (by simp) ?_
    refine AllReadyH.cons rfl (fun K hK => ?_) (AllReadyH.nil)
    go_simp
    refine hK.out _ _ trivial (fun _ => ?_)
    clear hK
    refine wpAnyH_ready (rs := [8]) (by kernel_rfl) (by simp) ?_
    refine AllReadyH.cons (o := ⟨some 37, _, _, _, _, _⟩) rfl (fun K hK3 => ?_) (AllReadyH.nil)
    refine wpOp_append1V (o := ⟨some 37, _, _, _, _, _⟩) und_texts info_bytes rfl ?hw1 w4 (.tmp 33) (.tmp 36) rfl w0.heap.size vt n _ HI4.out.ot (Value.slice A4 ys.length d4) rfl ?hs1 ?hx1 (by omega) (by omega) HI4.out.below.size ?hh1
    case hw1 => kernel_rfl
    case hs1 => rfl
    case hx1 => rfl
    intro v5 w5 ho5 hg5 hl5
    obtain ⟨gt, ct, hv5, _⟩ := row_shape ho5 (by omega)
    subst hv5
    have HI6 := Lib.hid (HI4.out.addText HOC.out HKU.out ho5 hg5 hl5)
    have b5 := HI4.out.blk.grown hg5 (tag_ne1 HI4.out.kr HI4.out.kt (by omega))
    have hz5 := hg5.size
    have hz4 := hbc.size
    have f1 := b5.frozen 1
    have d1 : w5.cell? ⟨r, 1, none⟩ = some vt := b5.cell 1
    refine hK3.out _ _ trivial (fun _ => ?_)
    clear hK3
    refine wpAnyH_take (i := 9) (oi := ⟨some 38, _, _, _, _, _⟩) rfl (by kernel_rfl) (by kernel_rfl) (by kernel_rfl) (fun _ _ _ h => h) (Or.inl ⟨by rfl, fun w hw => by (try dsimp only at hw); go_simp; with_reducible rfl⟩) (by assumption) ?_
    try simp only [Act.put, List.setIfInBounds_toArray, List.set_cons_zero, List.set_cons_succ]
    refine wpAnyH_take (i := 10) (oi := ⟨some 39, _, _, _, _, _⟩) rfl (by kernel_rfl) (by kernel_rfl) (by kernel_rfl) (fun _ _ _ h => h) (Or.inl ⟨by rfl, fun w hw => by (try dsimp only at hw); go_simp; with_reducible rfl⟩) (by assumption) ?_
    try simp only [Act.put, List.setIfInBounds_toArray, List.set_cons_zero, List.set_cons_succ]
    refine wpAnyH_ready (rs := [11]) (by kernel_rfl) (by simp) ?_
    refine AllReadyH.cons rfl (fun K hK4 => ?_) (AllReadyH.nil)
    go_simp
    refine hK4.out _ _ trivial (fun _ => ?_)
    clear hK4
    refine wpAnyH_done (by kernel_rfl) ?_ _
    change KK _ _
    refine HKK.out _ _ ?_
    go_wp2_with fail
    go_ret
    refine ⟨rfl, ?_, _, _, _, _, HI6.out⟩
    have := (grown_setCell w5 (g := r) 1 (Value.slice (some ⟨gt, 0, none⟩) (n + 1) ct)).size
    omega
  · go_simp
    refine HCO.out.mono ?_
    rintro e w4 ⟨vc, rfl, hoc, hbc⟩
    refine hK.out _ _ trivial (fun _ => ?_)
    clear hK
    obtain ⟨A4, d4, hvc, _⟩ := hoc.form
    subst hvc
    have HI4 := Lib.hid (HI3.out.later hbc)
    have HOC := Lib.hid (hoc.mono (base' := w0.heap.size) HI3.out.below.size)
    have HKU : Hid (∀ k, (Value.slice A4 ys.length d4).ownBlock = some k → tagged (w2.drewN 1) (tagged (w.setCell ⟨r, 2, none⟩ (.int .i64 (held + L))) KT 1) (4 + 2 * n) k = 4 + 2 * n) := fun k hk => HT3.out k (hoc.lt k hk).1
    have e1 := HI4.out.c1
    refine wpAnyH_ready (rs := [4, 7]) (by kernel_rfl) (by simp) ?_
    refine AllReadyH.cons rfl (fun K hK => ?_) (AllReadyH.cons rfl (fun K hK => ?_) AllReadyH.nil)
    · go_simp
      refine hK.out _ _ trivial (fun _ => ?_)
      clear hK
      refine wpAnyH_ready (rs := [7]) (by kernel_rfl) (by simp) ?_
      refine AllReadyH.cons rfl (fun K hK => ?_) (AllReadyH.nil)
      go_simp
      refine hK.out _ _ trivial (fun _ => ?_)
      clear hK
      refine wpAnyH_ready (rs := [8]) (by kernel_rfl) (by simp) ?_
      refine AllReadyH.cons (o := ⟨some 37, _, _, _, _, _⟩) rfl (fun K hK3 => ?_) (AllReadyH.nil)
      refine wpOp_append1V (o := ⟨some 37, _, _, _, _, _⟩) und_texts info_bytes rfl ?hw2 w4 (.tmp 33) (.tmp 36) rfl w0.heap.size vt n _ HI4.out.ot (Value.slice A4 ys.length d4) rfl ?hs2 ?hx2 (by omega) (by omega) HI4.out.below.size ?hh2
      case hw2 => kernel_rfl
      case hs2 => rfl
      case hx2 => rfl
      intro v5 w5 ho5 hg5 hl5
      obtain ⟨gt, ct, hv5, _⟩ := row_shape ho5 (by omega)
      subst hv5
      have HI6 := Lib.hid (HI4.out.addText HOC.out HKU.out ho5 hg5 hl5)
      have b5 := HI4.out.blk.grown hg5 (tag_ne1 HI4.out.kr HI4.out.kt (by omega))
      have hz5 := hg5.size
      have hz4 := hbc.size
      have f1 := b5.frozen 1
      have d1 : w5.cell? ⟨r, 1, none⟩ = some vt := b5.cell 1
      refine hK3.out _ _ trivial (fun _ => ?_)
      clear hK3
      refine wpAnyH_take (i := 9) (oi := ⟨some 38, _, _, _, _, _⟩) rfl (by kernel_rfl) (by kernel_rfl) (by kernel_rfl) (fun _ _ _ h => h) (Or.inl ⟨by rfl, fun w hw => by (try dsimp only at hw); go_simp; with_reducible rfl⟩) (by assumption) ?_
      try simp only [Act.put, List.setIfInBounds_toArray, List.set_cons_zero, List.set_cons_succ]
      refine wpAnyH_take (i := 10) (oi := ⟨some 39, _, _, _, _, _⟩) rfl (by kernel_rfl) (by kernel_rfl) (by kernel_rfl) (fun _ _ _ h => h) (Or.inl ⟨by rfl, fun w hw => by (try dsimp only at hw); go_simp; with_reducible rfl⟩) (by assumption) ?_
      try simp only [Act.put, List.setIfInBounds_toArray, List.set_cons_zero, List.set_cons_succ]
      refine wpAnyH_ready (rs := [11]) (by kernel_rfl) (by simp) ?_
      refine AllReadyH.cons rfl (fun K hK4 => ?_) (AllReadyH.nil)
      go_simp
      refine hK4.out _ _ trivial (fun _ => ?_)
      clear hK4
      refine wpAnyH_done (by kernel_rfl) ?_ _
      change KK _ _
      refine HKK.out _ _ ?_
      go_wp2_with fail
      go_ret
      refine ⟨rfl, ?_, _, _, _, _, HI6.out⟩
      have := (grown_setCell w5 (g := r) 1 (Value.slice (some ⟨gt, 0, none⟩) (n + 1) ct)).size
      omega
    · go_simp
      refine hK.out _ _ trivial (fun _ => ?_)
      clear hK
      have e2 : (w4.alloc (.cells #[Value.slice A4 ys.length d4] 26)).cell? ⟨r, 1, none⟩ = some vt := (HI4.out.later ((Below.refl _ _).alloc (Nat.le_refl _) _)).c1
      clear e1
      refine wpAnyH_ready (rs := [4]) (by kernel_rfl) (by simp) ?_
      refine AllReadyH.cons rfl (fun K hK => ?_) (AllReadyH.nil)
      go_simp
      refine hK.out _ _ trivial (fun _ => ?_)
      clear hK
      refine wpAnyH_ready (rs := [8]) (by kernel_rfl) (by simp) ?_
      refine AllReadyH.cons (o := ⟨some 37, _, _, _, _, _⟩) rfl (fun K hK3 => ?_) (AllReadyH.nil)
      refine wpOp_append1V (o := ⟨some 37, _, _, _, _, _⟩) und_texts info_bytes rfl ?hw3 w4 (.tmp 33) (.tmp 36) rfl w0.heap.size vt n _ HI4.out.ot (Value.slice A4 ys.length d4) rfl ?hs3 ?hx3 (by omega) (by omega) HI4.out.below.size ?hh3
      case hw3 => kernel_rfl
      case hs3 => rfl
      case hx3 => rfl
      intro v5 w5 ho5 hg5 hl5
      obtain ⟨gt, ct, hv5, _⟩ := row_shape ho5 (by omega)
      subst hv5
      have HI6 := Lib.hid (HI4.out.addText HOC.out HKU.out ho5 hg5 hl5)
      have b5 := HI4.out.blk.grown hg5 (tag_ne1 HI4.out.kr HI4.out.kt (by omega))
      have hz5 := hg5.size
      have hz4 := hbc.size
      have f1 := b5.frozen 1
      have d1 : w5.cell? ⟨r, 1, none⟩ = some vt := b5.cell 1
      refine hK3.out _ _ trivial (fun _ => ?_)
      clear hK3
      refine wpAnyH_take (i := 9) (oi := ⟨some 38, _, _, _, _, _⟩) rfl (by kernel_rfl) (by kernel_rfl) (by kernel_rfl) (fun _ _ _ h => h) (Or.inl ⟨by rfl, fun w hw => by (try dsimp only at hw); go_simp; with_reducible rfl⟩) (by assumption) ?_
      try simp only [Act.put, List.setIfInBounds_toArray, List.set_cons_zero, List.set_cons_succ]
      refine wpAnyH_take (i := 10) (oi := ⟨some 39, _, _, _, _, _⟩) rfl (by kernel_rfl) (by kernel_rfl) (by kernel_rfl) (fun _ _ _ h => h) (Or.inl ⟨by rfl, fun w hw => by (try dsimp only at hw); go_simp; with_reducible rfl⟩) (by assumption) ?_
      try simp only [Act.put, List.setIfInBounds_toArray, List.set_cons_zero, List.set_cons_succ]
      refine wpAnyH_ready (rs := [11]) (by kernel_rfl) (by simp) ?_
      refine AllReadyH.cons rfl (fun K hK4 => ?_) (AllReadyH.nil)
      go_simp
      refine hK4.out _ _ trivial (fun _ => ?_)
      clear hK4
      refine wpAnyH_done (by kernel_rfl) ?_ _
      change KK _ _
      refine HKK.out _ _ ?_
      go_wp2_with fail
      go_ret
      refine ⟨rfl, ?_, _, _, _, _, HI6.out⟩
      have := (grown_setCell w5 (g := r) 1 (Value.slice (some ⟨gt, 0, none⟩) (n + 1) ct)).size
      omega
end Go.Proofs.YtadhjgopekekgaaDoor
