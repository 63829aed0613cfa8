/- App, AppRB, Mem (merged by merge_k.py) -/
import Derived.Test.YtkpbeibcfaenhaaLib2
import Derived.Maps.AppendAt
import Derived.Test.YtkpbeibcfaenhaaArr
import Derived.Test.YtkpbeibcfaenhaaBits
/- 'l = append(l, x)' of one byte where several lists grow side by side. No program is named here. -/
namespace Go.Proofs.Ytkpbeibcfaenhaa
open Go.RowKit
/-- Two values do not hold one block. -/
def Apart (v u : Value) : Prop := ∀ k, v.ownBlock = some k → u.ownBlock ≠ some k
theorem Apart.symm' {v u : Value} (h : Apart v u) : Apart u v := fun k hk hv => h k hv hk
theorem apart_nil (c n : Nat) (u : Value) : Apart (.slice none n c) u := fun k hk => by cases hk
/-- Where a grown list lies: where it lay, or in new memory. -/
def Lies (w : World) (v v' : Value) : Prop := ∀ k, v'.ownBlock = some k → v.ownBlock = some k ∨ w.heap.size ≤ k
theorem apart_step {w : World} {v v' u : Value} (h : Apart v u) (hl : Lies w v v') (hu : ∀ k, u.ownBlock = some k → k < w.heap.size) : Apart v' u := by
  intro k hk hu'
  rcases hl k hk with h1 | h1
  · exact h k h1 hu'
  · have := hu k hu'
    omega
theorem kept_apart {e : TypeId} {w w' : World} {base : Nat} {v u : Value} {xs : List Nat} (h : Own e w base u xs) (hg : w.grownBy w' v.ownBlock) (ha : Apart v u) : Own e w' base u xs := by
  refine h.kept hg ?_
  rcases hb : u.ownBlock with _ | k
  · exact .inl rfl
  · exact .inr fun e => ha k e.symm hb
section
variable {P : Program}
theorem append1At {t e : TypeId} (ht : P.underlying t = some (.slice e)) (hinfo : (P.info? e).map (fun i => (i.zero, i.size, i.bytes)) = some (some (.int .u8 0), 1, 1))
    {ops : Array Oper} {rest : List Oper} {o : Oper} {a : Act} {Q : Exit → Act → World → Prop} (w : World) (hgd : o.guard = none) (s x : Operand)
    (ho : o.op = .call { callee := .builtin .append, args := #[s, x], argTypes := #[t, t] })
    (base : Nat) (v : Value) (xs : List Nat) (hown : Own e w base v xs) (b : Nat) (hb : b < 256) (hs : a.eval s = v) (hx : a.eval x = .slice (some ⟨w.heap.size, 0, none⟩) 1 1)
    (hlen : xs.length + 1 ≤ 140737488355328) (hbase : base ≤ w.heap.size)
    (h : ∀ v' w', Own e w' base v' (xs ++ [b]) → w.grownBy w' v.ownBlock → Lies w v v' → wpList P ops Q rest (a.put o.dst v') w') :
    wpList P ops Q (o :: rest) a (w.alloc (.cells #[.int .u8 (b : Int)] e)) := by
  obtain ⟨i, hi, hz0, hz1, hz2⟩ := info_parts hinfo
  refine wpList_append_own_at (w.alloc (.cells #[.int .u8 (b : Int)] e)) hgd s x t ho base e i (.int .u8 0) 1 1 ht hi hz0 hz1 hz2 rfl (by decide) v xs.length (bvs xs) hs (hown.1.alloc _)
    ⟨w.heap.size, 0, none⟩ 1 1 (bvs [b]) hx rfl (cell_one_new w (.int .u8 (b : Int)) e) ?_ (by unfold maxLen; omega) (by omega) (by simp; omega) ?_
  · intro u hu
    simp [bvs, bv] at hu
    subst hu
    rfl
  · intro v' w' h1 h2 _ h4
    refine h v' w' ⟨by simpa [bvs] using h1, hown.2.app (IsB.one hb)⟩ (grown_trans (World.grownBy_alloc _ _ _) h2) ?_
    intro k hk
    rcases h4 with h4 | h4
    · rw [h4] at hk
      exact .inl hk
    · rw [h4] at hk
      injection hk with hk
      simp at hk
      exact .inr (by omega)
end
end Go.Proofs.Ytkpbeibcfaenhaa

/- 'l = append(l, src...)' where several lists grow side by side. No program is named here. -/
namespace Go.Proofs.Ytkpbeibcfaenhaa
open Go.RowKit
section
variable {P : Program}
theorem Lies.refl (w : World) (v : Value) : Lies w v v := fun _ h => .inl h
theorem appendRBAt {t e : TypeId} (ht : P.underlying t = some (.slice e)) (hinfo : (P.info? e).map (fun i => (i.zero, i.size, i.bytes)) = some (some (.int .u8 0), 1, 1))
    {ops : Array Oper} {rest : List Oper} {o : Oper} {a : Act} {Q : Exit → Act → World → Prop} (w : World) (hgd : o.guard = none) (s x : Operand)
    (ho : o.op = .call { callee := .builtin .append, args := #[s, x], argTypes := #[t, t] })
    (base : Nat) (v : Value) (xs : List Nat) (hown : Own e w base v xs) (A : Option Addr) (m c : Nat) (ys : List Nat) (hr : RB w A m ys) (hA : A = none → c = 0)
    (hs : a.eval s = v) (hx : a.eval x = .slice A m c)
    (hlen : xs.length + m ≤ 140737488355328) (hbase : base ≤ w.heap.size)
    (h : ∀ v' w', Own e w' base v' (xs ++ ys) → w.grownBy w' v.ownBlock → Lies w v v' → wpList P ops Q rest (a.put o.dst v') w') :
    wpList P ops Q (o :: rest) a w := by
  obtain ⟨i, hi, hz0, hz1, hz2⟩ := info_parts hinfo
  rcases A with _ | ad
  · obtain rfl := hA rfl
    have hm : m = 0 := by
      rcases Nat.eq_zero_or_pos m with h0 | h0
      · exact h0
      · obtain ⟨ad, e', _⟩ := hr.2.2 h0
        cases e'
    subst hm
    have hys : ys = [] := List.eq_nil_of_length_eq_zero hr.1
    subst hys
    refine wpList_append_own_none hgd s x t ho base e i 1 ht hi v xs.length (bvs xs) hs hown.1 hx ?_
    exact h v w (by simpa using hown) (World.grownBy.refl w _) (Lies.refl w v)
  · refine wpList_append_own_at w hgd s x t ho base e i (.int .u8 0) 1 1 ht hi hz0 hz1 hz2 rfl (by decide) v xs.length (bvs xs) hs hown.1
      ad m c (bvs ys) hx (by simp [bvs, hr.1]) ?_ (bvs_oneCell ys) (by unfold maxLen; omega) (by omega) hbase ?_
    · intro j u hj
      simp only [bvs, List.getElem?_map, Option.map_eq_some_iff] at hj
      obtain ⟨x, hx, rfl⟩ := hj
      have hjm : j < ys.length := by
        rcases Nat.lt_or_ge j ys.length with h | h
        · exact h
        · rw [List.getElem?_eq_none h] at hx; cases hx
      obtain ⟨ad', e', _, hc⟩ := hr.2.2 (by have := hr.1; omega)
      injection e' with e'
      subst e'
      exact hc j x hx
    · intro v' w' h1 h2 _ h4
      refine h v' w' ⟨by rw [List.length_append, hr.1]; simpa [bvs] using h1, hown.2.app hr.2.1⟩ h2 ?_
      intro k hk
      rcases h4 with h4 | h4
      · rw [h4] at hk
        exact .inl hk
      · rw [h4] at hk
        injection hk with hk
        exact .inr (by omega)
end
end Go.Proofs.Ytkpbeibcfaenhaa

/- Structs in memory: loads, stores, new variables. No program is named here. -/
namespace Go.Proofs.Ytkpbeibcfaenhaa
open Go.RowKit
theorem stopAt {P : Program} {ops : Array Oper} {rest : List Oper} {o : Oper} {a : Act} {w : World} {Q : Exit → Act → World → Prop} (h : Hid (wpList P ops Q (o :: rest) a w)) : wpList P ops Q (o :: rest) a w := h
theorem loadRange {P : Program} {ops : Array Oper} {rest : List Oper} {o : Oper} {a : Act} {w : World} {Q : Exit → Act → World → Prop} (hgd : o.guard = none) (ty : TypeId) (x : Operand) (ho : o.op = .load ty x)
    (g off : Nat) (cs : List Value) (hx : a.eval x = .pointer (some ⟨g, off, none⟩)) (hc : w.rangeAt g off cs) (hrow : (P.underlying ty).map (·.isRow) = some true) (hi : (P.info? ty).map (·.size) = some cs.length)
    (h : wpList P ops Q rest (a.put o.dst (.agg cs.toArray)) w) : wpList P ops Q (o :: rest) a w := by
  refine wpList_plain hgd fun K hK => ?_
  obtain ⟨d, hu, hd⟩ := row_of hrow
  have hlv := run_loadVar_mid (P := P) w g off ty cs d hc hu hd hi
  unfold Oper.wp execOp
  simp only [ho, hx, Instr.loadAt, Instr.sureAddr, Sem.run_bind, Sem.run_pure, Result.andThen_ok, hlv]
  exact hK _ _ h
theorem allocAt {P : Program} {ops : Array Oper} {rest : List Oper} {o : Oper} {a : Act} {w : World} {Q : Exit → Act → World → Prop} (hgd : o.guard = none) (t : TypeId) (ho : o.op = .alloc t) (cs : Array Value) (n : Nat)
    (hi : (P.info? t).map (fun i => (i.zero, i.size)) = some (some (.agg cs), n)) (h : wpList P ops Q rest (a.put o.dst (.pointer (some ⟨w.heap.size, 0, none⟩))) (w.alloc (.cells cs t))) : wpList P ops Q (o :: rest) a w := by
  refine wpList_plain hgd fun K hK => ?_
  have hz : (zeroValue t).run P w = .ok (.agg cs) w := by
    cases hq : P.info? t with
    | none => simp [hq] at hi
    | some i =>
      have h1 : i.zero = some (.agg cs) := by
        simp [hq] at hi
        exact hi.1
      simp [zeroValue, typeInfo, hq, h1]
  have hrun : (Instr.alloc t true (.tuple #[])).run P w = .ok (.pointer (some ⟨w.heap.size, 0, none⟩)) (w.alloc (.cells cs t)) := by
    simp [Instr.alloc, newVar, newRow, Sem.run_bind, hz, Value.cells]
  unfold Oper.wp execOp
  simp only [ho, Sem.run_bind, Sem.run_pure, hrun, Result.andThen_ok]
  exact hK _ _ h
theorem allocNew {P : Program} {ops : Array Oper} {rest : List Oper} {o : Oper} {a : Act} {w : World} {Q : Exit → Act → World → Prop} (hgd : o.guard = none) (t : TypeId) (ho : o.op = .alloc t) (cs : Array Value) (n : Nat)
    (hi : (P.info? t).map (fun i => (i.zero, i.size)) = some (some (.agg cs), n)) (h : ∀ w', Hid (BlkIs w' w.heap.size t cs) → Hid (Below w.heap.size w w') → Hid (w'.heap.size = w.heap.size + 1) → wpList P ops Q rest (a.put o.dst (.pointer (some ⟨w.heap.size, 0, none⟩))) w') : wpList P ops Q (o :: rest) a w :=
  allocAt hgd t ho cs n hi (h _ (BlkIs.new _ _ _) ((Below.refl _ _).alloc (Nat.le_refl _) _) (by show _ = _; simp))
theorem buildAt {P : Program} {ops : Array Oper} {rest : List Oper} {o : Oper} {a : Act} {w : World} {Q : Exit → Act → World → Prop} (hgd : o.guard = none) (t : TypeId) (parts : Array (Nat × Operand)) (ho : o.op = .build t parts)
    (vs : List (Nat × Value)) (hv : (parts.map fun (i, x) => (i, a.eval x)).toList = vs) (cells : Array Value) (hb : P.built t vs = some cells) (h : wpList P ops Q rest (a.put o.dst (.agg cells)) w) : wpList P ops Q (o :: rest) a w := by
  subst hv
  exact wpList_plain hgd fun K hK => wp_build t parts ho (by rw [hb]; rfl) (by rw [hb]; exact hK _ _ h)
theorem boxNew {P : Program} {ops : Array Oper} {rest : List Oper} {o : Oper} {a : Act} {w : World} {Q : Exit → Act → World → Prop} (hgd : o.guard = none) (t : TypeId) (x : Operand) (ho : o.op = .box t x) (cs : Array Value) (hx : a.eval x = .agg cs)
    (h : ∀ w', Hid (BlkIs w' w.heap.size t cs) → Hid (Below w.heap.size w w') → Hid (w'.heap.size = w.heap.size + 1) → wpList P ops Q rest (a.put o.dst (.pointer (some ⟨w.heap.size, 0, none⟩))) w') : wpList P ops Q (o :: rest) a w := by
  refine wpList_plain hgd fun K hK => ?_
  have h2 := h _ (BlkIs.new w t cs) ((Below.refl _ _).alloc (Nat.le_refl _) _) (by show _ = _; simp)
  unfold Oper.wp execOp
  simp only [ho, hx]
  exact hK _ _ h2
theorem grown_setRow {w : World} {g : Nat} (cs : Array Value) : w.grownBy (w.setRow g cs) (some g) :=
  ⟨rfl, rfl, rfl, by simp [World.setRow], fun k _ hne => setRow_other w g k cs (fun e => hne (by rw [e]))⟩
theorem storeV {P : Program} {ops : Array Oper} {rest : List Oper} {o : Oper} {a : Act} {w : World} {Q : Exit → Act → World → Prop} (hgd : o.guard = none) (ty : TypeId) (x y : Operand) (ho : o.op = .store ty x y)
    (g : Nat) (cs old : List Value) (t : TypeId) (hx : a.eval x = .pointer (some ⟨g, 0, none⟩)) (hy : a.eval y = .agg cs.toArray) (hL : BlkIs w g t old.toArray) (hi : (P.info? ty).map (·.size) = some cs.length) (hl : old.length = cs.length)
    (h1 : ∀ v ∈ cs, v.oneCell' = true) (h : ∀ w', Hid (BlkIs w' g t cs.toArray) → Hid (w.grownBy w' (some g)) → Hid (w'.heap.size = w.heap.size) → wpList P ops Q rest (a.put o.dst undef) w') : wpList P ops Q (o :: rest) a w := by
  refine wpList_store_row hgd ty x y ho g _ hx hy t _ hL (by rw [hi]; simp) (by simp [hl]) (by
    rw [Array.all_eq_true_iff_forall_mem]
    intro v hv
    exact h1 v (by simpa using hv)) (h _ ?_ (grown_setRow _) (by show _ = _; simp [World.setRow]))
  show _ = _
  exact setRow_heap w g _ _ t (0, 0) hL
theorem BlkIs.range {w : World} {g : Nat} {t : TypeId} {cs : List Value} (h : BlkIs w g t cs.toArray) : w.rangeAt g 0 cs := fun j v hj => by
  rw [Nat.zero_add, BlkIs.cell h, List.getElem?_toArray]
  exact hj
theorem cells_ret {P : Program} {fn : Func} {p : Tmp} {ty : TypeId} {R : Ending → World → Prop} {x : Act} {w : World} {g : Nat} {t : TypeId} {cs : List Value} (h : fn.results = #[.cell p ty]) (hp : x.tmps.getD p undef = .pointer (some ⟨g, 0, none⟩))
    (hb : BlkIs w g t cs.toArray) (hrow : (P.underlying ty).map (·.isRow) = some true) (hi : (P.info? ty).map (·.size) = some cs.length) (hd : x.defers = []) (hR : R (.returned (.agg cs.toArray)) w) : bodyPost P fn R .ret x w := by
  refine bodyPost_ret (v := .agg cs.toArray) ?_ hd hR
  obtain ⟨d, hu, hdr⟩ := row_of hrow
  have h2 := run_loadVar_mid (P := P) w g 0 ty cs d hb.range hu hdr hi
  rw [results_cell h, hp]
  simp [asAddr, Result.andThen, h2]
theorem sliceFrom {P : Program} {w : World} {ops : Array Oper} {rest : List Oper} {o : Oper} {a : Act} {Q : Exit → Act → World → Prop} (hgd : o.guard = none) (t : TypeId) (x ix : Operand)
    (ho : o.op = .slice t x (some ix) none none) (ht : P.underlying t = some (.slice (P.elem t))) (hsz : (P.info? (P.elem t)).map (·.size) = some 1) (A : Option Addr) (m d k : Nat) (hx : a.eval x = .slice A m d) (hi : a.eval ix = .int .i64 (k : Int))
    (hk : k ≤ m) (hmd : m ≤ d)
    (h : ∀ B, Hid ((k < m → B = A.map (·.add k)) ∧ (∀ ad, B = some ad → ∃ ad', A = some ad' ∧ ad'.block = ad.block) ∧ (A = none → B = none) ∧ (B = none → A = none)) → wpList P ops Q rest (a.put o.dst (.slice B (m - k) (d - k))) w) : wpList P ops Q (o :: rest) a w := by
  refine wpList_plain hgd fun K hK => ?_
  have hs : (sizeOf (P.elem t)).run P w = .ok 1 w := by
    cases hq : P.info? (P.elem t) with
    | none => simp [hq] at hsz
    | some i =>
      have h1 : i.size = 1 := by simpa [hq] using hsz
      simp [sizeOf, typeInfo, hq, h1]
  have hrun : (Instr.sliceAt t (.slice A m d) (some (.int .i64 (k : Int))) none none).run P w = .ok (.slice (if d = k then A else A.map (·.add k)) (m - k) (d - k)) w := by
    rw [run_sliceAt_slice w t _ _ _ _ ht, run_slice_l w t A m d ht .i64 (k : Int) (by omega) (by omega), hs]
    simp only [Result.andThen_ok, sliced, Int.toNat_natCast, Nat.mul_one]
  have h2 := h (if d = k then A else A.map (·.add k)) (show _ ∧ _ ∧ _ ∧ _ from ⟨fun hlt => if_neg (by omega), fun ad e => by
      split at e
      · exact ⟨ad, e, rfl⟩
      · rcases A with _ | b
        · cases e
        · injection e with e
          exact ⟨b, rfl, by rw [← e, block_add]⟩, (fun e => by subst e; split <;> rfl), fun e => by
      split at e
      · exact e
      · rcases A with _ | b
        · rfl
        · cases e⟩)
  unfold Oper.wp execOp
  simp only [ho, hx, hi, Option.map, Sem.run_bind, Sem.run_pure, hrun, Result.andThen_ok]
  exact hK _ _ h2
end Go.Proofs.Ytkpbeibcfaenhaa
