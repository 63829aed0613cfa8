/- Structs in memory: loads, stores, new variables. No program is named here. -/
import Derived.Test.YtkpbeibcfaenhaaArr
import Derived.Test.YtkpbeibcfaenhaaBits
namespace Go.Proofs.Ytkpbeibcfaenhaa
open Go.RowKit
theorem stopAt {P : Program} {ops : Array Oper} {rest : List Oper} {o : Oper} {a : Act} {w : World} {Q : Exit → Act → World → Prop} (h : Hid (wpList P ops Q (o :: rest) a w)) : wpList P ops Q (o :: rest) a w := h
theorem loadRange {P : Program} {ops : Array Oper} {rest : List Oper} {o : Oper} {a : Act} {w : World} {Q : Exit → Act → World → Prop} (hgd : o.guard = none) (ty : TypeId) (x : Operand) (ho : o.op = .load ty x)
    (g off : Nat) (cs : List Value) (hx : a.eval x = .pointer (some ⟨g, off, none⟩)) (hc : w.rangeAt g off cs) (hrow : (P.underlying ty).map (·.isRow) = some true) (hi : (P.info? ty).map (·.size) = some cs.length)
    (h : wpList P ops Q rest (a.put o.dst (.agg cs.toArray)) w) : wpList P ops Q (o :: rest) a w := by
  refine wpList_plain hgd fun K hK => ?_
  obtain ⟨d, hu, hd⟩ := row_of hrow
  have hlv := run_loadVar_mid (P := P) w g off ty cs d hc hu hd hi
  unfold Oper.wp execOp
  simp only [ho, hx, Instr.loadAt, Instr.sureAddr, Sem.run_bind, Sem.run_pure, Result.andThen_ok, hlv]
  exact hK _ _ h
theorem allocAt {P : Program} {ops : Array Oper} {rest : List Oper} {o : Oper} {a : Act} {w : World} {Q : Exit → Act → World → Prop} (hgd : o.guard = none) (t : TypeId) (ho : o.op = .alloc t) (cs : Array Value) (n : Nat)
    (hi : (P.info? t).map (fun i => (i.zero, i.size)) = some (some (.agg cs), n)) (h : wpList P ops Q rest (a.put o.dst (.pointer (some ⟨w.heap.size, 0, none⟩))) (w.alloc (.cells cs t))) : wpList P ops Q (o :: rest) a w := by
  refine wpList_plain hgd fun K hK => ?_
  have hz : (zeroValue t).run P w = .ok (.agg cs) w := by
    cases hq : P.info? t with
    | none => simp [hq] at hi
    | some i =>
      have h1 : i.zero = some (.agg cs) := by
        simp [hq] at hi
        exact hi.1
      simp [zeroValue, typeInfo, hq, h1]
  have hrun : (Instr.alloc t true (.tuple #[])).run P w = .ok (.pointer (some ⟨w.heap.size, 0, none⟩)) (w.alloc (.cells cs t)) := by
    simp [Instr.alloc, newVar, newRow, Sem.run_bind, hz, Value.cells]
  unfold Oper.wp execOp
  simp only [ho, Sem.run_bind, Sem.run_pure, hrun, Result.andThen_ok]
  exact hK _ _ h
theorem allocNew {P : Program} {ops : Array Oper} {rest : List Oper} {o : Oper} {a : Act} {w : World} {Q : Exit → Act → World → Prop} (hgd : o.guard = none) (t : TypeId) (ho : o.op = .alloc t) (cs : Array Value) (n : Nat)
    (hi : (P.info? t).map (fun i => (i.zero, i.size)) = some (some (.agg cs), n)) (h : ∀ w', Hid (BlkIs w' w.heap.size t cs) → Hid (Below w.heap.size w w') → Hid (w'.heap.size = w.heap.size + 1) → wpList P ops Q rest (a.put o.dst (.pointer (some ⟨w.heap.size, 0, none⟩))) w') : wpList P ops Q (o :: rest) a w :=
  allocAt hgd t ho cs n hi (h _ (BlkIs.new _ _ _) ((Below.refl _ _).alloc (Nat.le_refl _) _) (by show _ = _; simp))
theorem buildAt {P : Program} {ops : Array Oper} {rest : List Oper} {o : Oper} {a : Act} {w : World} {Q : Exit → Act → World → Prop} (hgd : o.guard = none) (t : TypeId) (parts : Array (Nat × Operand)) (ho : o.op = .build t parts)
    (vs : List (Nat × Value)) (hv : (parts.map fun (i, x) => (i, a.eval x)).toList = vs) (cells : Array Value) (hb : P.built t vs = some cells) (h : wpList P ops Q rest (a.put o.dst (.agg cells)) w) : wpList P ops Q (o :: rest) a w := by
  subst hv
  exact wpList_plain hgd fun K hK => wp_build t parts ho (by rw [hb]; rfl) (by rw [hb]; exact hK _ _ h)
theorem boxNew {P : Program} {ops : Array Oper} {rest : List Oper} {o : Oper} {a : Act} {w : World} {Q : Exit → Act → World → Prop} (hgd : o.guard = none) (t : TypeId) (x : Operand) (ho : o.op = .box t x) (cs : Array Value) (hx : a.eval x = .agg cs)
    (h : ∀ w', Hid (BlkIs w' w.heap.size t cs) → Hid (Below w.heap.size w w') → Hid (w'.heap.size = w.heap.size + 1) → wpList P ops Q rest (a.put o.dst (.pointer (some ⟨w.heap.size, 0, none⟩))) w') : wpList P ops Q (o :: rest) a w := by
  refine wpList_plain hgd fun K hK => ?_
  have h2 := h _ (BlkIs.new w t cs) ((Below.refl _ _).alloc (Nat.le_refl _) _) (by show _ = _; simp)
  unfold Oper.wp execOp
  simp only [ho, hx]
  exact hK _ _ h2
theorem grown_setRow {w : World} {g : Nat} (cs : Array Value) : w.grownBy (w.setRow g cs) (some g) :=
  ⟨rfl, rfl, rfl, by simp [World.setRow], fun k _ hne => setRow_other w g k cs (fun e => hne (by rw [e]))⟩
theorem storeV {P : Program} {ops : Array Oper} {rest : List Oper} {o : Oper} {a : Act} {w : World} {Q : Exit → Act → World → Prop} (hgd : o.guard = none) (ty : TypeId) (x y : Operand) (ho : o.op = .store ty x y)
    (g : Nat) (cs old : List Value) (t : TypeId) (hx : a.eval x = .pointer (some ⟨g, 0, none⟩)) (hy : a.eval y = .agg cs.toArray) (hL : BlkIs w g t old.toArray) (hi : (P.info? ty).map (·.size) = some cs.length) (hl : old.length = cs.length)
    (h1 : ∀ v ∈ cs, v.oneCell' = true) (h : ∀ w', Hid (BlkIs w' g t cs.toArray) → Hid (w.grownBy w' (some g)) → Hid (w'.heap.size = w.heap.size) → wpList P ops Q rest (a.put o.dst undef) w') : wpList P ops Q (o :: rest) a w := by
  refine wpList_store_row hgd ty x y ho g _ hx hy t _ hL (by rw [hi]; simp) (by simp [hl]) (by
    rw [Array.all_eq_true_iff_forall_mem]
    intro v hv
    exact h1 v (by simpa using hv)) (h _ ?_ (grown_setRow _) (by show _ = _; simp [World.setRow]))
  show _ = _
  exact setRow_heap w g _ _ t (0, 0) hL
theorem BlkIs.range {w : World} {g : Nat} {t : TypeId} {cs : List Value} (h : BlkIs w g t cs.toArray) : w.rangeAt g 0 cs := fun j v hj => by
  rw [Nat.zero_add, BlkIs.cell h, List.getElem?_toArray]
  exact hj
theorem cells_ret {P : Program} {fn : Func} {p : Tmp} {ty : TypeId} {R : Ending → World → Prop} {x : Act} {w : World} {g : Nat} {t : TypeId} {cs : List Value} (h : fn.results = #[.cell p ty]) (hp : x.tmps.getD p undef = .pointer (some ⟨g, 0, none⟩))
    (hb : BlkIs w g t cs.toArray) (hrow : (P.underlying ty).map (·.isRow) = some true) (hi : (P.info? ty).map (·.size) = some cs.length) (hd : x.defers = []) (hR : R (.returned (.agg cs.toArray)) w) : bodyPost P fn R .ret x w := by
  refine bodyPost_ret (v := .agg cs.toArray) ?_ hd hR
  obtain ⟨d, hu, hdr⟩ := row_of hrow
  have h2 := run_loadVar_mid (P := P) w g 0 ty cs d hb.range hu hdr hi
  rw [results_cell h, hp]
  simp [asAddr, Result.andThen, h2]
theorem sliceFrom {P : Program} {w : World} {ops : Array Oper} {rest : List Oper} {o : Oper} {a : Act} {Q : Exit → Act → World → Prop} (hgd : o.guard = none) (t : TypeId) (x ix : Operand)
    (ho : o.op = .slice t x (some ix) none none) (ht : P.underlying t = some (.slice (P.elem t))) (hsz : (P.info? (P.elem t)).map (·.size) = some 1) (A : Option Addr) (m d k : Nat) (hx : a.eval x = .slice A m d) (hi : a.eval ix = .int .i64 (k : Int))
    (hk : k ≤ m) (hmd : m ≤ d)
    (h : ∀ B, Hid ((k < m → B = A.map (·.add k)) ∧ (∀ ad, B = some ad → ∃ ad', A = some ad' ∧ ad'.block = ad.block) ∧ (A = none → B = none) ∧ (B = none → A = none)) → wpList P ops Q rest (a.put o.dst (.slice B (m - k) (d - k))) w) : wpList P ops Q (o :: rest) a w := by
  refine wpList_plain hgd fun K hK => ?_
  have hs : (sizeOf (P.elem t)).run P w = .ok 1 w := by
    cases hq : P.info? (P.elem t) with
    | none => simp [hq] at hsz
    | some i =>
      have h1 : i.size = 1 := by simpa [hq] using hsz
      simp [sizeOf, typeInfo, hq, h1]
  have hrun : (Instr.sliceAt t (.slice A m d) (some (.int .i64 (k : Int))) none none).run P w = .ok (.slice (if d = k then A else A.map (·.add k)) (m - k) (d - k)) w := by
    rw [run_sliceAt_slice w t _ _ _ _ ht, run_slice_l w t A m d ht .i64 (k : Int) (by omega) (by omega), hs]
    simp only [Result.andThen_ok, sliced, Int.toNat_natCast, Nat.mul_one]
  have h2 := h (if d = k then A else A.map (·.add k)) (show _ ∧ _ ∧ _ ∧ _ from ⟨fun hlt => if_neg (by omega), fun ad e => by
      split at e
      · exact ⟨ad, e, rfl⟩
      · rcases A with _ | b
        · cases e
        · injection e with e
          exact ⟨b, rfl, by rw [← e, block_add]⟩, (fun e => by subst e; split <;> rfl), fun e => by
      split at e
      · exact e
      · rcases A with _ | b
        · rfl
        · cases e⟩)
  unfold Oper.wp execOp
  simp only [ho, hx, hi, Option.map, Sem.run_bind, Sem.run_pure, hrun, Result.andThen_ok]
  exact hK _ _ h2
end Go.Proofs.Ytkpbeibcfaenhaa
