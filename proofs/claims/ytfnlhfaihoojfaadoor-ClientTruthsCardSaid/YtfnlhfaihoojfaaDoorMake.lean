/- digest.New, Fork, Reset. -/
import Derived.Test.YtfnlhfaihoojfaaDoorWriteP
namespace Go.Proofs.YtfnlhfaihoojfaaDoor
open Go.RowKit
/-- A struct or an array that lies somewhere is read whole. -/
theorem loadRange {P : Program} {ops : Array Oper} {rest : List Oper} {o : Oper} {a : Act} {w : World} {Q : Exit → Act → World → Prop} (hgd : o.guard = none) (ty : TypeId) (x : Operand) (ho : o.op = .load ty x)
    (g off : Nat) (cs : List Value) (hx : a.eval x = .pointer (some ⟨g, off, none⟩)) (hc : w.rangeAt g off cs) (hrow : (P.underlying ty).map (·.isRow) = some true) (hi : (P.info? ty).map (·.size) = some cs.length)
    (h : wpList P ops Q rest (a.put o.dst (.agg cs.toArray)) w) : wpList P ops Q (o :: rest) a w := by
  refine wpList_plain hgd fun K hK => ?_
  obtain ⟨d, hu, hd⟩ := row_of hrow
  have hlv := run_loadVar_mid (P := P) w g off ty cs d hc hu hd hi
  unfold Oper.wp execOp
  simp only [ho, hx, Instr.loadAt, Instr.sureAddr, Sem.run_bind, Sem.run_pure, Result.andThen_ok, hlv]
  exact hK _ _ h
/-- A variable of a struct's or an array's type is laid. -/
theorem allocAt {P : Program} {ops : Array Oper} {rest : List Oper} {o : Oper} {a : Act} {w : World} {Q : Exit → Act → World → Prop} (hgd : o.guard = none) (t : TypeId) (ho : o.op = .alloc t) (cs : Array Value) (n : Nat)
    (hi : (P.info? t).map (fun i => (i.zero, i.size)) = some (some (.agg cs), n)) (h : wpList P ops Q rest (a.put o.dst (.pointer (some ⟨w.heap.size, 0, none⟩))) (w.alloc (.cells cs t))) : wpList P ops Q (o :: rest) a w := by
  refine wpList_plain hgd fun K hK => ?_
  have hz : (zeroValue t).run P w = .ok (.agg cs) w := by
    cases hq : P.info? t with
    | none => simp [hq] at hi
    | some i =>
      have h1 : i.zero = some (.agg cs) := by
        simp [hq] at hi
        exact hi.1
      simp [zeroValue, typeInfo, hq, h1]
  have hrun : (Instr.alloc t true (.tuple #[])).run P w = .ok (.pointer (some ⟨w.heap.size, 0, none⟩)) (w.alloc (.cells cs t)) := by
    simp [Instr.alloc, newVar, newRow, Sem.run_bind, hz, Value.cells]
  unfold Oper.wp execOp
  simp only [ho, Sem.run_bind, Sem.run_pure, hrun, Result.andThen_ok]
  exact hK _ _ h
/-- .. and the world behind it under a name of its own. -/
theorem allocNew {P : Program} {ops : Array Oper} {rest : List Oper} {o : Oper} {a : Act} {w : World} {Q : Exit → Act → World → Prop} (hgd : o.guard = none) (t : TypeId) (ho : o.op = .alloc t) (cs : Array Value) (n : Nat)
    (hi : (P.info? t).map (fun i => (i.zero, i.size)) = some (some (.agg cs), n)) (h : ∀ w', Hid (BlkIs w' w.heap.size t cs) → Hid (Below w.heap.size w w') → Hid (w'.heap.size = w.heap.size + 1) → wpList P ops Q rest (a.put o.dst (.pointer (some ⟨w.heap.size, 0, none⟩))) w') : wpList P ops Q (o :: rest) a w :=
  allocAt hgd t ho cs n hi (h _ (BlkIs.new _ _ _) ((Below.refl _ _).alloc (Nat.le_refl _) _) (by show _ = _; simp))
/-- A struct is built of its parts. -/
theorem buildAt {P : Program} {ops : Array Oper} {rest : List Oper} {o : Oper} {a : Act} {w : World} {Q : Exit → Act → World → Prop} (hgd : o.guard = none) (t : TypeId) (parts : Array (Nat × Operand)) (ho : o.op = .build t parts)
    (vs : List (Nat × Value)) (hv : (parts.map fun (i, x) => (i, a.eval x)).toList = vs) (cells : Array Value) (hb : P.built t vs = some cells) (h : wpList P ops Q rest (a.put o.dst (.agg cells)) w) : wpList P ops Q (o :: rest) a w := by
  subst hv
  exact wpList_plain hgd fun K hK => wp_build t parts ho (by rw [hb]; rfl) (by rw [hb]; exact hK _ _ h)
theorem TabU.range {w : World} {g : Nat} {xs : List Nat} (h : TabU w g xs) : w.rangeAt g 0 (uvs xs) := fun j v hj => by
  simp only [uvs, List.getElem?_map, Option.map_eq_some_iff] at hj
  obtain ⟨y, hy, rfl⟩ := hj
  have hl : j < xs.length := by
    rcases Nat.lt_or_ge j xs.length with h | h
    · exact h
    · rw [List.getElem?_eq_none h] at hy; cases hy
  rw [Nat.zero_add, h.2 j hl]
  simp [List.getD, hy, uv]
theorem BlkIs.range {w : World} {g : Nat} {t : TypeId} {cs : List Value} (h : BlkIs w g t cs.toArray) : w.rangeAt g 0 cs := fun j v hj => by
  rw [Nat.zero_add, BlkIs.cell h, List.getElem?_toArray]
  exact hj
theorem hcells_length {L rest : List Nat} (h t : Nat) (h1 : L.length = 8) (h2 : rest.length = 64) : (hcells L rest h t).length = 74 := by
  simp [hcells, uvs_length, bvs, h1, h2]
theorem info_h : (Tryd.prog.info? 86).map (fun i => (i.zero, i.size)) = some (some (.agg (hcells (zs 8) (zs 64) 0 0).toArray), 74) := by kernel_rfl
theorem row_h : (Tryd.prog.underlying 86).map (·.isRow) = some true := by kernel_rfl
theorem row_8 : (Tryd.prog.underlying 82).map (·.isRow) = some true := by kernel_rfl
theorem size_8 : (Tryd.prog.info? 82).map (·.size) = some 8 := by kernel_rfl
theorem size_h : (Tryd.prog.info? 86).map (·.size) = some 74 := by kernel_rfl
theorem built_h : Tryd.prog.built 86 [(0, .agg (uvs hL).toArray)] = some (hcells hL (zs 64) 0 0).toArray := by kernel_rfl
theorem HashIs_nil {w : World} {g : Nat} (h : HBlk w g hL (zs 64) 0 0) : HashIs w g [] := ⟨zs 64, zs_isB 64, IsB.nil, rfl, h⟩
def NewPost (w : World) (e : Ending) (w' : World) : Prop := ∃ g, e = .returned (.pointer (some ⟨g, 0, none⟩)) ∧ w.heap.size ≤ g ∧ HashIs w' g [] ∧ Below w.heap.size w w'
theorem hcells_one (L rest : List Nat) (h t : Nat) : (hcells L rest h t).toArray.all (·.oneCell') = true := by
  rw [Array.all_eq_true_iff_forall_mem]
  intro v hv
  simp only [hcells, uvs, bvs, List.mem_toArray, List.mem_append, List.mem_map, List.mem_cons, List.not_mem_nil, or_false] at hv
  rcases hv with ⟨x, _, rfl⟩ | ⟨x, _, rfl⟩ | rfl | rfl <;> rfl
theorem hstore {P : Program} {ops : Array Oper} {rst : List Oper} {o : Oper} {a : Act} {w : World} {Q : Exit → Act → World → Prop} (hgd : o.guard = none) (ty : TypeId) (x y : Operand) (ho : o.op = .store ty x y)
    (g : Nat) (L rest : List Nat) (h t : Nat) (hx : a.eval x = .pointer (some ⟨g, 0, none⟩)) (hy : a.eval y = .agg (hcells L rest h t).toArray) (hL : L.length = 8) (hr : rest.length = 64) (old : Array Value) (ho8 : old.size = 74) (hg : BlkIs w g 86 old) (hi : (P.info? ty).map (·.size) = some 74)
    (k : ∀ w', Hid (HBlk w' g L rest h t) → w.grownBy w' (some g) → wpList P ops Q rst (a.put o.dst undef) w') : wpList P ops Q (o :: rst) a w := by
  refine wpList_store_row hgd ty x y ho g _ hx hy _ _ hg (by rw [hi, List.size_toArray, hcells_length h t hL hr]) (by rw [ho8, List.size_toArray, hcells_length h t hL hr]) (hcells_one L rest h t) (k _ ?_ (grown_setRow _))
  exact ⟨setRow_heap w g _ _ _ (0, 0) hg, hL, hr⟩
def ForkPost (xs : List Nat) (w : World) (e : Ending) (w' : World) : Prop := ∃ g, e = .returned (.pointer (some ⟨g, 0, none⟩)) ∧ w.heap.size ≤ g ∧ HashIs w' g xs ∧ Below w.heap.size w w'
end Go.Proofs.YtfnlhfaihoojfaaDoor
