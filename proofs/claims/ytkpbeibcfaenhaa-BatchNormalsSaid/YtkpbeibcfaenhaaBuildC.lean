/- A change is built, and a list of one of them. -/
import Derived.Test.YtkpbeibcfaenhaaChOwn
import Derived.Laws.Tables
namespace Go.Proofs.Ytkpbeibcfaenhaa
open Go.RowKit
theorem fold_at (off : Nat) : ∀ (xs : List Value) (k : Nat) (c : Array Value) (j : Nat), off + k + xs.length ≤ c.size →
    ((xs.zipIdx k).foldl (fun (cs : Array Value) (p : Value × Nat) => cs.setIfInBounds (off + p.2) p.1) c)[j]? = if off + k ≤ j ∧ j < off + k + xs.length then xs[j - (off + k)]? else c[j]?
  | [], k, c, j, _ => by
    rw [if_neg (by simp)]
    rfl
  | x :: xs, k, c, j, h => by
    rw [List.zipIdx_cons, List.foldl_cons, fold_at off xs (k + 1) _ j (by simp at h ⊢; omega)]
    simp only [List.length_cons] at h ⊢
    by_cases h1 : off + (k + 1) ≤ j ∧ j < off + (k + 1) + xs.length
    · rw [if_pos h1, if_pos (by omega), show j - (off + k) = (j - (off + (k + 1))) + 1 by omega, List.getElem?_cons_succ]
    · rw [if_neg h1]
      by_cases h2 : j = off + k
      · subst h2
        rw [if_pos (by omega), Nat.sub_self, List.getElem?_cons_zero, Array.getElem?_setIfInBounds_self_of_lt (by omega)]
      · rw [if_neg (by omega), Array.getElem?_setIfInBounds_ne (by omega)]
theorem fold_arr (off : Nat) (v c : Array Value) (h : off + v.size ≤ c.size) (j : Nat) : (v.zipIdx.foldl (fun (cs : Array Value) (p : Value × Nat) => cs.setIfInBounds (off + p.2) p.1) c)[j]? = if off ≤ j ∧ j < off + v.size then v[j - off]? else c[j]? := by
  have := fold_at off v.toList 0 c j (by simpa using h)
  rw [Nat.add_zero] at this
  rw [← Array.foldl_toList, Array.toList_zipIdx, this]
  simp
theorem fold_size (off : Nat) : ∀ (xs : List (Value × Nat)) (c : Array Value), (xs.foldl (fun (cs : Array Value) (p : Value × Nat) => cs.setIfInBounds (off + p.2) p.1) c).size = c.size
  | [], c => rfl
  | x :: xs, c => by
    rw [List.foldl_cons, fold_size off xs]
    simp
theorem fold_whole (v c : Array Value) (h : v.size = c.size) : v.zipIdx.foldl (fun (cs : Array Value) (p : Value × Nat) => cs.setIfInBounds (0 + p.2) p.1) c = v := by
  apply Array.ext_getElem?
  intro j
  rw [fold_arr 0 v c (by omega) j]
  split
  · rfl
  · rw [Array.getElem?_eq_none (by omega), Array.getElem?_eq_none (by omega)]
section
variable {P : Program}
theorem buildSlice1_run {t e : TypeId} {z : Value} {n : Nat} (ht : P.underlying t = some (.slice e)) (hi : (P.info? e).map (fun i => (i.zero, i.size)) = some (some z, n)) (h0 : 0 < n) (h1 : n ≤ 1000) (v : Value) (hv : v.cells.size = n) (w : World) :
    (Instr.buildSlice t 1 #[(0, v)]).run P w = .ok (.slice (some ⟨w.heap.size, 0, none⟩) 1 1) (w.alloc (.cells v.cells e)) := by
  obtain ⟨i, hi1, hi2, hi3⟩ : ∃ i, P.info? e = some i ∧ i.zero = some z ∧ i.size = n := by
    cases hq : P.info? e with
    | none => simp [hq] at hi
    | some i =>
      simp [hq] at hi
      exact ⟨i, rfl, hi.1, hi.2⟩
  have hw := fold_whole v.cells ((Array.range (1 * n)).map (z.cells[· % z.cells.size]!)) (by simp [hv])
  have hfill : Instr.fill (fun i => some (i * n, n)) ((Array.range (1 * n)).map (z.cells[· % z.cells.size]!)) [(0, v)] = some v.cells := by
    unfold Instr.fill
    simp only [Nat.zero_mul]
    rw [if_neg (by simp [hv])]
    unfold Instr.fill
    exact congrArg some hw
  have hsz : (sizeOf e).run P w = .ok n w := by simp [sizeOf, typeInfo, hi1, hi3]
  have hze : (zeroValue e).run P w = .ok z w := by simp [zeroValue, typeInfo, hi1, hi2]
  have g1 : ¬ 1 * n > 2 ^ 24 := by omega
  have g2 : ¬ 1 * n = 0 := by omega
  unfold Instr.buildSlice
  simp only [Sem.run_bind, run_underlying ht, Result.andThen_ok, hsz, if_neg g1, if_neg g2, hze, Sem.run_pure, hfill]
  simp [newRow, newObj, Result.andThen]
  rfl
end
def spl (c : Array Value) (off : Nat) (v : Array Value) : Array Value := v.zipIdx.foldl (fun (cs : Array Value) (p : Value × Nat) => cs.setIfInBounds (off + p.2) p.1) c
theorem spl_size (c : Array Value) (off : Nat) (v : Array Value) : (spl c off v).size = c.size := by
  unfold spl
  rw [← Array.foldl_toList]
  exact fold_size off _ c
theorem spl_at {c v : Array Value} {off : Nat} (h : off + v.size ≤ c.size) (j : Nat) : (spl c off v)[j]? = if off ≤ j ∧ j < off + v.size then v[j - off]? else c[j]? := fold_arr off v c h j
theorem fill_step {place : Nat → Option (Nat × Nat)} {c : Array Value} {i off size : Nat} {v : Value} {rest : List (Nat × Value)} (hp : place i = some (off, size)) (hs : v.cells.size = size) (hf : off + size ≤ c.size) :
    Instr.fill place c ((i, v) :: rest) = Instr.fill place (spl c off v.cells) rest := by
  rw [Instr.fill, hp]
  simp only
  rw [if_neg (by simp [hs]; omega)]
  rfl
/-- 'api.Change{Key: k, Del: d, Val: v}'. -/
theorem built_ch {key : List Nat} {d : Bool} {A : Option Addr} {n C : Nat} (hk : key.length = 32) :
    Try.prog.built 45 [(0, .agg (bvs key).toArray), (1, .bool d), (2, .slice A n C)] = some (bvs key ++ [Value.bool d, Value.slice A n C]).toArray := by
  have hb : ∃ Z : Array Value, Z.size = 34 ∧ ∀ ps, Try.prog.built 45 ps = Instr.fill (#[(0, 32), (32, 1), (33, 1)][·]?) Z ps := by
    refine ⟨(zarr 32) ++ #[.bool false, .slice none 0 0], by simp [zarr, bvs, zs], fun ps => ?_⟩
    have h1 : (Try.prog.info? 45).map (·.zero) = some (some (.agg ((zarr 32) ++ #[.bool false, .slice none 0 0]))) := by kernel_rfl
    obtain ⟨i, hi, hz⟩ : ∃ i, Try.prog.info? 45 = some i ∧ i.zero = some (.agg ((zarr 32) ++ #[.bool false, .slice none 0 0])) := by
      cases hq : Try.prog.info? 45 with
      | none => simp [hq] at h1
      | some i => exact ⟨i, rfl, by simpa [hq] using h1⟩
    have hp : (Try.prog.underlying 45).bind (fun d => match d with | .struct fs => fs.toList.mapM (fun f => (Try.prog.info? f.type).map fun i => (f.offset, i.size)) | _ => none) = some [(0, 32), (32, 1), (33, 1)] := by kernel_rfl
    rw [Try.underlying45] at hp
    unfold Program.built
    rw [hi, Try.underlying45]
    simp only [hz]
    simp only [Option.bind_some] at hp
    rw [hp]
    rfl
  obtain ⟨Z, hZ, hb⟩ := hb
  have hkl : (bvs key).length = 32 := by simp [bvs, hk]
  have s1 : ((Value.agg (bvs key).toArray).cells).size = 32 := by simp [Value.cells, hkl]
  rw [hb, fill_step (off := 0) (size := 32) rfl s1 (by omega), fill_step (off := 32) (size := 1) rfl rfl (by rw [spl_size]; omega), fill_step (off := 33) (size := 1) rfl rfl (by rw [spl_size, spl_size]; omega), Instr.fill]
  congr 1
  apply Array.ext_getElem?
  intro j
  have e1 : ((Value.agg (bvs key).toArray).cells) = (bvs key).toArray := rfl
  have e2 : (Value.bool d).cells = #[Value.bool d] := rfl
  have e3 : (Value.slice A n C).cells = #[Value.slice A n C] := rfl
  rw [spl_at (by rw [spl_size, spl_size, e3]; simp; omega), e3, spl_at (by rw [spl_size, e2]; simp; omega), e2, spl_at (by rw [s1]; omega), e1]
  simp only [List.size_toArray, List.length_cons, List.length_nil, List.getElem?_toArray, hkl]
  by_cases h3 : j = 33
  · subst h3
    rw [if_pos (by omega), List.getElem?_append_right (by omega), hkl]
    rfl
  rw [if_neg (by omega)]
  by_cases h2 : j = 32
  · subst h2
    rw [if_pos (by omega), List.getElem?_append_right (by omega), hkl]
    rfl
  rw [if_neg (by omega)]
  by_cases h1 : j < 32
  · rw [if_pos (by omega), List.getElem?_append_left (by omega), Nat.sub_zero]
  · rw [if_neg (by omega), Array.getElem?_eq_none (by omega), List.getElem?_eq_none (by rw [List.length_append, hkl]; simp; omega)]
section
variable {P : Program}
theorem wpOp_build {ops : Array Oper} {Q : Exit → Act → World → Prop} {K : Act → World → Prop} {o : Oper} {a : Act} (hw : Region.wanted o (yielded ops a.tmps) = true) (w : World) (t : TypeId) (parts : Array (Nat × Operand)) (ho : o.op = .build t parts)
    (vs : List (Nat × Value)) (hv : (parts.map fun (i, x) => (i, a.eval x)).toList = vs) (cells : Array Value) (hb : P.built t vs = some cells) (h : K (a.put o.dst (.agg cells)) w) :
    if Region.wanted o (yielded ops a.tmps) = true then o.wp P a w K Q else K (a.put o.dst undef) w := by
  subst hv
  rw [if_pos hw]
  exact wp_build t parts ho (by rw [hb]; rfl) (by rw [hb]; exact h)
theorem wpOp_buildSlice1 {ops : Array Oper} {Q : Exit → Act → World → Prop} {K : Act → World → Prop} {o : Oper} {a : Act} (hw : Region.wanted o (yielded ops a.tmps) = true) (w : World) (t e : TypeId) (z : Value) (n : Nat) (x : Operand) (ho : o.op = .buildSlice t 1 #[(0, x)])
    (ht : P.underlying t = some (.slice e)) (hi : (P.info? e).map (fun i => (i.zero, i.size)) = some (some z, n)) (h0 : 0 < n) (h1 : n ≤ 1000) (cs : Array Value) (hx : a.eval x = .agg cs) (hv : cs.size = n)
    (h : K (a.put o.dst (.slice (some ⟨w.heap.size, 0, none⟩) 1 1)) (w.alloc (.cells cs e))) :
    if Region.wanted o (yielded ops a.tmps) = true then o.wp P a w K Q else K (a.put o.dst undef) w := by
  rw [if_pos hw]
  have hr := buildSlice1_run ht hi h0 h1 (.agg cs) hv w
  unfold Oper.wp execOp
  simp only [ho, List.map_toArray, List.map_cons, List.map_nil, hx, Sem.run_bind, hr, Result.andThen_ok, Sem.run_pure]
  exact h
theorem buildSlice1 {ops : Array Oper} {rest : List Oper} {Q : Exit → Act → World → Prop} {o : Oper} {a : Act} (hgd : o.guard = none) (w : World) (t e : TypeId) (z : Value) (n : Nat) (x : Operand) (ho : o.op = .buildSlice t 1 #[(0, x)])
    (ht : P.underlying t = some (.slice e)) (hi : (P.info? e).map (fun i => (i.zero, i.size)) = some (some z, n)) (h0 : 0 < n) (h1 : n ≤ 1000) (cs : Array Value) (hx : a.eval x = .agg cs) (hv : cs.size = n)
    (h : wpList P ops Q rest (a.put o.dst (.slice (some ⟨w.heap.size, 0, none⟩) 1 1)) (w.alloc (.cells cs e))) : wpList P ops Q (o :: rest) a w := by
  refine wpList_plain hgd fun K hK => ?_
  have hr := buildSlice1_run ht hi h0 h1 (.agg cs) hv w
  unfold Oper.wp execOp
  simp only [ho, List.map_toArray, List.map_cons, List.map_nil, hx, Sem.run_bind, hr, Result.andThen_ok, Sem.run_pure]
  exact hK _ _ h
end
theorem info_chg : (Try.prog.info? 45).map (fun i => (i.zero, i.size)) = some (some (.agg ((zarr 32) ++ #[.bool false, .slice none 0 0])), 34) := by kernel_rfl
theorem info_chg3 : (Try.prog.info? 45).map (fun i => (i.zero, i.size, i.bytes)) = some (some (.agg ((zarr 32) ++ #[.bool false, .slice none 0 0])), 34, 64) := by kernel_rfl
theorem row_chg : (Try.prog.underlying 45).map (·.isRow) = some true := by kernel_rfl
theorem size_chg : (Try.prog.info? 45).map (·.size) = some 34 := by kernel_rfl
theorem und_chl : Try.prog.underlying 30 = some (.slice 45) := by kernel_rfl
theorem upd_self {α : Type} (f : Nat → α) (i : Nat) : upd f i (f i) = f := by
  funext j
  unfold upd
  split
  · rename_i h; rw [h]
  · rfl
end Go.Proofs.Ytkpbeibcfaenhaa
