/- digest.Hasher in memory; the tables of rounds. -/
import Derived.Test.YtfnlhfaihoojfaaDoorMa
namespace Go.Proofs.YtfnlhfaihoojfaaDoor
open Go.RowKit
def uv (x : Nat) : Value := .int .u32 (x : Int)
def uvs (xs : List Nat) : List Value := xs.map uv
theorem uvs_length (xs : List Nat) : (uvs xs).length = xs.length := by simp [uvs]
theorem uvs_at (xs : List Nat) {i : Nat} (h : i < xs.length) : (uvs xs)[i]? = some (.int .u32 (xs.getD i 0 : Nat)) := by
  simp [uvs, uv, List.getD, h]
/-- A block of 32-bit numbers. -/
def BlkU (w : World) (g : Nat) (t : TypeId) (xs : List Nat) : Prop := BlkIs w g t (uvs xs).toArray
section
variable {w : World} {g : Nat} {t : TypeId} {xs : List Nat}
theorem BlkU.cell (h : BlkU w g t xs) {i : Nat} (hi : i < xs.length) : w.cell? ⟨g, i, none⟩ = some (.int .u32 (xs.getD i 0 : Nat)) := by
  rw [BlkIs.cell h i]
  simp [uvs, uv, List.getD, hi]
theorem BlkU.set (h : BlkU w g t xs) (i x : Nat) : BlkU (w.setCell ⟨g, i, none⟩ (.int .u32 (x : Int))) g t (xs.set i x) := by
  have := BlkIs.stored h i (.int .u32 (x : Int))
  unfold BlkU
  rw [show (uvs (xs.set i x)).toArray = (uvs xs).toArray.setIfInBounds i (.int .u32 (x : Int)) by simp [uvs, uv, List.map_set]]
  exact this
end
/-- A package's table of 32-bit numbers. -/
def TabU (w : World) (g : Nat) (xs : List Nat) : Prop := g < w.heap.size ∧ ∀ j, j < xs.length → w.cell? ⟨g, j, none⟩ = some (.int .u32 (xs.getD j 0 : Nat))
theorem TabU.keep {w w' : World} {g : Nat} {xs : List Nat} (h : TabU w g xs) (hs : w.heap.size ≤ w'.heap.size) (hb : w'.heap[g]? = w.heap[g]?) : TabU w' g xs :=
  ⟨Nat.lt_of_lt_of_le h.1 hs, fun j hj => by rw [World.cell?_of_block (w := w) (a := ⟨g, j, none⟩) hb]; exact h.2 j hj⟩
theorem TabU.below {w w' : World} {g : Nat} {xs : List Nat} (h : TabU w g xs) (hb : Below w.heap.size w w') : TabU w' g xs := h.keep hb.size (hb.block g h.1)
theorem TabU.belowB {B : Nat} {w w' : World} {g : Nat} {xs : List Nat} (h : TabU w g xs) (hb : Below B w w') (hg : g < B) : TabU w' g xs := h.keep hb.size (hb.block g hg)
theorem TabU.grown {w w' : World} {g : Nat} {xs : List Nat} {row : Option Nat} (h : TabU w g xs) (hb : w.grownBy w' row) (hg : some g ≠ row) : TabU w' g xs := h.keep hb.size (hb.block g h.1 hg)
/-- A hasher's cells: the state, the bytes that wait, how many of them count, how many bytes it has taken. -/
def hcells (L rest : List Nat) (h t : Nat) : List Value := uvs L ++ (bvs rest ++ [.int .i64 (h : Int), .int .u64 (t : Int)])
def HBlk (w : World) (g : Nat) (L rest : List Nat) (h t : Nat) : Prop := BlkIs w g 86 (hcells L rest h t).toArray ∧ L.length = 8 ∧ rest.length = 64
section
variable {w w' : World} {g : Nat} {L rest : List Nat} {h t : Nat}
theorem HBlk.state (H : HBlk w g L rest h t) {i : Nat} (hi : i < 8) : w.cell? ⟨g, i, none⟩ = some (.int .u32 (L.getD i 0 : Nat)) := by
  rw [BlkIs.cell H.1 i, List.getElem?_toArray, hcells, List.getElem?_append_left (by rw [uvs_length, H.2.1]; exact hi)]
  exact uvs_at L (by rw [H.2.1]; exact hi)
theorem HBlk.byte (H : HBlk w g L rest h t) {i : Nat} (hi : i < 64) : w.cell? ⟨g, 8 + i, none⟩ = some (.int .u8 (rest.getD i 0 : Nat)) := by
  rw [BlkIs.cell H.1, List.getElem?_toArray, hcells, List.getElem?_append_right (by rw [uvs_length, H.2.1]; omega), uvs_length, H.2.1, show 8 + i - 8 = i by omega,
    List.getElem?_append_left (by simp [bvs, H.2.2]; exact hi)]
  simp [bvs, bv, List.getD, show i < rest.length by rw [H.2.2]; exact hi]
theorem HBlk.have_ (H : HBlk w g L rest h t) : w.cell? ⟨g, 72, none⟩ = some (.int .i64 (h : Int)) := by
  rw [BlkIs.cell H.1, List.getElem?_toArray, hcells, List.getElem?_append_right (by rw [uvs_length, H.2.1]; omega), uvs_length, H.2.1,
    List.getElem?_append_right (by simp [bvs, H.2.2])]
  simp [bvs, H.2.2]
theorem HBlk.taken (H : HBlk w g L rest h t) : w.cell? ⟨g, 73, none⟩ = some (.int .u64 (t : Int)) := by
  rw [BlkIs.cell H.1, List.getElem?_toArray, hcells, List.getElem?_append_right (by rw [uvs_length, H.2.1]; omega), uvs_length, H.2.1,
    List.getElem?_append_right (by simp [bvs, H.2.2])]
  simp [bvs, H.2.2]
theorem HBlk.frozen (H : HBlk w g L rest h t) (i : Nat) : w.frozen? ⟨g, i, none⟩ = false := BlkIs.frozen H.1 i
theorem HBlk.lt (H : HBlk w g L rest h t) : g < w.heap.size := BlkIs.lt H.1
theorem HBlk.setState (H : HBlk w g L rest h t) {i : Nat} (hi : i < 8) (x : Nat) : HBlk (w.setCell ⟨g, i, none⟩ (.int .u32 (x : Int))) g (L.set i x) rest h t := by
  refine ⟨?_, by rw [List.length_set]; exact H.2.1, H.2.2⟩
  have := BlkIs.stored H.1 i (.int .u32 (x : Int))
  rw [show (hcells (L.set i x) rest h t).toArray = (hcells L rest h t).toArray.setIfInBounds i (.int .u32 (x : Int)) by
    simp only [hcells, uvs, List.setIfInBounds_toArray, List.map_set]
    rw [List.set_append_left _ _ (by rw [List.length_map, H.2.1]; exact hi)]
    rfl]
  exact this
theorem HBlk.setHave (H : HBlk w g L rest h t) (x : Nat) : HBlk (w.setCell ⟨g, 72, none⟩ (.int .i64 (x : Int))) g L rest x t := by
  refine ⟨?_, H.2.1, H.2.2⟩
  have := BlkIs.stored H.1 72 (.int .i64 (x : Int))
  rw [show (hcells L rest x t).toArray = (hcells L rest h t).toArray.setIfInBounds 72 (.int .i64 (x : Int)) by
    simp only [hcells, List.setIfInBounds_toArray]
    rw [List.set_append_right _ _ (by rw [uvs_length, H.2.1]; omega), uvs_length, H.2.1, List.set_append_right _ _ (by simp [bvs, H.2.2])]
    simp [bvs, H.2.2]]
  exact this
theorem HBlk.setTaken (H : HBlk w g L rest h t) (x : Nat) : HBlk (w.setCell ⟨g, 73, none⟩ (.int .u64 (x : Int))) g L rest h x := by
  refine ⟨?_, H.2.1, H.2.2⟩
  have := BlkIs.stored H.1 73 (.int .u64 (x : Int))
  rw [show (hcells L rest h x).toArray = (hcells L rest h t).toArray.setIfInBounds 73 (.int .u64 (x : Int)) by
    simp only [hcells, List.setIfInBounds_toArray]
    rw [List.set_append_right _ _ (by rw [uvs_length, H.2.1]; omega), uvs_length, H.2.1, List.set_append_right _ _ (by simp [bvs, H.2.2])]
    simp [bvs, H.2.2]]
  exact this
theorem HBlk.keep (H : HBlk w g L rest h t) (hb : w'.heap[g]? = w.heap[g]?) : HBlk w' g L rest h t := ⟨hb.trans H.1, H.2⟩
theorem HBlk.below (H : HBlk w g L rest h t) (hb : Below w.heap.size w w') : HBlk w' g L rest h t := H.keep (hb.block g H.lt)
theorem HBlk.belowB {B : Nat} (H : HBlk w g L rest h t) (hb : Below B w w') (hg : g < B) : HBlk w' g L rest h t := H.keep (hb.block g hg)
theorem HBlk.grown {row : Option Nat} (H : HBlk w g L rest h t) (hb : w.grownBy w' row) (hg : some g ≠ row) : HBlk w' g L rest h t := H.keep (hb.block g H.lt hg)
theorem HBlk.drewN (H : HBlk w g L rest h t) (n : Nat) : HBlk (w.drewN n) g L rest h t := H
theorem HBlk.reads (H : HBlk w g L rest h t) (hB : IsB rest) : RB w (some ⟨g, 8, none⟩) 64 rest :=
  ⟨H.2.2, hB, fun _ => ⟨_, rfl, H.lt, fun j x hj => by
    have hj' : j < 64 := by
      rcases Nat.lt_or_ge j 64 with h | h
      · exact h
      · rw [List.getElem?_eq_none (by rw [H.2.2]; exact h)] at hj; cases hj
    rw [add_lit, H.byte hj']
    simp [List.getD, hj]⟩⟩
end
theorem St.list_length (s : St) : s.list.length = 8 := rfl
theorem St.list_w {s : St} (h : s.Ok) : IsW s.list := by
  obtain ⟨h1, h2, h3, h4, h5, h6, h7, h8⟩ := h
  intro x hx
  simp only [St.list, List.mem_cons, List.not_mem_nil, or_false] at hx
  rcases hx with rfl | rfl | rfl | rfl | rfl | rfl | rfl | rfl <;> assumption
theorem addSt_list (s v : St) {k : Nat} (hk : k < 8) : (addSt s v).list.getD k 0 = (s.list.getD k 0 + v.list.getD k 0) % 4294967296 := by
  rcases k with _ | _ | _ | _ | _ | _ | _ | _ | k
  all_goals first | rfl | omega
/-- The first k of the new state, the old one's behind them. -/
def mixL (s v : St) (k : Nat) : List Nat := (addSt s v).list.take k ++ s.list.drop k
theorem mixL_length (s v : St) {k : Nat} (hk : k ≤ 8) : (mixL s v k).length = 8 := by
  simp only [mixL, List.length_append, List.length_take, List.length_drop, St.list_length]; omega
theorem mixL_at (s v : St) {k : Nat} (hk : k < 8) : (mixL s v k).getD k 0 = s.list.getD k 0 := by
  unfold mixL
  simp only [List.getD]
  rw [List.getElem?_append_right (by rw [List.length_take, St.list_length]; omega), List.length_take, St.list_length, show k - min k 8 = 0 by omega, List.getElem?_drop]
  rfl
theorem mixL_next (s v : St) {k : Nat} (hk : k < 8) : (mixL s v k).set k ((s.list.getD k 0 + v.list.getD k 0) % 4294967296) = mixL s v (k + 1) := by
  unfold mixL
  rw [List.set_append_right _ _ (by rw [List.length_take, St.list_length]; omega), List.length_take, St.list_length, show k - min k 8 = 0 by omega,
    take_succ_getD (by rw [St.list_length]; exact hk), addSt_list s v hk, List.append_assoc]
  congr 1
  rw [List.drop_eq_getElem_cons (show k < s.list.length by rw [St.list_length]; exact hk)]
  rfl
theorem mixL_zero (s v : St) : mixL s v 0 = s.list := rfl
theorem mixL_end (s v : St) : mixL s v 8 = (addSt s v).list := rfl
theorem num {k : IntKind} {a b : Int} (h : a = b) : Value.int k a = .int k b := by rw [h]
/-- 'p[k:]', the cut under a name of its own: no way is parted on whether k is the slice's room. -/
theorem sliceFrom {P : Program} {w : World} {ops : Array Oper} {rest : List Oper} {o : Oper} {a : Act} {Q : Exit → Act → World → Prop} (hgd : o.guard = none) (t : TypeId) (x ix : Operand)
    (ho : o.op = .slice t x (some ix) none none) (ht : P.underlying t = some (.slice (P.elem t))) (hsz : (P.info? (P.elem t)).map (·.size) = some 1) (A : Option Addr) (m d k : Nat) (hx : a.eval x = .slice A m d) (hi : a.eval ix = .int .i64 (k : Int))
    (hk : k ≤ m) (hmd : m ≤ d)
    (h : ∀ B, Hid ((k < m → B = A.map (·.add k)) ∧ (∀ ad, B = some ad → ∃ ad', A = some ad' ∧ ad'.block = ad.block) ∧ (A = none → B = none)) → wpList P ops Q rest (a.put o.dst (.slice B (m - k) (d - k))) w) : wpList P ops Q (o :: rest) a w := by
  refine wpList_plain hgd fun K hK => ?_
  have hs : (sizeOf (P.elem t)).run P w = .ok 1 w := by
    cases hq : P.info? (P.elem t) with
    | none => simp [hq] at hsz
    | some i =>
      have h1 : i.size = 1 := by simpa [hq] using hsz
      simp [sizeOf, typeInfo, hq, h1]
  have hrun : (Instr.sliceAt t (.slice A m d) (some (.int .i64 (k : Int))) none none).run P w = .ok (.slice (if d = k then A else A.map (·.add k)) (m - k) (d - k)) w := by
    rw [run_sliceAt_slice w t _ _ _ _ ht, run_slice_l w t A m d ht .i64 (k : Int) (by omega) (by omega), hs]
    simp only [Result.andThen_ok, sliced, Int.toNat_natCast, Nat.mul_one]
  have h2 := h (if d = k then A else A.map (·.add k)) (show _ ∧ _ ∧ _ from ⟨fun hlt => if_neg (by omega), fun ad e => by
      split at e
      · exact ⟨ad, e, rfl⟩
      · rcases A with _ | b
        · cases e
        · injection e with e
          exact ⟨b, rfl, by rw [← e, block_add]⟩, fun e => by subst e; split <;> rfl⟩)
  unfold Oper.wp execOp
  simp only [ho, hx, hi, Option.map, Sem.run_bind, Sem.run_pure, hrun, Result.andThen_ok]
  exact hK _ _ h2
end Go.Proofs.YtfnlhfaihoojfaaDoor
