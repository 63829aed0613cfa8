/- ledgerlaw1.roomy, intact. -/
import Derived.Test.YtadhjgopekekgaaDoorRoomF
import Derived.Test.YtadhjgopekekgaaDoorDSum
import Derived.Deep.OwnRows
namespace Go.Proofs.YtadhjgopekekgaaDoor
open Go.RowKit
theorem made_zs (n : Nat) : madeCells #[(.int .u8 0 : Value)] n = zarr n := by
  apply Array.ext
  · simp [madeCells, zarr, bvs, zs]
  · intro i h1 h2
    simp [madeCells, zarr, bvs, bv, zs, Nat.mod_one]
/-- 'make([]byte, n)', the world behind it under a name of its own. -/
theorem makeB {P : Program} {ops : Array Oper} {rest : List Oper} {o : Oper} {a : Act} {w : World} {Q : Exit → Act → World → Prop} (hgd : o.guard = none) (l c : Operand) (t : TypeId) (hop : o.op = Op.makeSlice t l c) (e : TypeId)
    (ht : P.underlying t = some (.slice e)) (hinfo : (P.info? e).map (fun i => (i.zero, i.size, i.bytes)) = some (some (.int .u8 0), 1, 1)) (L : Int) (n : Nat) (hl : a.eval l = .int .i64 L) (hc : a.eval c = .int .i64 L) (hL : L = (n : Int)) (hn : n ≤ 281474976710656)
    (h : ∀ w', Hid (BlkB w' w.heap.size e (zs n)) → Hid (Below w.heap.size w w') → Hid (w'.heap.size = w.heap.size + 1) → wpList P ops Q rest (a.put o.dst (.slice (some ⟨w.heap.size, 0, none⟩) n n)) w') : wpList P ops Q (o :: rest) a w := by
  subst hL
  obtain ⟨i, hi, hz0, hz1, hz2⟩ := info_parts hinfo
  refine wpList_make_row w hgd l c t hop e i (.int .u8 0) ht hi hz0 hz1 rfl .i64 .i64 n hl hc (by rw [hz2]; omega) (by omega) ?_
  refine h _ ?_ ((Below.refl _ _).alloc (Nat.le_refl _) _) (by show _ = _; simp)
  rw [made_zs]
  exact zarr_blk n w e
def m80 : List Nat := List.replicate 80 165
theorem m80_length : m80.length = 80 := by simp [m80]
def roomJ (xs : List Nat) (j : Nat) : List Nat := xs ++ (List.replicate j 165 ++ zs (80 - j))
theorem roomJ_length (xs : List Nat) {j : Nat} (h : j ≤ 80) : (roomJ xs j).length = xs.length + 80 := by simp [roomJ, zs]; omega
theorem roomJ_next (xs : List Nat) {j : Nat} (h : j < 80) : (roomJ xs j).set (xs.length + j) 165 = roomJ xs (j + 1) := by
  unfold roomJ zs
  rw [List.set_append_right _ _ (by omega), show xs.length + j - xs.length = j by omega, List.set_append_right _ _ (by simp), List.length_replicate, Nat.sub_self, show 80 - j = (80 - (j + 1)) + 1 by omega, List.replicate_succ, List.set_cons_zero, List.replicate_succ']
  simp
theorem roomJ_end (xs : List Nat) : roomJ xs 80 = xs ++ m80 := by simp [roomJ, m80, zs]
theorem roomJ_zero (xs : List Nat) {n : Nat} (h : xs.length = n) : splice (zs (n + 80)) 0 xs = roomJ xs 0 := by
  unfold splice roomJ
  rw [List.take_zero, List.nil_append, Nat.zero_add, h, zs_split, List.drop_left' (zs_length n)]
  simp
def RoomyPost (n : Nat) (xs : List Nat) (w : World) (e : Ending) (w' : World) : Prop :=
  ∃ g, e = .returned (.slice (some ⟨g, 0, none⟩) (n + 80) (n + 80)) ∧ w.heap.size ≤ g ∧ BlkB w' g 5 (xs ++ m80) ∧ Below w.heap.size w w'
set_option maxHeartbeats 1000000 in
theorem roomy1_any (A : Option Addr) (n c : Nat) (xs : List Nat) (w : World) (hx : RB w A n xs) (hn : n + 80 ≤ 140737488355328) :
    Calls Tryd.prog 10 #[.slice A n c] w (RoomyPost n xs w) := by
  have HX := Lib.hid hx
  have hlx := hx.1
  have HLX := Lib.hid hlx
  clear hx hlx
  go_enter Tryd.func10, Tryd.ntmps10
  go_wp2_with (first
    | ((with_reducible refine stopAt (o := ⟨some 8, _, _, _, _, _⟩) ?_); refine makeB (o := ⟨some 8, _, _, _, _, _⟩) (by rfl) (.tmp 7) (.tmp 7) 26 rfl 5 und_bytes info_byte _ (n + 80) rfl rfl (by omega) (by omega) ?_; intro w1 HB1 HW1 HS1; (try simp only [Act.put, List.setIfInBounds_toArray, List.set_cons_zero, List.set_cons_succ]))
    | ((with_reducible refine stopAt (o := ⟨some 11, _, _, _, _, _⟩) ?_); refine copyB (o := ⟨some 11, _, _, _, _, _⟩) (by rfl) (.tmp 9) (.tmp 10) 26 26 rfl 5 und_bytes byte_size A w.heap.size 0 (n + 80) (n + 80) n c rfl rfl (zs (n + 80)) 5 HB1.out _ (HX.out.below HW1.out) (by omega) (by rw [zs_length]; omega) w.heap.size w HW1.out (Nat.le_refl _) ?_; intro w2 HB2 HW2; rw [roomJ_zero xs HLX.out] at HB2; have HW2 := Lib.hid HW2; (try simp only [Act.put, List.setIfInBounds_toArray, List.set_cons_zero, List.set_cons_succ])))
  go_loopw [4] (fun i wr => ∃ j : Nat, j ≤ 80 ∧ i = .int .i64 ((n + j : Nat) : Int) ∧ Hid (BlkB wr w.heap.size 5 (roomJ xs j)) ∧ Hid (Below w.heap.size w wr)) (fun i _ => n + 80 - (intOf i).toNat)
  case atStart => exact ⟨0, by omega, rfl, HB2.out, HW2.out⟩
  case round =>
    clear HB2 HW2
    obtain ⟨j, hj, rfl, HB, HW⟩ := hrel
    by_cases hlt : j < 80
    · have hlr : (roomJ xs j).length = n + 80 := by rw [roomJ_length xs hj, HLX.out]
      have cc := HB.out.cell (i := n + j) (by omega)
      have cf := BlkIs.frozen HB.out (n + j)
      have HBn : Hid (BlkB (wr.setCell ⟨w.heap.size, n + j, none⟩ (.int .u8 165)) w.heap.size 5 (roomJ xs (j + 1))) := by
        have h := HB.out.set (n + j) 165
        rw [← HLX.out, roomJ_next xs hlt, HLX.out] at h
        exact h
      have HWn : Hid (Below w.heap.size w (wr.setCell ⟨w.heap.size, n + j, none⟩ (.int .u8 165))) := HW.out.setCell (Nat.le_refl _) _
      generalize (roomJ xs j).getD (n + j) 0 = z at *
      clear hlr
      go_wp2_with fail
      go_roundw
      case rel => exact ⟨j + 1, by omega, by go_num, HBn.out, HWn.out⟩
      case measure => simp [intOf]; omega
    · have HF : Hid (BlkB wr w.heap.size 5 (xs ++ m80)) := by
        have h := HB.out
        rwa [show j = 80 by omega, roomJ_end] at h
      go_wp2_with fail
      go_ret
      exact ⟨w.heap.size, rfl, Nat.le_refl _, HF.out, HW.out⟩
end Go.Proofs.YtadhjgopekekgaaDoor
