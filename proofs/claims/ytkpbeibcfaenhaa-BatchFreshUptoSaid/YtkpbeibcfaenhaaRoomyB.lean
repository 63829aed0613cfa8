/- ledgerlaw3.roomy, roomyIs. -/
import Derived.Test.YtkpbeibcfaenhaaGb
import Derived.Test.YtkpbeibcfaenhaaGa
import Derived.Deep.OwnRows
namespace Go.Proofs.Ytkpbeibcfaenhaa
open Go.RowKit
theorem made_zs (n : Nat) : madeCells #[(.int .u8 0 : Value)] n = zarr n := by
  apply Array.ext
  · simp [madeCells, zarr, bvs, zs]
  · intro i h1 h2
    simp [madeCells, zarr, bvs, bv, zs, Nat.mod_one]
/-- 'make([]byte, n)', the world behind it under a name of its own. -/
theorem makeB {P : Program} {ops : Array Oper} {rest : List Oper} {o : Oper} {a : Act} {w : World} {Q : Exit → Act → World → Prop} (hgd : o.guard = none) (l c : Operand) (t : TypeId) (hop : o.op = Op.makeSlice t l c) (e : TypeId)
    (ht : P.underlying t = some (.slice e)) (hinfo : (P.info? e).map (fun i => (i.zero, i.size, i.bytes)) = some (some (.int .u8 0), 1, 1)) (L : Int) (n : Nat) (hl : a.eval l = .int .i64 L) (hc : a.eval c = .int .i64 L) (hL : L = (n : Int)) (hn : n ≤ 281474976710656)
    (h : ∀ w', Hid (BlkB w' w.heap.size e (zs n)) → Hid (Below w.heap.size w w') → Hid (w'.heap.size = w.heap.size + 1) → wpList P ops Q rest (a.put o.dst (.slice (some ⟨w.heap.size, 0, none⟩) n n)) w') : wpList P ops Q (o :: rest) a w := by
  subst hL
  obtain ⟨i, hi, hz0, hz1, hz2⟩ := info_parts hinfo
  refine wpList_make_row w hgd l c t hop e i (.int .u8 0) ht hi hz0 hz1 rfl .i64 .i64 n hl hc (by rw [hz2]; omega) (by omega) ?_
  refine h _ ?_ ((Below.refl _ _).alloc (Nat.le_refl _) _) (by show _ = _; simp)
  rw [made_zs]
  exact zarr_blk n w e
/-- What stands behind a text in its list. -/
def m100 : List Nat := (List.range 100).map (101 + ·)
theorem m100_length : m100.length = 100 := by simp [m100]
theorem m100_isB : IsB m100 := fun x hx => by
  simp [m100] at hx
  omega
def rooN (xs : List Nat) : List Nat := xs ++ m100
theorem rooN_length (xs : List Nat) : (rooN xs).length = xs.length + 100 := by simp [rooN, m100]
theorem rooN_isB {xs : List Nat} (h : IsB xs) : IsB (rooN xs) := h.app m100_isB
theorem rooN_take (xs : List Nat) : (rooN xs).take xs.length = xs := by simp [rooN]
theorem rooN_low {xs : List Nat} {i : Nat} (h : i < xs.length) : (rooN xs).getD i 0 = xs.getD i 0 := by simp [rooN, List.getD, List.getElem?_append_left h]
theorem rooN_high {xs : List Nat} {i : Nat} (h : xs.length ≤ i) (h2 : i < xs.length + 100) : (rooN xs).getD i 0 = 101 + (i - xs.length) := by
  simp only [rooN, List.getD, List.getElem?_append_right h, m100, List.getElem?_map]
  rw [List.getElem?_range (by omega)]
  rfl
/-- The list when i places are written. -/
def rooJ (xs : List Nat) (i : Nat) : List Nat := (rooN xs).take i ++ zs (xs.length + 100 - i)
theorem rooJ_length {xs : List Nat} {i : Nat} (h : i ≤ xs.length + 100) : (rooJ xs i).length = xs.length + 100 := by
  simp [rooJ, zs, rooN_length]
  omega
theorem rooJ_zero (xs : List Nat) : rooJ xs 0 = zs (xs.length + 100) := by simp [rooJ]
theorem rooJ_end (xs : List Nat) : rooJ xs (xs.length + 100) = rooN xs := by
  unfold rooJ
  rw [List.take_of_length_le (by rw [rooN_length]; exact Nat.le_refl _)]
  simp [zs]
theorem rooJ_next {xs : List Nat} {i : Nat} (h : i < xs.length + 100) : (rooJ xs i).set i ((rooN xs).getD i 0) = rooJ xs (i + 1) := by
  have hl : ((rooN xs).take i).length = i := by rw [List.length_take, rooN_length]; omega
  unfold rooJ
  rw [List.set_append_right _ _ (by omega), hl, Nat.sub_self, show xs.length + 100 - i = (xs.length + 100 - (i + 1)) + 1 by omega, zs, List.replicate_succ, List.set_cons_zero, take_succ_getD (by rw [rooN_length]; exact h)]
  simp [zs]
def RoomyPost (n : Nat) (xs : List Nat) (w : World) (e : Ending) (w' : World) : Prop :=
  ∃ g, e = .returned (.slice (some ⟨g, 0, none⟩) ((n + 100 : Nat)) ((n + 100 : Nat))) ∧ w.heap.size ≤ g ∧ BlkB w' g 5 (rooN xs) ∧ Below w.heap.size w w'
set_option maxHeartbeats 1000000 in
theorem roomy_any (A : Option Addr) (n c : Nat) (xs : List Nat) (w : World) (hx : RB w A n xs) (hn : n + 100 ≤ 140737488355328) :
    Calls Try.prog 51 #[.slice A n c] w (RoomyPost n xs w) := by
  have HX := Lib.hid hx
  have HLX := Lib.hid hx.1
  clear hx
  go_enter Try.func51, Try.ntmps51
  go_wp2_with ((with_reducible refine stopAt (o := ⟨some 8, _, _, _, _, _⟩) ?_); refine makeB (o := ⟨some 8, _, _, _, _, _⟩) (by rfl) (.tmp 7) (.tmp 7) 31 rfl 5 und_bytes info_byte _ (n + 100) rfl rfl (by omega) (by omega) ?_; intro w1 HB1 HW1 HS1)
  obtain ⟨N, hN⟩ : ∃ N, n + 100 = N := ⟨_, rfl⟩
  have HN := Lib.hid hN
  rw [hN] at HB1 ⊢
  clear hN
  go_loopw [4] (fun i wr => ∃ j : Nat, j ≤ N ∧ i = .int .i64 (j : Int) ∧ Hid (BlkB wr w.heap.size 5 (rooJ xs j)) ∧ Hid (Below w.heap.size w wr)) (fun i _ => N - (intOf i).toNat)
  case atStart => exact ⟨0, by omega, rfl, by have h := HB1.out; rwa [← HN.out, ← HLX.out, ← rooJ_zero] at h, HW1.out⟩
  case round =>
    clear HB1 HW1 HS1
    obtain ⟨j, hj, rfl, HB, HW⟩ := hrel
    have hNn := HN.out
    by_cases hlt : j < N
    · have hlt' : (j : Int) < N := by omega
      have hlr : (rooJ xs j).length = N := by rw [rooJ_length (by rw [HLX.out]; omega), HLX.out, HN.out]
      have cc := HB.out.cell (i := j) (by omega)
      have cf := BlkIs.frozen HB.out j
      have hset := fun (x : Nat) (h : (rooN xs).getD j 0 = x) => (by
        have h1 := HB.out.set j x
        rw [← h, rooJ_next (by rw [HLX.out]; omega), h] at h1
        exact h1 : BlkB (wr.setCell ⟨w.heap.size, j, none⟩ (.int .u8 (x : Int))) w.heap.size 5 (rooJ xs (j + 1)))
      have hbel := fun (x : Nat) => HW.out.setCell (p := ⟨w.heap.size, j, none⟩) (Nat.le_refl _) (.int .u8 (x : Int))
      by_cases hjn : j < n
      · have hjn' : (j : Int) < n := by omega
        obtain ⟨ad, rfl, hb, hcell⟩ := (HX.out.below HW.out).at_ hjn
        have HS := Lib.hid (hset (xs.getD j 0) (rooN_low (by rw [HLX.out]; exact hjn)))
        have HL := Lib.hid (hbel (xs.getD j 0))
        generalize (rooJ xs j).getD j 0 = z at *
        generalize xs.getD j 0 = x at *
        clear hset hbel hlr
        go_wp2_with fail
        go_roundw
        case rel => exact ⟨j + 1, by omega, by go_num, HS.out, HL.out⟩
        case measure => simp [intOf]; omega
      · have hjn' : ¬ (j : Int) < n := by omega
        have HS := Lib.hid (hset (101 + (j - n)) (by rw [rooN_high (by rw [HLX.out]; omega) (by rw [HLX.out]; omega), HLX.out]))
        have HL := Lib.hid (hbel (101 + (j - n)))
        have hcv : IntKind.u8.wrap (101 + (j : Int) - (n : Int)) = ((101 + (j - n) : Nat) : Int) := by
          rw [IntKind.wrap_u8]
          omega
        generalize (rooJ xs j).getD j 0 = z at *
        clear hset hbel hlr
        generalize 101 + (j - n) = x at *
        go_wp2_with fail
        go_roundw
        case rel => exact ⟨j + 1, by omega, by go_num, HS.out, HL.out⟩
        case measure => simp [intOf]; omega
    · have hlt' : ¬ (j : Int) < N := by omega
      have HF : Hid (BlkB wr w.heap.size 5 (rooN xs)) := by
        have h := HB.out
        rwa [show j = xs.length + 100 by rw [HLX.out]; omega, rooJ_end] at h
      clear hNn
      go_wp2_with fail
      go_ret
      exact ⟨w.heap.size, by rw [HN.out]; rfl, Nat.le_refl _, HF.out, HW.out⟩
theorem BlkB.rb {w : World} {g : Nat} {t : TypeId} {xs : List Nat} {n : Nat} (h : BlkB w g t (rooN xs)) (hB : IsB xs) (hn : xs.length = n) : RB w (some ⟨g, 0, none⟩) (n + 100) (rooN xs) := h.whole (rooN_isB hB) (by rw [rooN_length, hn])
set_option maxHeartbeats 400000 in
theorem roomyIs_true {A B : Option Addr} {n c d : Nat} {xs : List Nat} {w : World} (hm : RB w A (n + 100) (rooN xs)) (hx : RB w B n xs) (hn : n + 100 ≤ 140737488355328) :
    Calls Try.prog 53 #[.slice A ((n + 100 : Nat)) c, .slice B n d] w fun e w' => e = .returned (.bool true) ∧ Below w.heap.size w w' := by
  have HM := Lib.hid hm
  have HX := Lib.hid hx
  obtain ⟨N, hN⟩ : ∃ N, n + 100 = N := ⟨_, rfl⟩
  rw [hN] at HM ⊢
  clear hm hx
  go_enter Try.func53, Try.ntmps53
  go_wp2_with fail
  refine (roomy_any B n d xs w HX.out hn).mono ?_
  rintro e w1 ⟨g, rfl, hg, hb, hw⟩
  rw [hN]
  have HB1 := Lib.hid hw
  have HR1 : Hid (RB w1 (some ⟨g, 0, none⟩) N (rooN xs)) := hN ▸ hb.rb HX.out.isB HX.out.1
  clear hg hb hw
  go_wp2_with fail
  refine (sameBytes_true (HM.out.below HB1.out) HR1.out (by omega) rfl).mono ?_
  rintro e w2 ⟨rfl, q, rfl⟩
  have HB2 := Lib.hid (drewN_below HB1.out q)
  go_wp2_with fail
  go_ret
  exact ⟨rfl, HB2.out⟩
end Go.Proofs.Ytkpbeibcfaenhaa
