/- Ones, Reader, Touch (merged) -/
import Derived.Test.YtfnlhfaihoojfaaDoorMb
import Derived.Lib.BitFns
import Derived.Deep.QuietTactic
import Derived.BigQuiet
import Derived.WalkSpells
import Derived.Laws.OwnMore
/- bits.OnesCount8, proof.ones. -/
namespace Go.Proofs.YtfnlhfaihoojfaaDoor
open Go.RowKit
theorem onesCount_ones8 : ∀ x : Fin 256, Lib.onesCount x.val = ones8 x.val := by decide +kernel
set_option maxRecDepth 100000 in
theorem pop8_all (x : Int) (w : World) (h0 : 0 ≤ x) (h1 : x ≤ 255) :
    Calls Tryd.prog 87 #[.int .u8 x] w fun e w' => e = .returned (.int .i64 (Lib.onesCount x.toNat)) ∧ w' = w := by
  rw [← Lib.pop8_int x h0 h1]
  go_enter Tryd.func87, Tryd.ntmps87
  go_wp2
  go_ret
  refine ⟨?_, rfl⟩
  generalize Lib.pop8 x = l
  show Ending.returned (.int .i64 (wrap64 l)) = _
  congr 2
  unfold wrap64
  omega
theorem pop8_any (x : Nat) (w : World) (hx : x < 256) :
    Calls Tryd.prog 87 #[.int .u8 x] w fun e w' => e = .returned (.int .i64 (ones8 x : Nat)) ∧ w' = w := by
  have h := pop8_all (x : Int) w (by omega) (by omega)
  rw [Int.toNat_natCast, show Lib.onesCount x = ones8 x from onesCount_ones8 ⟨x, hx⟩] at h
  exact h
theorem ones8_le (x : Nat) : ones8 x ≤ 8 := by unfold ones8; omega
theorem onesN_le {ds : List Nat} : onesN ds ≤ 8 * ds.length := by
  induction ds with
  | nil => simp [onesN]
  | cons x r ih =>
    have := ones8_le x
    unfold onesN at ih ⊢
    simp only [List.map_cons, List.sum_cons, List.length_cons]
    omega
theorem onesN_take {ds : List Nat} {k : Nat} (h : k < ds.length) : onesN (ds.take (k + 1)) = onesN (ds.take k) + ones8 (ds.getD k 0) := by
  rw [take_succ_getD h]
  unfold onesN
  rw [List.map_append, List.sum_append]
  simp
theorem und_bits : Tryd.prog.underlying 28 = some (.array 32 5) := by kernel_rfl
set_option maxRecDepth 100000 in
set_option maxHeartbeats 1000000 in
theorem ones_any (ds : List Nat) (w : World) (hB : IsB ds) (hl : ds.length = 32) :
    Calls Tryd.prog 79 #[.agg (bvs ds).toArray] w fun e w' => e = .returned (.int .i64 (onesN ds : Nat)) ∧ Below w.heap.size w w' := by
  have HB := Lib.hid hB
  have HL := Lib.hid hl
  clear hB hl
  go_enter Tryd.func79, Tryd.ntmps79
  go_wp2_with (with_reducible refine stopAt (o := ⟨some 6, _, _, _, _, _⟩) ?_)
  refine start1 (G := fun w2 => Hid (wpList _ _ _ _ _ w2)) fun w2 HD0 HW HS => ?_
  have HD2 : Hid (BlkB w2 w.heap.size 28 ds) := HD0
  clear HD0 HS
  refine Lib.hid ?_
  go_wp2_with (refine wpList_load_arr (o := ⟨some 6, _, _, _, _, _⟩) (by rfl) 28 (.tmp 1) rfl ⟨w.heap.size, 0, none⟩ 32 ds rfl (HD2.out.whole HB.out HL.out) (by omega) (by kernel_rfl) (by kernel_rfl) ?_)
  clear HD2
  go_loop [3, 5, 7] (fun n _ i => ∃ k : Nat, i = .int .i64 (k : Int) ∧ Hid (k ≤ 32) ∧ n = .int .i64 (onesN (ds.take k) : Nat)) (fun _ _ i => 32 - (intOf i).toNat)
  case atStart => exact ⟨0, rfl, Nat.zero_le _, rfl⟩
  case round =>
    obtain ⟨k, rfl, HK, rfl⟩ := hrel
    have hk32 : (k : Int) ≤ 32 := by have := HK.out; omega
    by_cases hlt : (k : Int) < 32
    · have hx8 := HB.out _ (getD_mem (show k < ds.length by rw [HL.out]; omega))
      have hix : ∀ w : World, (Instr.index 28 (.agg (bvs ds).toArray) (.int .i64 (k : Int))).run Tryd.prog w = .ok (.int .u8 (ds.getD k 0 : Nat)) w := fun w => by
        have h3 : (bvs ds).toArray[k]? = some (.int .u8 (ds.getD k 0 : Nat)) := by
          rw [List.getElem?_toArray, bvs, List.getElem?_map, getD_of_lt (by rw [HL.out]; omega)]
          rfl
        exact index_at w und_bits (by kernel_rfl) byte_size (by omega) h3
      have HN : Hid (onesN (ds.take (k + 1)) = onesN (ds.take k) + ones8 (ds.getD k 0)) := onesN_take (by rw [HL.out]; omega)
      have HP := Lib.hid (fun W => pop8_any (ds.getD k 0) W hx8)
      have h1 := onesN_le (ds := ds.take k)
      have h2 : (ds.take k).length ≤ 32 := by rw [List.length_take]; omega
      have h3 : ((onesN (ds.take k) : Nat) : Int) ≤ 256 := by omega
      have h4 := ones8_le (ds.getD k 0)
      clear h1 h2
      generalize onesN (ds.take k) = m at *
      generalize ones8 (ds.getD k 0) = z at *
      generalize ds.getD k 0 = x at *
      go_wp2_with fail
      refine (HP.out w2).mono ?_
      rintro e w3 ⟨rfl, rfl⟩
      go_wp2_with fail
      go_round
      case rel => exact ⟨k + 1, by go_num, (show k + 1 ≤ 32 by omega), by rw [HN.out]; go_num⟩
      case measure => simp [intOf]; omega
    · obtain rfl : k = 32 := by omega
      go_wp2_with fail
      go_ret
      exact ⟨by rw [List.take_of_length_le (by rw [HL.out]; exact Nat.le_refl _)]; rfl, HW.out⟩
end Go.Proofs.YtfnlhfaihoojfaaDoor

/- proof.reader: take, number. -/
namespace Go.Proofs.YtfnlhfaihoojfaaDoor
open Go.RowKit
/-- A reader's two cells. -/
abbrev RdIs (w : World) (g : Nat) (A : Option Addr) (n c : Nat) (s : Bool) : Prop := BlkIs w g 122 #[.slice A n c, .bool s]
theorem rd_cells {w : World} {g : Nat} {A : Option Addr} {n c : Nat} {s : Bool} (h : RdIs w g A n c s) : w.cell? ⟨g, 0, none⟩ = some (.slice A n c) ∧ w.cell? ⟨g, 1, none⟩ = some (.bool s) ∧ w.frozen? ⟨g, 0, none⟩ = false ∧ w.frozen? ⟨g, 1, none⟩ = false := ⟨h.cell 0, h.cell 1, h.frozen 0, h.frozen 1⟩
def TookShort (g : Nat) (w : World) (e : Ending) (w' : World) : Prop := e = .returned (.slice none 0 0) ∧ RdIs w' g none 0 0 true ∧ w.grownBy w' (some g)
def TookOk (g : Nat) (A : Option Addr) (n c k : Nat) (s : Bool) (w : World) (e : Ending) (w' : World) : Prop :=
  e = .returned (.slice A k k) ∧ (∃ A', RdIs w' g A' (n - k) (c - k) s ∧ (k < n → A' = A.map (·.add k)) ∧ (A' = none → c - k = 0) ∧ ∀ ad', A' = some ad' → ∃ ad, A = some ad ∧ ad'.block = ad.block) ∧ w.grownBy w' (some g)
set_option maxHeartbeats 400000 in
theorem take_short (g : Nat) (A : Option Addr) (n c k : Nat) (s : Bool) (w : World) (h : RdIs w g A n c s) (hk : n < k) :
    Calls Tryd.prog 78 #[.pointer (some ⟨g, 0, none⟩), .int .i64 k] w (TookShort g w) := by
  obtain ⟨c0, c1, f0, f1⟩ := rd_cells h
  have hs1 : Hid (RdIs (w.setCell ⟨g, 1, none⟩ (.bool true)) g A n c true) := BlkIs.stored h 1 _
  obtain ⟨d0, d1, e0, e1⟩ := rd_cells hs1.out
  have hs2 : Hid (RdIs ((w.setCell ⟨g, 1, none⟩ (.bool true)).setCell ⟨g, 0, none⟩ (.slice none 0 0)) g none 0 0 true) := BlkIs.stored hs1.out 0 _
  have hg : Hid (w.grownBy ((w.setCell ⟨g, 1, none⟩ (.bool true)).setCell ⟨g, 0, none⟩ (.slice none 0 0)) (some g)) := grown_trans (grown_setCell w 1 _) (grown_setCell _ 0 _)
  have hlt : (n : Int) < k := by omega
  clear h hk
  go_enter Tryd.func78, Tryd.ntmps78
  go_wp2_with fail
  go_ret
  exact ⟨rfl, hs2.out, hg.out⟩
set_option maxHeartbeats 800000 in
theorem take_ok (g : Nat) (A : Option Addr) (n c k : Nat) (s : Bool) (w : World) (h : RdIs w g A n c s) (hk : k ≤ n) (hnc : n ≤ c) (hA : A = none → c = 0) (hc : c ≤ maxLen) :
    Calls Tryd.prog 78 #[.pointer (some ⟨g, 0, none⟩), .int .i64 k] w (TookOk g A n c k s w) := by
  obtain ⟨c0, c1, f0, f1⟩ := rd_cells h
  have HH : Hid (RdIs w g A n c s) := h
  unfold maxLen at hc
  have hk1 : ¬ (n : Int) < k := by omega
  have hk2 : (k : Int) ≤ n := by omega
  have hk3 : (n : Int) ≤ c := by omega
  have hk4 : (c : Int) ≤ 9223372036854775807 := by omega
  have HAD : Hid (A = none → c = 0) := hA
  clear h hA
  rcases A with _ | ad
  · have hc0 := HAD.out rfl
    obtain rfl : c = 0 := hc0
    obtain rfl : n = 0 := by omega
    obtain rfl : k = 0 := by omega
    clear hk hnc hc hk1 hk2 hk3 hk4
    go_enter Tryd.func78, Tryd.ntmps78
    go_wp2_with fail
    go_ret
    exact ⟨rfl, ⟨none, BlkIs.stored HH.out 0 _, fun h => by omega, fun _ => rfl, fun _ h => by cases h⟩, grown_setCell _ 0 _⟩
  · by_cases hck : c = k
    · obtain rfl : n = k := by omega
      subst hck
      clear hk hnc hc hk1 hk2 hk3
      go_enter Tryd.func78, Tryd.ntmps78
      go_wp2_with fail
      go_ret
      exact ⟨rfl, ⟨some ad, by rw [Nat.sub_self]; exact BlkIs.stored HH.out 0 _, fun h => by omega, fun h => (by cases h), fun ad' h => ⟨ad, rfl, by injection h with h; rw [h]⟩⟩, grown_setCell _ 0 _⟩
    · clear hk hnc hc
      go_enter Tryd.func78, Tryd.ntmps78
      go_wp2_with fail
      go_ret
      exact ⟨rfl, ⟨some (ad.add k), BlkIs.stored HH.out 0 _, fun _ => rfl, fun h => (by cases h), fun ad' h => ⟨ad, rfl, by injection h with h; rw [← h, block_add]⟩⟩, grown_setCell _ 0 _⟩
theorem nil_no (ad : Addr) (n c : Nat) (w : World) : (binOp .eql 22 (.slice (some ad) n c) (.slice none 0 0)).run Tryd.prog w = .ok (.bool false) w := by
  rw [Lib.run_eql_slice_nil w 22 5 (some ad) n c 0 0 und_bytes]
  rfl
theorem nil_yes (w : World) : (binOp .eql 22 (.slice none 0 0) (.slice none 0 0)).run Tryd.prog w = .ok (.bool true) w := by
  rw [Lib.run_eql_slice_nil w 22 5 none 0 0 0 0 und_bytes]
  rfl
/-- Two bytes, the lowest first; 0 where there are not so many. -/
def numN (xs : List Nat) : Nat := xs.getD 0 0 + 256 * xs.getD 1 0
theorem or16 (x y : Nat) (hx : x < 256) (hy : y < 256) : bits .or .i64 (x : Int) ((y : Int) * 256) = ((x + 256 * y : Nat) : Int) := by
  show IntKind.i64.wrap ((BitVec.ofInt 64 (x : Int) ||| BitVec.ofInt 64 ((y : Int) * 256)).toNat : Int) = _
  have e : ((y : Int)) * 256 = ((256 * y : Nat) : Int) := by omega
  rw [e, BitVec.toNat_or, ofInt64 _ (by omega), ofInt64 _ (by omega), Nat.or_comm]
  have h := Nat.two_pow_add_eq_or_of_lt (show x < 2 ^ 8 by omega) y
  rw [show 256 * y ||| x = 2 ^ 8 * y + x from h.symm, IntKind.wrap_i64]
  omega
theorem number_short (g : Nat) (A : Option Addr) (n c : Nat) (s : Bool) (w : World) (h : RdIs w g A n c s) (hk : n < 2) :
    Calls Tryd.prog 86 #[.pointer (some ⟨g, 0, none⟩)] w fun e w' => e = .returned (.int .i64 0) ∧ RdIs w' g none 0 0 true ∧ w.grownBy w' (some g) := by
  have HT := Lib.hid (take_short g A n c 2 s w h (by omega))
  clear h hk
  go_enter Tryd.func86, Tryd.ntmps86
  go_wp2_with fail
  refine HT.out.mono ?_
  rintro e w1 ⟨rfl, h1, h2⟩
  have H1 := Lib.hid h1
  have H2 := Lib.hid h2
  clear h1 h2
  have hny := nil_yes w1
  go_wp2_with fail
  go_ret
  exact ⟨rfl, H1.out, H2.out⟩
set_option maxRecDepth 20000 in
set_option maxHeartbeats 800000 in
theorem number_ok (g : Nat) (A : Option Addr) (n c : Nat) (xs : List Nat) (s : Bool) (w : World) (h : RdIs w g A n c s) (hx : RB w A n xs) (hg : ∀ ad, A = some ad → ad.block ≠ g) (hk : 2 ≤ n) (hnc : n ≤ c) (hA : A = none → c = 0) (hc : c ≤ maxLen) :
    Calls Tryd.prog 86 #[.pointer (some ⟨g, 0, none⟩)] w fun e w' => e = .returned (.int .i64 (numN xs : Nat)) ∧ (∃ A', RdIs w' g A' (n - 2) (c - 2) s ∧ (2 < n → A' = A.map (·.add 2)) ∧ (A' = none → c - 2 = 0) ∧ ∀ ad', A' = some ad' → ∃ ad, A = some ad ∧ ad'.block = ad.block) ∧ w.grownBy w' (some g) := by
  have HT := Lib.hid (take_ok g A n c 2 s w h hk hnc hA hc)
  have HX := Lib.hid hx
  have HG := Lib.hid hg
  obtain ⟨ad, rfl, _, _⟩ := hx.at_ (show 0 < n by omega)
  have b0 := hx.isB _ (getD_mem (show 0 < xs.length by rw [hx.1]; omega))
  have b1 := hx.isB _ (getD_mem (show 1 < xs.length by rw [hx.1]; omega))
  have HNU : Hid (numN xs = xs.getD 0 0 + 256 * xs.getD 1 0) := rfl
  have HK := Lib.hid hk
  have HRD : Hid (∀ W, RB W (some ad) n xs → W.cell? ad = some (.int .u8 (xs.getD 0 0 : Nat)) ∧ W.cell? (ad.add 1) = some (.int .u8 (xs.getD 1 0 : Nat))) := fun W hX => by
    obtain ⟨_, e0, _, hc0⟩ := hX.at_ (show 0 < n by omega)
    injection e0 with e0
    subst e0
    obtain ⟨_, e1, _, hc1⟩ := hX.at_ (show 1 < n by omega)
    injection e1 with e1
    subst e1
    rw [show ad.add 0 = ad by simp [Addr.add]] at hc0
    exact ⟨hc0, hc1⟩
  clear h hx hg hk hnc hA hc
  obtain ⟨xl, HXL⟩ : ∃ xl, Hid (xl = xs) := ⟨_, rfl⟩
  have HXE : Hid (RB w (some ad) n xl) := by rw [HXL.out]; exact HX.out
  have HRE : Hid (∀ W, RB W (some ad) n xl → W.cell? ad = some (.int .u8 (xs.getD 0 0 : Nat)) ∧ W.cell? (ad.add 1) = some (.int .u8 (xs.getD 1 0 : Nat))) := by rw [HXL.out]; exact HRD.out
  clear HX HRD HXL
  generalize xs.getD 0 0 = x0 at *
  generalize xs.getD 1 0 = x1 at *
  have HO := Lib.hid (or16 x0 x1 b0 b1)
  go_enter Tryd.func86, Tryd.ntmps86
  go_wp2_with fail
  refine HT.out.mono ?_
  rintro e w1 ⟨rfl, h1, h2⟩
  have H1 := Lib.hid h1
  have H2 := Lib.hid h2
  obtain ⟨c0, c1⟩ := HRE.out w1 (HXE.out.grownBy h2 fun _ ad' e => by
    injection e with e
    subst e
    intro e2
    injection e2 with e2
    exact HG.out ad rfl e2)
  clear h1 h2
  have c2 := cell_add (k := 1) (by decide) c1
  clear c1
  have hx0 : IntKind.i64.wrap (x0 : Int) = x0 := by rw [IntKind.wrap_i64]; omega
  have hx1 : IntKind.i64.wrap (x1 : Int) = x1 := by rw [IntKind.wrap_i64]; omega
  have hx2 : IntKind.i64.wrap ((x1 : Int) * 256) = (x1 : Int) * 256 := by rw [IntKind.wrap_i64]; omega
  have ho := HO.out
  have hnn := nil_no ad 2 2 w1
  go_wp2_with fail
  go_quiet (fail)
  go_wp2_with fail
  go_ret
  obtain ⟨A', q1, q2, q3⟩ := H1.out
  refine ⟨?_, ⟨A', q1, q2, q3⟩, ⟨H2.out.os, H2.out.tape, H2.out.output, H2.out.size, H2.out.block⟩⟩
  rw [HNU.out]
  push_cast
  rfl
end Go.Proofs.YtfnlhfaihoojfaaDoor

/- What a call may have changed. No program is named here. -/
namespace Go.Proofs.YtfnlhfaihoojfaaDoor
open Go.RowKit
/-- Nothing that stood outside U has changed. -/
structure Touch (U : Nat → Prop) (w w' : World) : Prop where
  os : w'.os = w.os
  tape : w'.tape = w.tape
  output : w'.output = w.output
  size : w.heap.size ≤ w'.heap.size
  block : ∀ k, k < w.heap.size → ¬ U k → w'.heap[k]? = w.heap[k]?
section
variable {U V : Nat → Prop} {w w' w'' : World}
theorem Touch.refl (U : Nat → Prop) (w : World) : Touch U w w := ⟨rfl, rfl, rfl, Nat.le_refl _, fun _ _ _ => rfl⟩
theorem Touch.mono (h : Touch U w w') (hv : ∀ k, k < w.heap.size → U k → V k) : Touch V w w' := ⟨h.os, h.tape, h.output, h.size, fun k hk hn => h.block k hk fun hu => hn (hv k hk hu)⟩
theorem Touch.trans (h : Touch U w w') (k : Touch U w' w'') : Touch U w w'' :=
  ⟨k.os.trans h.os, k.tape.trans h.tape, k.output.trans h.output, Nat.le_trans h.size k.size, fun i hi hn => (k.block i (Nat.lt_of_lt_of_le hi h.size) hn).trans (h.block i hi hn)⟩
theorem Touch.grown {row : Option Nat} (h : w.grownBy w' row) : Touch (fun k => some k = row) w w' := ⟨h.os, h.tape, h.output, h.size, fun k hk hn => h.block k hk hn⟩
theorem Touch.ofBelow (h : Below w.heap.size w w') : Touch (fun _ => False) w w' := ⟨h.os, h.tape, h.output, h.size, fun k hk _ => h.block k hk⟩
theorem Touch.toBelow {B : Nat} {w0 : World} (h : Touch U w w') (hb : Below B w0 w) (hB : B ≤ w.heap.size) (hu : ∀ k, U k → B ≤ k) : Below B w0 w' :=
  ⟨h.os.trans hb.os, h.tape.trans hb.tape, h.output.trans hb.output, Nat.le_trans hb.size h.size, fun k hk => (h.block k (by omega) (fun hu' => by have := hu k hu'; omega)).trans (hb.block k hk)⟩
theorem Touch.row {base : Nat} {e : TypeId} {size n : Nat} {v : Value} {xs : List Value} (ht : Touch U w w') (h : w.ownsRow base e size v n xs) (hn : ∀ k, v.ownBlock = some k → ¬ U k) : w'.ownsRow base e size v n xs := by
  refine ⟨h.1, ?_⟩
  rcases h.2 with h1 | ⟨g, cap, cur, rfl, h1, h2, h3⟩
  · exact .inl h1
  · refine .inr ⟨g, cap, cur, rfl, h1, ?_, h3⟩
    have hg : g < w.heap.size := by
      rcases Nat.lt_or_ge g w.heap.size with h' | h'
      · exact h'
      · rw [Array.getElem?_eq_none h'] at h2; cases h2
    exact (ht.block g hg (hn g rfl)).trans h2
theorem Touch.own {base : Nat} {e : TypeId} {v : Value} {xs : List Nat} (ht : Touch U w w') (h : Own e w base v xs) (hn : ∀ k, v.ownBlock = some k → ¬ U k) : Own e w' base v xs := ⟨ht.row h.1 hn, h.2⟩
theorem Touch.blk {g : Nat} {t : TypeId} {cs : Array Value} (ht : Touch U w w') (h : BlkIs w g t cs) (hn : ¬ U g) : BlkIs w' g t cs := (ht.block g h.lt hn).trans h
end
section
variable {U V : Nat → Prop} {w w' w'' : World}
theorem Touch.rb {A : Option Addr} {n : Nat} {xs : List Nat} (ht : Touch U w w') (h : RB w A n xs) (hn : ∀ ad, A = some ad → ¬ U ad.block) : RB w' A n xs := by
  refine ⟨h.1, h.2.1, fun hn0 => ?_⟩
  obtain ⟨ad, e, hb, hc⟩ := h.2.2 hn0
  refine ⟨ad, e, Nat.lt_of_lt_of_le hb ht.size, fun j x hj => ?_⟩
  rw [World.cell?_of_block (w := w) (a := ad.add j) (by rw [block_add]; exact ht.block _ hb (hn ad e))]
  exact hc j x hj
theorem Touch.below (ht : Touch U w w') (hu : ∀ B, U B → w.heap.size ≤ B) : Below w.heap.size w w' := ⟨ht.os, ht.tape, ht.output, ht.size, fun k hk => ht.block k hk fun h => by have := hu k h; omega⟩
theorem Touch.one {g : Nat} (h : w.grownBy w' (some g)) : Touch (fun B => B = g) w w' := (Touch.grown h).mono fun k _ hk => by injection hk
theorem Touch.drewN (h : Touch U w w') (n : Nat) : Touch U w (w'.drewN n) := ⟨h.os, h.tape, h.output, h.size, h.block⟩
end
end Go.Proofs.YtfnlhfaihoojfaaDoor
