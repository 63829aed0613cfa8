/- ledgerlaw1.DigestPlays: one step, of the other kinds but 2. (printed by gen_plays.py) -/
import Derived.Test.YtadhjgopekekgaaDoorPlaysA
namespace Go.Proofs.YtadhjgopekekgaaDoor
open Go.RowKit
set_option maxRecDepth 100000 in
set_option maxHeartbeats 4000000 in
theorem plays_0 {w0 w : World} {K : Nat → Nat} {r n L : Nat} {vh vt : Value} {held : Int} {G : Nat → Nat} {T : Nat → List Nat} {V : Nat → Value} (hI : RowInv w0 K r vh vt held n n G T T V w) (hn : 0 < n) (hn2 : n ≤ 1000) (h0 : 0 ≤ held) (h1 : held ≤ 4000000)
    (hL : ∀ i, i < n → (T i).length ≤ L) (ht : Tabs w0) {x : Int} (hx1 : x ≠ 1) (hx2 : x ≠ 2) (hx3 : x ≠ 3) (hx4 : x ≠ 4) (hx5 : x ≠ 5) (h : Int) (A : Option Addr) (m c : Nat) :
    Calls Tryd.prog 18 #[.pointer (some ⟨r, 0, none⟩), .agg #[.int .i64 x, .int .i64 h, .slice A m c]] w (PlaysPost w0 r L) := by
  obtain ⟨gh, ch, gt, ct, e1, e2, hc1, hc2⟩ := hI.shapes hn hn
  subst e1 e2
  have HI := Lib.hid hI
  have HL := Lib.hid hL
  have HT := Lib.hid ht
  clear hI hL ht
  go_enter Tryd.func18, Tryd.ntmps18
  go_wp2_with (first
    | ((with_reducible refine stopAt (o := ⟨some 3, _, _, _, _, _⟩) ?_); refine boxNew (o := ⟨some 3, _, _, _, _, _⟩) (by rfl) 33 (.tmp 1) rfl _ rfl ?_; intro w1 HB1 HW1 HS1; have HI1 := Lib.hid (HI.out.later HW1.out); have c10 := BlkIs.cell HB1.out 0; have c11 := BlkIs.cell HB1.out 1; simp only [List.getElem?_toArray, List.getElem?_cons_zero, List.getElem?_cons_succ] at c10 c11))
  refine (place_any h HI1.out hn (by omega)).mono ?_
  rintro e w2 ⟨⟨i, hi, rfl⟩, hb⟩
  have HI2 := Lib.hid (HI1.out.later hb)
  have HO2 := Lib.hid (HB1.out.below hb)
  clear hb c10 c11 HI1 HB1 HW1 HS1
  have c0 := HI2.out.c0
  have c1 := HI2.out.c1
  have c2 := HI2.out.c2
  have d1 := HI2.out.hcell hi
  have d2 := HI2.out.tcell hi
  have b0 : w2.cell? ⟨w.heap.size, 0, none⟩ = some (.int .i64 x) := BlkIs.cell HO2.out 0
  obtain ⟨Ai, di, hvi, _⟩ := (HI2.out.text i hi).form
  rw [hvi] at d2
  unfold ptr at d1
  have hli := HL.out i hi
  have hch : (i : Int) < n := by omega
  generalize hx : G i = gi at *
  generalize hy : (T i).length = li at *
  go_wp2_with fail
  have f1 : decide (x = 1) = false := decide_eq_false hx1
  have g1 : (x == 1) = false := by simpa using hx1
  have f2 : decide (x = 2) = false := decide_eq_false hx2
  have g2 : (x == 2) = false := by simpa using hx2
  have f3 : decide (x = 3) = false := decide_eq_false hx3
  have g3 : (x == 3) = false := by simpa using hx3
  have f4 : decide (x = 4) = false := decide_eq_false hx4
  have g4 : (x == 4) = false := by simpa using hx4
  have f5 : decide (x = 5) = false := decide_eq_false hx5
  have g5 : (x == 5) = false := by simpa using hx5
  go_quiet (fail)
  have HI3 := Lib.hid (HI2.out.later (drewN_below (Below.refl _ _) nq))
  have b3 : (w2.drewN nq).cell? ⟨w.heap.size, 0, none⟩ = some (.int .i64 x) := b0
  generalize hw3 : w2.drewN nq = w3 at *
  clear c0 c1 c2 d1 d2 b0 HI2 HO2
  go_wp2_with fail
  go_ret
  exact ⟨rfl, _, _, _, _, _, _, _, _, HI3.out, hn, hn2, h0, h1, HL.out⟩
set_option maxRecDepth 100000 in
set_option maxHeartbeats 4000000 in
theorem plays_5 {w0 w : World} {K : Nat → Nat} {r n L : Nat} {vh vt : Value} {held : Int} {G : Nat → Nat} {T : Nat → List Nat} {V : Nat → Value} (hI : RowInv w0 K r vh vt held n n G T T V w) (hn : 0 < n) (hn2 : n ≤ 1000) (h0 : 0 ≤ held) (h1 : held ≤ 4000000)
    (hL : ∀ i, i < n → (T i).length ≤ L) (ht : Tabs w0) (h : Int) (A : Option Addr) (m c : Nat) :
    Calls Tryd.prog 18 #[.pointer (some ⟨r, 0, none⟩), .agg #[.int .i64 5, .int .i64 h, .slice A m c]] w (PlaysPost w0 r L) := by
  obtain ⟨gh, ch, gt, ct, e1, e2, hc1, hc2⟩ := hI.shapes hn hn
  subst e1 e2
  have HI := Lib.hid hI
  have HL := Lib.hid hL
  have HT := Lib.hid ht
  clear hI hL ht
  go_enter Tryd.func18, Tryd.ntmps18
  go_wp2_with (first
    | ((with_reducible refine stopAt (o := ⟨some 3, _, _, _, _, _⟩) ?_); refine boxNew (o := ⟨some 3, _, _, _, _, _⟩) (by rfl) 33 (.tmp 1) rfl _ rfl ?_; intro w1 HB1 HW1 HS1; have HI1 := Lib.hid (HI.out.later HW1.out); have c10 := BlkIs.cell HB1.out 0; have c11 := BlkIs.cell HB1.out 1; simp only [List.getElem?_toArray, List.getElem?_cons_zero, List.getElem?_cons_succ] at c10 c11))
  refine (place_any h HI1.out hn (by omega)).mono ?_
  rintro e w2 ⟨⟨i, hi, rfl⟩, hb⟩
  have HI2 := Lib.hid (HI1.out.later hb)
  have HO2 := Lib.hid (HB1.out.below hb)
  clear hb c10 c11 HI1 HB1 HW1 HS1
  have c0 := HI2.out.c0
  have c1 := HI2.out.c1
  have c2 := HI2.out.c2
  have d1 := HI2.out.hcell hi
  have d2 := HI2.out.tcell hi
  have b0 : w2.cell? ⟨w.heap.size, 0, none⟩ = some (.int .i64 5) := BlkIs.cell HO2.out 0
  obtain ⟨Ai, di, hvi, _⟩ := (HI2.out.text i hi).form
  rw [hvi] at d2
  unfold ptr at d1
  have hli := HL.out i hi
  have hch : (i : Int) < n := by omega
  generalize hx : G i = gi at *
  generalize hy : (T i).length = li at *
  go_wp2_with fail
  go_quiet (fail)
  have HI3 := Lib.hid (HI2.out.later (drewN_below (Below.refl _ _) nq))
  have b3 : (w2.drewN nq).cell? ⟨w.heap.size, 0, none⟩ = some (.int .i64 5) := b0
  generalize hw3 : w2.drewN nq = w3 at *
  clear c0 c1 c2 d1 d2 b0 HI2 HO2
  go_wp2_with fail
  have HH := Lib.hid (HI3.out.hash i hi)
  have hgr := (HT.out.below HI3.out.below).1
  refine (reset_any gi (T i) w3 (HT.out.below HI3.out.below).1 (hx ▸ HH.out)).mono ?_
  rintro e w4 ⟨rfl, hh, hg⟩
  rw [← hx] at hh hg
  have HI4 := Lib.hid (HI3.out.putHash hi hh hg)
  clear HH hgr hh hg HI3
  have c1 := HI4.out.c1
  have d3 := HI4.out.ot
  have f3 : w4.frozen? ⟨gt, i, none⟩ = false := World.ownsRow.frozenAt d3 i
  have d2 := HI4.out.tcell hi
  clear d3
  go_wp2_with fail
  go_ret
  have hl := HI4.out.text i hi
  refine ⟨rfl, _, _, _, _, _, _, upd T i [], _, HI4.out.putText (v' := .slice none 0 0) (ys := []) hi rfl (Own.nil _ _ _) (World.grownBy.refl _ _) (fun k hk => by cases hk), hn, hn2, h0, h1, fun j hj => ?_⟩
  by_cases e : j = i
  · subst e; rw [upd_same]; exact Nat.zero_le _
  · rw [upd_other _ _ e]; exact HL.out j hj
end Go.Proofs.YtadhjgopekekgaaDoor
