/- ledgerlaw1.DigestPlays: one step, of kinds 1 and others. -/
import Derived.Test.YtadhjgopekekgaaDoorJoinsR
import Derived.Test.YtadhjgopekekgaaDoorForkInv
import Derived.Test.YtadhjgopekekgaaDoorLawDigSums
namespace Go.Proofs.YtadhjgopekekgaaDoor
open Go.RowKit
/-- The row between two steps. -/
def RowOk (w0 : World) (r L : Nat) (w : World) : Prop :=
  ∃ K vh vt held n G T V, RowInv w0 K r vh vt held n n G T T V w ∧ 0 < n ∧ n ≤ 1000 ∧ 0 ≤ held ∧ held ≤ 4000000 ∧ ∀ i, i < n → (T i).length ≤ L
def PlaysPost (w0 : World) (r L : Nat) (e : Ending) (w' : World) : Prop := e = .returned (.bool true) ∧ RowOk w0 r L w'
section
variable {w0 w w1 w' : World} {K : Nat → Nat} {r n m : Nat} {vh vt : Value} {held : Int} {G : Nat → Nat} {T U : Nat → List Nat} {V : Nat → Value}
/-- The shapes of the two lists. -/
theorem RowInv.shapes (h : RowInv w0 K r vh vt held n m G T U V w) (hn : 0 < n) (hm : 0 < m) : ∃ gh ch gt ct, vh = .slice (some ⟨gh, 0, none⟩) n ch ∧ vt = .slice (some ⟨gt, 0, none⟩) m ct ∧ n ≤ ch ∧ m ≤ ct := by
  obtain ⟨gh, ch, e1, _, _, h1, _⟩ := row_shape h.oh hn
  obtain ⟨gt, ct, e2, _, _, h2, _⟩ := row_shape h.ot hm
  exact ⟨gh, ch, gt, ct, e1, e2, h1, h2⟩
theorem RowInv.hcell {gh ch : Nat} (h : RowInv w0 K r (.slice (some ⟨gh, 0, none⟩) n ch) vt held n m G T U V w) {i : Nat} (hi : i < n) : w.cell? ⟨gh, i, none⟩ = some (ptr (G i)) := by
  obtain ⟨g, c, e1, _, _, _, _, h1⟩ := row_shape h.oh (by omega)
  injection e1 with e1
  injection e1 with e1
  injection e1 with e1
  subst e1
  exact h1 i _ (vals_at (ptrs G) hi)
theorem RowInv.tcell {gt ct : Nat} (h : RowInv w0 K r vh (.slice (some ⟨gt, 0, none⟩) m ct) held n m G T U V w) {i : Nat} (hi : i < m) : w.cell? ⟨gt, i, none⟩ = some (V i) := by
  obtain ⟨g, c, e1, _, _, _, _, h1⟩ := row_shape h.ot (by omega)
  injection e1 with e1
  injection e1 with e1
  injection e1 with e1
  subst e1
  exact h1 i _ (vals_at V hi)
end
theorem own_at {w : World} {base : Nat} {v : Value} {xs : List Nat} {A : Option Addr} {n c : Nat} (h : OwnU w base v xs) (e : v = .slice A n c) : RB w A n xs ∧ (A = none → c = 0) ∧ n ≤ c ∧ n = xs.length := by
  obtain ⟨A', c', e', h1, _, h3, h4⟩ := h.form
  rw [e] at e'
  injection e' with q1 q2 q3
  subst q1 q2 q3
  exact ⟨h1, h3, h4, rfl⟩
theorem size_st : (Tryd.prog.info? 33).map (·.size) = some 3 := by kernel_rfl
set_option maxRecDepth 100000 in
set_option maxHeartbeats 4000000 in
theorem plays_1 {w0 w : World} {K : Nat → Nat} {r n L : Nat} {vh vt : Value} {held : Int} {G : Nat → Nat} {T : Nat → List Nat} {V : Nat → Value} (hI : RowInv w0 K r vh vt held n n G T T V w) (hn : 0 < n) (hn2 : n ≤ 1000) (h0 : 0 ≤ held) (h1 : held ≤ 4000000)
    (hL : ∀ i, i < n → (T i).length ≤ L) (hL2 : L ≤ 2147483647) (ht : Tabs w0) (h : Int) (A : Option Addr) (m c : Nat) :
    Calls Tryd.prog 18 #[.pointer (some ⟨r, 0, none⟩), .agg #[.int .i64 1, .int .i64 h, .slice A m c]] w (PlaysPost w0 r L) := by
  obtain ⟨gh, ch, gt, ct, e1, e2, hc1, hc2⟩ := hI.shapes hn hn
  subst e1 e2
  have HI := Lib.hid hI
  have HL := Lib.hid hL
  have HT := Lib.hid ht
  clear hI hL ht
  go_enter Tryd.func18, Tryd.ntmps18
  go_wp2_with (first
    | ((with_reducible refine stopAt (o := ⟨some 3, _, _, _, _, _⟩) ?_); refine boxNew (o := ⟨some 3, _, _, _, _, _⟩) (by rfl) 33 (.tmp 1) rfl _ rfl ?_; intro w1 HB1 HW1 HS1; have HI1 := Lib.hid (HI.out.later HW1.out); have c10 := BlkIs.cell HB1.out 0; have c11 := BlkIs.cell HB1.out 1; simp only [List.getElem?_toArray, List.getElem?_cons_zero, List.getElem?_cons_succ] at c10 c11))
  refine (place_any h HI1.out hn (by omega)).mono ?_
  rintro e w2 ⟨⟨i, hi, rfl⟩, hb⟩
  have HI2 := Lib.hid (HI1.out.later hb)
  have HO2 := Lib.hid (HB1.out.below hb)
  clear hb c10 c11 HI1 HB1 HW1 HS1
  have c0 := HI2.out.c0
  have c1 := HI2.out.c1
  have c2 := HI2.out.c2
  have d1 := HI2.out.hcell hi
  have d2 := HI2.out.tcell hi
  have b0 : w2.cell? ⟨w.heap.size, 0, none⟩ = some (.int .i64 1) := BlkIs.cell HO2.out 0
  obtain ⟨Ai, di, hvi, _⟩ := (HI2.out.text i hi).form
  rw [hvi] at d2
  unfold ptr at d1
  have hli := HL.out i hi
  have hch : (i : Int) < n := by omega
  generalize hx : G i = gi at *
  generalize hy : (T i).length = li at *
  clear hx hy
  go_wp2_with fail
  by_cases hA : 1000 ≤ n
  · have hA' : decide ((1000 : Int) ≤ n) = true := decide_eq_true (by omega)
    go_quiet (fail)
    go_wp2_with fail
    go_ret
    exact ⟨rfl, _, _, _, _, _, _, _, _, HI2.out.later (drewN_below (Below.refl _ _) _), hn, hn2, h0, h1, HL.out⟩
  · have hA' : decide ((1000 : Int) ≤ n) = false := decide_eq_false (by omega)
    by_cases hB : 4000000 < held + li
    · go_quiet (fail)
      go_wp2_with fail
      go_ret
      exact ⟨rfl, _, _, _, _, _, _, _, _, HI2.out.later (drewN_below (Below.refl _ _) _), hn, hn2, h0, h1, HL.out⟩
    · go_quiet (fail)
      have HI3 := Lib.hid ((HI2.out.later (drewN_below (Below.refl _ _) nq)).retag (3 + 2 * n))
      have b3 : (w2.drewN nq).cell? ⟨w.heap.size, 0, none⟩ = some (.int .i64 1) := b0
      generalize hw3 : w2.drewN nq = w3 at *
      have HK3 : Hid (∀ k, w3.heap.size ≤ k → tagged w3 K (3 + 2 * n) k = 3 + 2 * n) := fun k hk => tagged_new hk
      clear c0 c1 c2 d1 d2 b0 HI2 HO2
      go_wp2_with fail
      refine (new_any _ (HT.out.below HI3.out.below).1).mono ?_
      rintro e w4 ⟨g, rfl, hg, hh, hb⟩
      have HI4 := Lib.hid (HI3.out.later hb)
      have HH4 := Lib.hid hh
      have HG4 : Hid (w0.heap.size ≤ g) := Nat.le_trans HI3.out.below.size hg
      have HK4 := Lib.hid (HK3.out g hg)
      clear hb hh hg
      go_wp2_with fail
      refine (joins_any HI4.out (by omega) g [] HG4.out HK4.out HH4.out none 0 0 (fun _ => rfl) (by omega) h0 (by omega) (fun _ _ _ _ _ => RB.nil _ _)).mono ?_
      rintro e w5 ⟨rfl, hz, K', vh', vt', V', hI5⟩
      have HI5 := Lib.hid hI5
      clear hI5
      go_wp2_with fail
      go_ret
      exact ⟨rfl, _, _, _, _, _, _, _, _, HI5.out, by omega, by omega, by omega, by omega, fun j hj => by
        by_cases e : j = n
        · subst e; rw [upd_same]; exact Nat.zero_le _
        · rw [upd_other _ _ e]; exact HL.out j (by omega)⟩
end Go.Proofs.YtadhjgopekekgaaDoor
