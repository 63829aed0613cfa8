/- ledgerlaw1.DigestPlays: the walk. -/
import Derived.Test.YtadhjgopekekgaaDoorPlaysB
import Derived.Test.YtadhjgopekekgaaDoorPlaysC
import Derived.Test.YtadhjgopekekgaaDoorPlaysD
import Derived.Test.YtadhjgopekekgaaDoorPlaysE
import Derived.Test.YtadhjgopekekgaaDoorOpenSteps
import Derived.Test.YtadhjgopekekgaaDoorLawForks
namespace Go.Proofs.YtadhjgopekekgaaDoor
open Go.RowKit
theorem plays_any {w0 w : World} {r L : Nat} (hR : RowOk w0 r L w) (ht : Tabs w0) (ht1 : Tabs1 w0) (kind h : Int) (A : Option Addr) (m c : Nat) (xs : List Nat) (hm : xs.length = m) (hp : PcAt w0 A c xs) (hL2 : L + 2 * m ≤ 2147483647) :
    Calls Tryd.prog 18 #[.pointer (some ⟨r, 0, none⟩), .agg #[.int .i64 kind, .int .i64 h, .slice A m c]] w (PlaysPost w0 r (L + 2 * m)) := by
  obtain ⟨K, vh, vt, held, n, G, T, V, hI, hn, hn2, h0, h1, hL⟩ := hR
  have up : ∀ e w', PlaysPost w0 r L e w' → PlaysPost w0 r (L + 2 * m) e w' := fun e w' ⟨he, K, vh, vt, held, n, G, T, V, hI, hn, hn2, h0, h1, hL⟩ =>
    ⟨he, K, vh, vt, held, n, G, T, V, hI, hn, hn2, h0, h1, fun i hi => Nat.le_trans (hL i hi) (Nat.le_add_right _ _)⟩
  by_cases k1 : kind = 1
  · subst k1; exact (plays_1 hI hn hn2 h0 h1 hL (by omega) ht h A m c).mono up
  by_cases k2 : kind = 2
  · subst k2; exact plays_2 hI hn hn2 h0 h1 ht h A m c xs hm hp hL hL2
  by_cases k3 : kind = 3
  · subst k3; exact (plays_3 hI hn hn2 h0 h1 hL (by omega) ht ht1 h A m c).mono up
  by_cases k4 : kind = 4
  · subst k4; exact (plays_4 hI hn hn2 h0 h1 hL (by omega) ht h A m c).mono up
  by_cases k5 : kind = 5
  · subst k5; exact (plays_5 hI hn hn2 h0 h1 hL ht h A m c).mono up
  exact (plays_0 hI hn hn2 h0 h1 hL ht k1 k2 k3 k4 k5 h A m c).mono up
/-- How many bytes the steps bring, twice. -/
def twice (X : Nat → List Nat) : Nat → Nat
  | 0 => 0
  | k + 1 => twice X k + 2 * (X k).length
theorem twice_mono (X : Nat → List Nat) {j k : Nat} (h : j ≤ k) : twice X j ≤ twice X k := by
  induction k with
  | zero => rw [show j = 0 by omega]; exact Nat.le_refl _
  | succ k ih =>
    rcases Nat.lt_or_ge j (k + 1) with h1 | h1
    · have := ih (by omega)
      simp only [twice]; omega
    · rw [show j = k + 1 by omega]; exact Nat.le_refl _
theorem two_rows (w : World) (t : TypeId) (A : Option Addr) (c : Nat) (hs : List Nat) (hr : RB w A hs.length hs) (h1 : hs.length ≤ c) (h2 : c ≤ maxLen) (h3 : A = none → c = 0) :
    RBf (w.alloc (.cells #[.slice A hs.length c, .slice A hs.length c] t)) (some ⟨w.heap.size, 0, none⟩) 2 (fun _ => hs) := by
  refine ⟨by unfold maxLen; omega, fun k hk => ⟨_, A, c, rfl, by simp, ?_, hr.alloc _, h1, h2, h3⟩⟩
  rw [add_lit, cell_of_row _ _ _ _ _ _ (heap_alloc_new w _)]
  rcases k with _ | _ | k
  · rfl
  · rfl
  · omega
theorem steps_pc {w : World} {P : Option Addr} {N k : Nat} {kd hd : Nat → Int} {X : Nat → List Nat} (h : StepsAt w P N kd hd X) (hk : k < N) : ∃ b o A C, P = some ⟨b, o, none⟩ ∧ PcAt w A C (X k) ∧
    ∀ W, Below w.heap.size w W → W.cell? ⟨b, o + k * 3, none⟩ = some (.int .i64 (kd k)) ∧ W.cell? ⟨b, o + k * 3 + 1, none⟩ = some (.int .i64 (hd k)) ∧ W.cell? ⟨b, o + k * 3 + 2, none⟩ = some (.slice A (X k).length C) := by
  obtain ⟨b, o, A, C, h1, h2, h3, h4, h5, h6, h7, h8, h9, _⟩ := h.2 k hk
  exact ⟨b, o, A, C, h1, PcAt.mk' h6 h7 h8 h9, fun W hb => ⟨(hb.cell (p := ⟨b, _, none⟩) h2).trans h3, (hb.cell (p := ⟨b, _, none⟩) h2).trans h4, (hb.cell (p := ⟨b, _, none⟩) h2).trans h5⟩⟩
/-- The row at the beginning. -/
theorem RowInv.begin_ {w w2 : World} (hb : BlkIs w2 w.heap.size 39 #[.slice none 0 0, .slice none 0 0, .int .i64 0]) (h : Below w.heap.size w w2) :
    RowInv w (tagged w2 (fun _ => 0) 3) w.heap.size (.slice none 0 0) (.slice none 0 0) 0 0 0 (fun _ => 0) (fun _ => []) (fun _ => []) (fun _ => .slice none 0 0) w2 :=
  { below := h
    rlo := Nat.le_refl _
    blk := hb
    kr := tagged_old (BlkIs.lt hb)
    oh := (Own.nil 41 w2 w.heap.size).1
    kh := fun k hk => by cases hk
    ot := (Own.nil 26 w2 w.heap.size).1
    kt := fun k hk => by cases hk
    lo := fun i hi => by omega
    kg := fun i hi => by omega
    hash := fun i hi => by omega
    text := fun i hi => by omega
    kv := fun i hi => by omega }
set_option maxRecDepth 100000 in
set_option maxHeartbeats 8000000 in
theorem plays_walk (P : Option Addr) (N c : Nat) (kd hd : Nat → Int) (X : Nat → List Nat) (w : World) (hx : StepsAt w P N kd hd X) (ht : Tabs w) (ht1 : Tabs1 w) :
    Calls Tryd.prog 5 #[.slice P N c] w fun e w' => e = .returned (.bool true) ∧ Below w.heap.size w w' := by
  obtain ⟨D0, H0⟩ : ∃ D, Hid (∀ _ : Nat, shaN [] = D ∧ wrN s0 = D) := ⟨shaN [], fun _ => ⟨rfl, known0.symm⟩⟩
  have he : Hid (∀ (xs : List Nat) (w : World), (Op.equalIn 10000 23 (.agg (bvs (shaN xs)).toArray) (.agg (bvs (shaN xs)).toArray)).run Tryd.prog w = .ok true w) := fun xs w => dig_same w (shaN_isB xs) (shaN_length xs)
  have HX := Lib.hid hx
  have HT := Lib.hid ht
  have HT1 := Lib.hid ht1
  have hN := hx.1
  unfold maxLen at hN
  clear hx ht ht1
  go_enter Tryd.func5, Tryd.ntmps5
  go_wp2_with fail
  go_loopw [3, 4] (fun u i wr => ∃ (k : Nat) (l : Int), k ≤ N ∧ i = .int .i64 k ∧ u = .int .i64 l ∧ 0 ≤ l ∧ l ≤ 2147483647 ∧ Hid ((twice X k : Int) + l ≤ 2147483647) ∧ Hid (Below w.heap.size w wr)) (fun _ i _ => N - (intOf i).toNat)
  case atStart => exact ⟨0, 2147483647, by omega, rfl, rfl, by omega, by omega, by show _ ≤ _; simp [twice], Below.refl _ _⟩
  case round =>
    obtain ⟨k, l, hk, rfl, rfl, hl0, hl1, HL, HB⟩ := hrel
    obtain ⟨w1, rfl⟩ : ∃ w1, w1 = wr := ⟨_, rfl⟩
    by_cases hlt : k < N
    · obtain ⟨b, o, A, C, rfl, hb, c0, c1, c2, hr, hC, hCm, hA, _, _⟩ := (HX.out.below HB.out).2 k hlt
      have hlt' : (k : Int) < N := by omega
      have HR2 := Lib.hid (two_rows w1 26 A C (X k) hr hC hCm hA)
      have HTW : Hid (twice X (k + 1) = twice X k + 2 * (X k).length) := rfl
      clear hr
      generalize hg : (X k).length = m at *
      go_wp2_with fail
      refine (room_any l (some ⟨w1.heap.size, 0, none⟩) 2 2 (fun _ => X k) _ (by omega) (by omega) HR2.out).mono ?_
      rintro e w2 ⟨z, rfl, hw2, hz0, hz1, hz2⟩
      have hs2 : sumL (fun _ => X k) 2 = 2 * m + 2 := by simp only [sumL, hg]; omega
      have HB2 : Hid (Below w.heap.size w w2) := by rw [hw2]; exact HB.out.alloc HB.out.size _
      clear hw2 HR2 c0 c1 c2
      by_cases hz : 0 ≤ z
      · have hz3 : ¬ z < 0 := by omega
        have HLn : Hid ((twice X (k + 1) : Int) + z ≤ 2147483647) := by
          have q1 := HL.out
          have q2 := hz2 hz
          rw [HTW.out]
          rw [hs2] at q2
          show _ ≤ _
          omega
        clear hz2
        go_wp2_with fail
        go_roundw
        case rel => exact ⟨k + 1, z, by omega, by go_num, rfl, hz, hz1, HLn.out, HB2.out⟩
        case measure => simp [intOf]; omega
      · have hz3 : z < 0 := by omega
        clear hz2
        go_wp2_with fail
        go_ret
        exact ⟨rfl, HB2.out⟩
    · have hnlt : ¬ ((k : Int) < N) := by omega
      have HTN : Hid (∀ j, j ≤ N → twice X j ≤ 2147483647) := fun j hj => by
        have q1 := HL.out
        have q2 := twice_mono X (show j ≤ k by omega)
        omega
      clear HL
      have HX1 := Lib.hid (HX.out.below HB.out)
      have HT1' := Lib.hid (HT.out.below HB.out)
      have HT11 := Lib.hid (HT1.out.below HB.out)
      have HBW := HB
      clear HB HX HT HT1
      go_wp2_with ((with_reducible refine stopAt (o := ⟨some 28, _, _, _, _, _⟩) ?_); refine boxNew (o := ⟨some 28, _, _, _, _, _⟩) (by rfl) 39 (.tmp 27) rfl _ rfl ?_; intro w2 HB2 HW2 HS2; have HI2 := Lib.hid (RowInv.begin_ HB2.out HW2.out); have HK2 : Hid (∀ k, w2.heap.size ≤ k → tagged w2 (fun _ => 0) 3 k = 3 + 2 * 0) := (fun k hk => tagged_new hk); clear HB2 HS2)
      have HBB := Lib.hid (HBW.out.trans (HW2.out.mono HBW.out.size))
      refine (new_any _ (HT1'.out.below HW2.out).1).mono ?_
      rintro e w3 ⟨g, rfl, hg, hh, hb⟩
      have HI3 := Lib.hid (HI2.out.later hb)
      have HH3 := Lib.hid hh
      have HK3 := Lib.hid (HK2.out g hg)
      have HG3 : Hid (w1.heap.size ≤ g) := Nat.le_trans HW2.out.size hg
      clear hb hh hg HI2 HK2 HW2 HBB
      go_wp2_with fail
      refine (joins_any HI3.out (by omega) g [] HG3.out HK3.out HH3.out none 0 0 (fun _ => rfl) (by omega) (by omega) (by omega) (fun _ _ _ _ _ => RB.nil _ _)).mono ?_
      rintro e w5 ⟨rfl, _, K', vh', vt', V', hI5⟩
      obtain ⟨gh, ch, gt, ct, e1, e2, _, _⟩ := hI5.shapes (by omega) (by omega)
      subst e1 e2
      have HI5 := Lib.hid hI5
      clear hI5 HI3 HH3 HK3
      have c0 := HI5.out.c0
      have d1 := HI5.out.hcell (i := 0) (by omega)
      have HH5 := Lib.hid (HI5.out.hash 0 (by omega))
      rw [upd_same] at d1 HH5
      rw [upd_same] at HH5
      unfold ptr at d1
      have HT5 := Lib.hid (HT1'.out.below HI5.out.below)
      have he0 : ∀ w, (Op.equalIn 10000 23 (.agg (bvs D0).toArray) (.agg (bvs D0).toArray)).run Tryd.prog w = .ok true w := fun w => by rw [← (H0.out 0).1]; exact he.out [] w
      go_wp2_with fail
      refine (hsum_any g [] w5 HH5.out HT5.out.2).mono ?_
      rintro e w6 ⟨rfl, hb⟩
      have HI6 := Lib.hid (HI5.out.later hb)
      clear hb c0 d1 HH5 HI5 HT5
      rw [(H0.out 0).1]
      go_wp2_with fail
      refine (written_any s0 _ rfl).mono ?_
      rintro e w7 ⟨rfl, hb⟩
      have HR7 : Hid (RowOk w1 w1.heap.size (twice X 0) w7) := ⟨_, _, _, _, _, _, _, _, HI6.out.later hb, by omega, by omega, by omega, by omega, fun j hj => by
        obtain rfl : j = 0 := by omega
        rw [upd_same]
        exact Nat.zero_le _⟩
      clear hb HI6
      rw [(H0.out 0).2]
      go_wp2_with fail
      clear he0 he H0
      go_loopw [8] (fun i wr => ∃ k : Nat, k ≤ N ∧ i = .int .i64 k ∧ Hid (RowOk w1 w1.heap.size (twice X k) wr)) (fun i _ => N - (intOf i).toNat)
      case atStart => exact ⟨0, by omega, rfl, HR7.out⟩
      case round =>
        clear HR7
        obtain ⟨q, hq, rfl, HR⟩ := hrel
        obtain ⟨w8, rfl⟩ : ∃ w8, w8 = wr := ⟨_, rfl⟩
        have HB8 : Hid (Below w1.heap.size w1 w8) := by
          obtain ⟨_, _, _, _, _, _, _, _, h, _⟩ := HR.out
          exact h.below
        by_cases hlq : q < N
        · obtain ⟨b, o, A, C, rfl, hpc, hcell⟩ := steps_pc HX1.out hlq
          obtain ⟨c0, c1, c2⟩ := hcell w8 HB8.out
          have hlq' : (q : Int) < N := by omega
          have HPC := Lib.hid hpc
          have hm2 := HTN.out (q + 1) (by omega)
          clear hpc hcell
          go_wp2_with fail
          have HTW : Hid (twice X (q + 1) = twice X q + 2 * (X q).length) := rfl
          rw [HTW.out] at hm2
          refine (plays_any HR.out HT1'.out HT11.out (kd q) (hd q) A (X q).length C (X q) rfl HPC.out hm2).mono ?_
          rintro e w9 ⟨rfl, hR⟩
          have HR9 : Hid (RowOk w1 w1.heap.size (twice X (q + 1)) w9) := by
            rw [HTW.out]
            exact hR
          clear hR hm2 HPC c0 c1 c2 HTW
          go_wp2_with fail
          go_roundw
          case rel => exact ⟨q + 1, by omega, by go_num, HR9.out⟩
          case measure => simp [intOf]; omega
        · have hnlq : ¬ ((q : Int) < N) := by omega
          go_wp2_with fail
          go_ret
          exact ⟨rfl, HBW.out.trans (HB8.out.mono HBW.out.size)⟩
end Go.Proofs.YtadhjgopekekgaaDoor
