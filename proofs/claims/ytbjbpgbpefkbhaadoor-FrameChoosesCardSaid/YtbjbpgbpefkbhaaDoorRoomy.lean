/- ledgerlaw5.middle, roomy, left, place: texts with spare room behind them. -/
import Derived.Test.YtbjbpgbpefkbhaaDoorShort
import Derived.Test.YtbjbpgbpefkbhaaDoorSame
import Derived.Test.YtbjbpgbpefkbhaaDoorBits
namespace Go.Proofs.YtbjbpgbpefkbhaaDoor
open Go.RowKit
def marks : List Nat := List.replicate 600 200
theorem marks_length : marks.length = 600 := List.length_replicate
/-- A text with one bit turned, in the byte at (or the last one). -/
def othN (xs : List Nat) (k : Nat) : List Nat := xs.set (min k (xs.length - 1)) (xs.getD (min k (xs.length - 1)) 0 ^^^ 1)
theorem othN_length (xs : List Nat) (k : Nat) : (othN xs k).length = xs.length := by simp [othN]
set_option maxHeartbeats 400000 in
theorem other_any (A : Option Addr) (n c k : Nat) (xs : List Nat) (w : World) (hx : RB w A n xs) (hn : n ≤ 140737488355328) (hk : k ≤ 140737488355328) :
    Calls Tryd.prog 13 #[.slice A n c, .int .i64 k] w fun e w' => ∃ v, e = .returned v ∧ OwnU w' w.heap.size v (othN xs k) ∧ Below w.heap.size w w' := by
  have HC := Lib.hid (copied_any A n c xs w hx hn)
  obtain rfl : xs.length = n := hx.1
  clear hx
  go_enter Tryd.func13, Tryd.ntmps13
  go_wp2_with fail
  refine HC.out.mono ?_
  rintro e w1 ⟨v, rfl, hown, hb⟩
  have HO := Lib.hid hown
  have HB := Lib.hid hb
  by_cases h0 : ¬ 0 < xs.length
  · have HE : Hid (othN xs k = xs) := by
      show othN xs k = xs
      rw [List.eq_nil_of_length_eq_zero (show xs.length = 0 by omega)]
      rfl
    obtain ⟨A1, c1, rfl, _⟩ := hown.form
    clear hown hb HC
    go_wp2
    go_ret
    exact ⟨_, rfl, by rw [HE.out]; exact HO.out, HB.out⟩
  · obtain ⟨g, c1, rfl, hbg, _, hfr, hcell⟩ := hown.shape (by omega)
    by_cases hkm : k ≤ xs.length - 1
    · have HE : Hid (othN xs k = xs.set k (xs.getD k 0 ^^^ 1)) := by
        show othN xs k = _
        unfold othN
        rw [show min k (xs.length - 1) = k by omega]
      have hj : k < xs.length := by omega
      have hc := hcell _ hj
      have hf := hfr k
      have hx8 := hown.isB _ (getD_mem hj)
      have hxor : bits .xor .u8 ((xs.getD k 0 : Nat) : Int) 1 = ((xs.getD k 0 ^^^ 1 : Nat) : Int) := xor8 _ 1 hx8 (by omega)
      have HS : Hid (OwnU (w1.setCell ⟨g, k, none⟩ (.int .u8 ((xs.getD k 0 ^^^ 1 : Nat) : Int))) w.heap.size (.slice (some ⟨g, 0, none⟩) xs.length c1) (othN xs k)) := by
        rw [HE.out]
        exact hown.set k _ (xor_lt8 hx8 (by omega))
      have HB2 := Lib.hid (hb.setCell (p := ⟨g, k, none⟩) hbg (.int .u8 ((xs.getD k 0 ^^^ 1 : Nat) : Int)))
      clear hown hb hcell hfr HO HC
      generalize xs.getD k 0 = x at *
      have hpos : 0 < xs.length := by omega
      clear h0
      go_wp2
      go_ret
      exact ⟨_, rfl, HS.out, HB2.out⟩
    · have HE : Hid (othN xs k = xs.set (xs.length - 1) (xs.getD (xs.length - 1) 0 ^^^ 1)) := by
        show othN xs k = _
        unfold othN
        rw [show min k (xs.length - 1) = (xs.length - 1) by omega]
      have hj : (xs.length - 1) < xs.length := by omega
      have hc := hcell _ hj
      have hf := hfr (xs.length - 1)
      have hx8 := hown.isB _ (getD_mem hj)
      have hxor : bits .xor .u8 ((xs.getD (xs.length - 1) 0 : Nat) : Int) 1 = ((xs.getD (xs.length - 1) 0 ^^^ 1 : Nat) : Int) := xor8 _ 1 hx8 (by omega)
      have HS : Hid (OwnU (w1.setCell ⟨g, (xs.length - 1), none⟩ (.int .u8 ((xs.getD (xs.length - 1) 0 ^^^ 1 : Nat) : Int))) w.heap.size (.slice (some ⟨g, 0, none⟩) xs.length c1) (othN xs k)) := by
        rw [HE.out]
        exact hown.set (xs.length - 1) _ (xor_lt8 hx8 (by omega))
      have HB2 := Lib.hid (hb.setCell (p := ⟨g, (xs.length - 1), none⟩) hbg (.int .u8 ((xs.getD (xs.length - 1) 0 ^^^ 1 : Nat) : Int)))
      clear hown hb hcell hfr HO HC
      generalize xs.getD (xs.length - 1) 0 = x at *
      have hpos : 0 < xs.length := by omega
      clear h0
      go_wp2
      go_ret
      exact ⟨_, rfl, HS.out, HB2.out⟩
def IsRoomy (base : Nat) (n : Nat) (xs : List Nat) (e : Ending) (w' : World) : Prop :=
  ∃ A c, e = .returned (.tuple #[.slice A n c, .slice A (n + 600) c]) ∧ OwnU w' base (.slice A (n + 600) c) (xs ++ marks)
set_option maxRecDepth 100000 in
set_option maxHeartbeats 800000 in
theorem roomy_any (A : Option Addr) (n c : Nat) (xs : List Nat) (w : World) (hx : RB w A n xs) (hn : n + 600 ≤ 140737488355328) :
    Calls Tryd.prog 14 #[.slice A n c] w fun e w' => IsRoomy w.heap.size n xs e w' ∧ Below w.heap.size w w' := by
  have HC := Lib.hid (copied_any A n c xs w hx (by omega))
  obtain rfl : xs.length = n := hx.1
  clear hx
  go_enter Tryd.func14, Tryd.ntmps14
  go_wp2_with fail
  refine HC.out.mono ?_
  rintro e w1 ⟨v, rfl, hown, hb⟩
  have HO := Lib.hid hown
  have HB := Lib.hid hb
  clear hown hb HC
  go_wp2
  go_loopw [4, 5] (fun v i wr => ∃ k : Nat, k ≤ 600 ∧ i = .int .i64 k ∧ Hid (OwnU wr w.heap.size v (xs ++ List.replicate k 200)) ∧ Hid (Below w.heap.size w wr)) (fun _ i _ => 600 - (intOf i).toNat)
  case atStart => exact ⟨0, by omega, rfl, by show OwnU _ _ _ (xs ++ List.replicate 0 200); rw [List.replicate_zero, List.append_nil]; exact HO.out, HB.out⟩
  case round =>
    clear HO HB
    obtain ⟨k, hk, rfl, HO, HB⟩ := hrel
    by_cases hlt : k < 600
    · have hl : (xs ++ List.replicate k 200).length + 1 ≤ 140737488355328 := by simp; omega
      go_wp2_with (at_builtin; refine append1 und_bytes info_byte wr rfl (.tmp 12) (.tmp 13) rfl w.heap.size _ (xs ++ List.replicate k 200) HO.out 200 (by omega) rfl rfl hl HB.out.size ?_; intro v' w2 hown1 hgrow1)
      have HB1 := Lib.hid (HB.out.grown hgrow1 HB.out.size HO.out.ge)
      go_roundw
      case rel => exact ⟨k + 1, by omega, by go_num, by rw [List.replicate_succ', ← List.append_assoc]; exact hown1, HB1.out⟩
      case measure => simp [intOf]; omega
    · have HM : Hid (OwnU wr w.heap.size u4 (xs ++ marks)) := by
        have h := HO.out
        rw [show k = 600 by omega] at h
        exact h
      clear HO
      obtain ⟨A1, c1, e1, _, _, _, hroom⟩ := HM.out.form
      rw [List.length_append, marks_length] at e1 hroom
      subst e1
      go_wp2
      go_ret2
      exact ⟨⟨A1, c1, rfl, HM.out⟩, HB.out⟩

set_option maxRecDepth 100000 in
set_option maxHeartbeats 800000 in
theorem left_true (B A : Option Addr) (m d c : Nat) (ys : List Nat) (w : World) (hy : RB w B m ys) (ha : RB w A (m + 600) (ys ++ marks)) (hc : m + 600 ≤ c) (hm : m + 600 ≤ 140737488355328) :
    Calls Tryd.prog 33 #[.slice B m d, .slice A (m + 600) c] w fun e w' => e = .returned (.bool true) ∧ ∃ q, w' = w.drewN q := by
  obtain ⟨ad, rfl, hb, hcell⟩ := ha.2.2 (by omega)
  have HC : Hid (∀ j, m ≤ j → j < m + 600 → w.cell? (ad.add j) = some (.int .u8 200)) := fun j h1 h2 => by
    refine hcell j 200 ?_
    rw [List.getElem?_append_right (by rw [hy.1]; exact h1), hy.1, marks, List.getElem?_replicate, if_pos (by omega)]
  have HS : Hid (Calls Tryd.prog 11 #[.slice B m d, .slice (some ad) m c] w fun e w' => e = .returned (.bool true) ∧ ∃ q, w' = w.drewN q) :=
    same_true hy (by have := ha.take (k := m) (by omega); rwa [List.take_append_of_le_length (by rw [hy.1]; omega), List.take_of_length_le (by rw [hy.1]; omega)] at this) (by omega) rfl
  clear hcell hy ha
  go_enter Tryd.func33, Tryd.ntmps33
  go_wp2
  go_loop [5] (fun i => ∃ k : Nat, m ≤ k ∧ k ≤ m + 600 ∧ i = .int .i64 k) (fun i => m + 600 - (intOf i).toNat)
  case atStart => exact ⟨m, by omega, by omega, rfl⟩
  case round =>
    obtain ⟨k, hk0, hk, rfl⟩ := hrel
    by_cases hlt : k < m + 600
    · have hck := HC.out k hk0 hlt
      go_wp2
      go_round
      case rel => exact ⟨k + 1, by omega, by omega, by go_num⟩
      case measure => simp [intOf]; omega
    · go_wp2_with fail
      refine HS.out.mono ?_
      rintro e w' ⟨rfl, q, rfl⟩
      go_wp2_with fail
      go_ret
      exact ⟨rfl, q, rfl⟩
end Go.Proofs.YtbjbpgbpefkbhaaDoor
