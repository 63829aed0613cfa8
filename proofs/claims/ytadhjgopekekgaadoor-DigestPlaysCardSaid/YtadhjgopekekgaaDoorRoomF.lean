/- ledgerlaw1.room, copied. -/
import Derived.Test.YtadhjgopekekgaaDoorFilled
import Derived.Test.YtadhjgopekekgaaDoorRowsF
namespace Go.Proofs.YtadhjgopekekgaaDoor
open Go.RowKit
def RoomPost (left : Int) (X : Nat → List Nat) (N : Nat) (w : World) (e : Ending) (w' : World) : Prop :=
  ∃ r : Int, e = .returned (.int .i64 r) ∧ w' = w ∧ -1 ≤ r ∧ r ≤ 2147483647 ∧ (0 ≤ r → (sumL X N : Int) + r ≤ left)
set_option maxHeartbeats 1000000 in
theorem room_any (left : Int) (P : Option Addr) (N c : Nat) (X : Nat → List Nat) (w : World) (h0 : -1 ≤ left) (h1 : left ≤ 2147483647) (hx : RBf w P N X) :
    Calls Tryd.prog 14 #[.int .i64 left, .slice P N c] w (RoomPost left X N w) := by
  have HX := Lib.hid hx
  have hN := hx.1
  unfold maxLen at hN
  clear hx
  go_enter Tryd.func14, Tryd.ntmps14
  go_wp2_with fail
  go_loop [0, 5] (fun u i => ∃ k : Nat, ∃ l : Int, k ≤ N ∧ i = .int .i64 k ∧ u = .int .i64 l ∧ -1 ≤ l ∧ l ≤ 2147483647 ∧ Hid (l = left - sumL X k)) (fun _ i => N - (intOf i).toNat)
  case atStart => exact ⟨0, left, by omega, rfl, rfl, h0, h1, by show _ = _; simp [sumL]⟩
  case round =>
    obtain ⟨k, l, hk, rfl, rfl, hl0, hl1, HL⟩ := hrel
    by_cases hlt : k < N
    · by_cases hl : 0 ≤ l
      · obtain ⟨a, A, C, rfl, _, hcell, hr, hC, hCm, _⟩ := HX.out.2 k hlt
        unfold maxLen at hCm
        have HS : Hid (sumL X (k + 1) = sumL X k + (X k).length + 1) := rfl
        generalize (X k).length = L at *
        by_cases hge : l ≤ (L : Int)
        · go_wp2_with fail
          go_ret
          exact ⟨-1, rfl, rfl, by omega, by omega, fun h => by omega⟩
        · go_wp2_with fail
          go_round
          case rel => exact ⟨k + 1, l - L - 1, by omega, by go_num, by first | rfl | (congr 1; omega), by omega, by omega, by have h1 := HS.out; have h2 := HL.out; show _ = _; rw [h1, h2]; omega⟩
          case measure => simp [intOf]; omega
      · go_wp2_with fail
        go_ret
        exact ⟨l, rfl, rfl, hl0, hl1, fun h => by omega⟩
    · go_wp2_with fail
      go_ret
      exact ⟨l, rfl, rfl, hl0, hl1, fun h => by have h2 := HL.out; rw [show N = k by omega]; omega⟩
theorem copied_any (A : Option Addr) (n c : Nat) (xs : List Nat) (w : World) (hx : RB w A n xs) (hA : A = none → c = 0) (hn : n ≤ 140737488355328) :
    Calls Tryd.prog 13 #[.slice A n c] w (OwnRet w xs) := by
  have HX := Lib.hid hx
  have HA := Lib.hid hA
  clear hx hA
  go_enter Tryd.func13, Tryd.ntmps13
  go_wp2_with (at_builtin; refine appendRB und_bytes info_byte w rfl (.tmp 4) (.tmp 5) rfl w.heap.size (.slice none 0 0) [] (Own.nil _ _ _) A n c xs HX.out HA.out rfl rfl (by simp; omega) (Nat.le_refl _) ?_; intro v1 w1 hown1 hgrow1)
  go_ret
  exact ⟨_, rfl, hown1, (Below.refl w.heap.size w).grown hgrow1 (Nat.le_refl _) (fun k hk => by cases hk)⟩
end Go.Proofs.YtadhjgopekekgaaDoor
