/- ledgerref2.bits: the bits of a text. -/
import Derived.Test.YtbjbpgbpefkbhaaDoorShort
import Derived.Test.YtbjbpgbpefkbhaaDoorBits
import Derived.Test.YtbjbpgbpefkbhaaDoorDiv
namespace Go.Proofs.YtbjbpgbpefkbhaaDoor
open Go.RowKit
theorem mbit_at {xs : List Nat} (k j : Nat) (hj : j < 8) : mbit xs (8 * k + j) = xs.getD k 0 / 2 ^ j % 2 := by
  unfold mbit
  rw [show (8 * k + j) / 8 = k by omega, show (8 * k + j) % 8 = j by omega]
set_option maxHeartbeats 800000 in
theorem bits_any (A : Option Addr) (n c : Nat) (xs : List Nat) (w : World) (hx : RB w A n xs) (hn : 8 * n ≤ 140737488355328) :
    Calls Tryd.prog 64 #[.slice A n c] w fun e w' => ∃ v, e = .returned v ∧ OwnU w' w.heap.size v (upTo (mbit xs) (8 * n)) ∧ Below w.heap.size w w' := by
  have HX := Lib.hid hx
  clear hx
  go_enter Tryd.func64, Tryd.ntmps64
  go_wp2
  go_loopw [3, 4] (fun v i wr => ∃ k : Nat, k ≤ n ∧ i = .int .i64 k ∧ Hid (OwnU wr w.heap.size v (upTo (mbit xs) (8 * k))) ∧ Hid (Below w.heap.size w wr)) (fun _ i _ => n - (intOf i).toNat)
  case atStart => exact ⟨0, by omega, rfl, Own.nil _ _ _, Below.refl _ _⟩
  case round =>
    obtain ⟨k, hk, rfl, HO, HB⟩ := hrel
    obtain ⟨wo, hwo⟩ : ∃ wo : World, wo = wr := ⟨_, rfl⟩
    subst hwo
    by_cases hlt : k < n
    · obtain ⟨ad, rfl, hb, hcell⟩ := HX.out.at_ hlt
      have HC := Lib.hid hcell
      have hx8 : xs.getD k 0 < 256 := HX.out.lt hlt
      have HM : Hid (∀ j, j < 8 → mbit xs (8 * k + j) = xs.getD k 0 / 2 ^ j % 2) := fun j hj => mbit_at k j hj
      clear hcell
      generalize xs.getD k 0 = x at *
      go_wp2
      go_loopw [3, 5] (fun v i wr => ∃ j : Nat, j ≤ 8 ∧ i = .int .i64 j ∧ Hid (OwnU wr w.heap.size v (upTo (mbit xs) (8 * k + j))) ∧ Hid (Below w.heap.size w wr)) (fun _ i _ => 8 - (intOf i).toNat)
      case atStart => exact ⟨0, by omega, rfl, HO.out, HB.out⟩
      case round =>
        clear HO HB
        obtain ⟨j, hj, rfl, HO, HB⟩ := hrel
        by_cases hjt : j < 8
        · have hc := cell_later hb HB.out HC.out
          have hbit := bit8 x j hx8
          have hb2 : x / 2 ^ j % 2 < 256 := by omega
          have HMJ := Lib.hid (HM.out j hjt)
          have hl : (upTo (mbit xs) (8 * k + j)).length + 1 ≤ 140737488355328 := by rw [upTo_length]; omega
          generalize x / 2 ^ j % 2 = b at *
          go_wp2_with (at_builtin; refine append1 und_bytes info_byte wr rfl (.tmp 16) (.tmp 25) rfl w.heap.size _ (upTo (mbit xs) (8 * k + j)) HO.out b hb2 rfl rfl hl HB.out.size ?_; intro v' w1 hown1 hgrow1)
          have HB1 := Lib.hid (HB.out.grown hgrow1 HB.out.size HO.out.ge)
          go_roundw
          case rel => exact ⟨j + 1, by omega, by go_num, by rw [← Nat.add_assoc, upTo_succ, HMJ.out]; exact hown1, HB1.out⟩
          case measure => simp [intOf]; omega
        · have h8 : 8 * k + j = 8 * (k + 1) := by omega
          have HO8 : Hid (OwnU wr w.heap.size u3 (upTo (mbit xs) (8 * (k + 1)))) := by rw [← h8]; exact HO.out
          clear h8
          go_wp2
          go_roundw
          case rel => exact ⟨k + 1, by omega, by go_num, HO8.out, HB.out⟩
          case measure => simp [intOf]; omega
    · obtain rfl : k = n := by omega
      go_wp2
      go_ret
      exact ⟨_, rfl, HO.out, HB.out⟩
end Go.Proofs.YtbjbpgbpefkbhaaDoor
