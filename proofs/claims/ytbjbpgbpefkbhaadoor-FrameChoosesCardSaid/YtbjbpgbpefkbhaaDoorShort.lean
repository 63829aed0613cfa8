/- ledgerlaw5.short and copied: a text's first bytes, in new memory. -/
import Derived.Test.YtbjbpgbpefkbhaaDoorChecked
import Derived.Test.YtbjbpgbpefkbhaaDoorLib
import Derived.Test.YtbjbpgbpefkbhaaDoorCrc
namespace Go.Proofs.YtbjbpgbpefkbhaaDoor
open Go.RowKit
theorem info_byte : (Tryd.prog.info? 5).map (fun i => (i.zero, i.size, i.bytes)) = some (some (.int .u8 0), 1, 1) := by kernel_rfl
theorem und_bytes : Tryd.prog.underlying 24 = some (.slice 5) := by kernel_rfl
abbrev OwnU := Own 5

set_option maxHeartbeats 400000 in
theorem copied_any (A : Option Addr) (n c : Nat) (xs : List Nat) (w : World) (hx : RB w A n xs) (hn : n ≤ 140737488355328) :
    Calls Tryd.prog 12 #[.slice A n c] w fun e w' => ∃ v, e = .returned v ∧ OwnU w' w.heap.size v xs ∧ Below w.heap.size w w' := by
  have HX := Lib.hid hx
  clear hx
  go_enter Tryd.func12, Tryd.ntmps12
  go_wp2
  go_loopw [3, 4] (fun v i wr => ∃ k : Nat, k ≤ n ∧ i = .int .i64 k ∧ OwnU wr w.heap.size v (xs.take k) ∧ Below w.heap.size w wr) (fun _ i _ => n - (intOf i).toNat)
  case atStart => exact ⟨0, by omega, rfl, by simpa using Own.nil _ _ _, Below.refl _ _⟩
  case round =>
    obtain ⟨k, hk, rfl, hown, hbel⟩ := hrel
    have hlen := HX.out.1
    have HO := Lib.hid hown
    have HB := Lib.hid hbel
    clear hown hbel
    by_cases hlt : k < n
    · obtain ⟨ad, rfl, hb, hcell⟩ := HX.out.at_ hlt
      have hc := cell_later hb HB.out hcell
      have hlt8 : xs.getD k 0 < 256 := HX.out.lt hlt
      have HT := Lib.hid (take_succ_getD (show k < xs.length by omega))
      have hl2 : (xs.take k).length + 1 ≤ 140737488355328 := by rw [List.length_take]; omega
      clear hcell hlen
      generalize xs.getD k 0 = b at *
      go_wp2_with (at_builtin; refine append1 und_bytes info_byte wr rfl (.tmp 11) (.tmp 16) rfl w.heap.size _ (xs.take k) HO.out b hlt8 rfl rfl hl2 HB.out.size ?_; intro v' w1 hown1 hgrow1)
      have hb1 := HB.out.grown hgrow1 HB.out.size HO.out.ge
      go_roundw
      case rel => exact ⟨k + 1, by omega, by go_num, by rw [HT.out]; exact hown1, hb1⟩
      case measure => simp [intOf]; omega
    · have HT : Hid (xs.take k = xs) := by
        show xs.take k = xs
        rw [List.take_of_length_le (by omega)]
      clear hlen
      go_wp2
      go_ret
      exact ⟨_, rfl, by rw [← HT.out]; exact HO.out, HB.out⟩
end Go.Proofs.YtbjbpgbpefkbhaaDoor
