/- ledgerlaw2.short and copied: a text's first bytes, in new memory. -/
import Derived.Test.YtadnckkipppbcaaDoorChecked
import Derived.Test.YtadnckkipppbcaaDoorLib
import Derived.Test.YtadnckkipppbcaaDoorCrc
namespace Go.Proofs.YtadnckkipppbcaaDoor
open Go.RowKit
theorem info_byte : (Tryd.prog.info? 5).map (fun i => (i.zero, i.size, i.bytes)) = some (some (.int .u8 0), 1, 1) := by kernel_rfl
theorem und_bytes : Tryd.prog.underlying 22 = some (.slice 5) := by kernel_rfl
abbrev OwnU := Own 5

set_option maxHeartbeats 400000 in
theorem short_any (A : Option Addr) (n c : Nat) (m : Int) (xs : List Nat) (w : World) (hx : RB w A n xs) (hn : n ≤ 140737488355328) :
    Calls Tryd.prog 25 #[.slice A n c, .int .i64 m] w fun e w' => ∃ v, e = .returned v ∧ OwnU w' w.heap.size v (xs.take m.toNat) ∧ Below w.heap.size w w' := by
  have HX := Lib.hid hx
  clear hx
  go_enter Tryd.func25, Tryd.ntmps25
  go_wp2
  go_loopw [5, 6] (fun v i wr => ∃ k : Nat, k ≤ n ∧ k ≤ m.toNat ∧ i = .int .i64 k ∧ OwnU wr w.heap.size v (xs.take k) ∧ Below w.heap.size w wr) (fun _ i _ => n - (intOf i).toNat)
  case atStart => exact ⟨0, by omega, by omega, rfl, by simpa using Own.nil _ _ _, Below.refl _ _⟩
  case round =>
    obtain ⟨k, hk, hkm, rfl, hown, hbel⟩ := hrel
    have hlen := HX.out.1
    have HO := Lib.hid hown
    have HB := Lib.hid hbel
    clear hown hbel
    by_cases hlt : k < n
    · by_cases hltm : (k : Int) < m
      · obtain ⟨ad, rfl, hb, hcell⟩ := HX.out.at_ hlt
        have hc := cell_later hb HB.out hcell
        have hlt8 : xs.getD k 0 < 256 := HX.out.lt hlt
        have HT := Lib.hid (take_succ_getD (show k < xs.length by omega))
        have hl2 : (xs.take k).length + 1 ≤ 140737488355328 := by rw [List.length_take]; omega
        clear hcell hlen
        generalize xs.getD k 0 = b at *
        go_wp2_with (at_builtin; refine append1 und_bytes info_byte wr rfl (.tmp 18) (.tmp 23) rfl w.heap.size _ (xs.take k) HO.out b hlt8 rfl rfl hl2 HB.out.size ?_; intro v' w1 hown1 hgrow1)
        have hb1 := HB.out.grown hgrow1 HB.out.size HO.out.ge
        go_roundw
        case rel => exact ⟨k + 1, by omega, by omega, by go_num, by rw [HT.out]; exact hown1, hb1⟩
        case measure => simp [intOf]; omega
      · have HT : Hid (xs.take k = xs.take m.toNat) := by
          show xs.take k = xs.take m.toNat
          rw [show k = m.toNat by omega]
        clear hlen
        go_wp2
        go_ret
        exact ⟨_, rfl, by rw [← HT.out]; exact HO.out, HB.out⟩
    · have HT : Hid (xs.take k = xs.take m.toNat) := by
        show xs.take k = xs.take m.toNat
        rw [List.take_of_length_le (by omega), List.take_of_length_le (by omega)]
      clear hlen
      go_wp2
      go_ret
      exact ⟨_, rfl, by rw [← HT.out]; exact HO.out, HB.out⟩

theorem copied_any (A : Option Addr) (n c : Nat) (xs : List Nat) (w : World) (hx : RB w A n xs) (hn : n ≤ 140737488355328) :
    Calls Tryd.prog 8 #[.slice A n c] w fun e w' => ∃ v, e = .returned v ∧ OwnU w' w.heap.size v xs ∧ Below w.heap.size w w' := by
  have HX := Lib.hid hx
  clear hx
  go_enter Tryd.func8, Tryd.ntmps8
  go_wp2_with fail
  refine (short_any A n c n xs w HX.out hn).mono ?_
  rintro e w' ⟨v, rfl, hown, hbel⟩
  have HO := Lib.hid hown
  clear hown
  go_wp2_with fail
  go_ret
  have h := HO.out
  rw [Int.toNat_natCast, List.take_of_length_le (by rw [HX.out.1]; omega)] at h
  exact ⟨_, rfl, h, hbel⟩
end Go.Proofs.YtadnckkipppbcaaDoor
