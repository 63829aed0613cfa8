/- crc.Update and crc.Sum over crc.feed. -/
import Derived.Test.YtbjbpgbpefkbhaaDoorFeed
namespace Go.Proofs.YtbjbpgbpefkbhaaDoor
open Go.RowKit
theorem und_bytes' : Tryd.prog.underlying 24 = some (.slice 5) := by kernel_rfl
theorem upd_any (r : Nat) (A : Option Addr) (n c : Nat) (xs : List Nat) (w : World) (hr : r < 4294967296) (hx : RB w A n xs) (hn : n ≤ 281474976710656) :
    Calls Tryd.prog 60 #[.int .u32 r, .slice A n c] w fun e w' => e = .returned (.int .u32 (updN r xs : Nat)) ∧ Below w.heap.size w w' := by
  have hnot := not32c r hr
  have hf : feedN (comp r) xs < 4294967296 := feedN_lt hx.isB (comp_lt r)
  have hnot2 := not32c _ hf
  have HF := Lib.hid (feed_any (comp r) A n c xs w (comp_lt r) hx hn)
  have sg : IntKind.u32.signed = false := rfl
  have mx : IntKind.u32.max = 4294967295 := rfl
  have HU : Hid (updN r xs = comp (feedN (comp r) xs)) := rfl
  clear hx hf
  generalize comp r = r' at *
  generalize feedN r' xs = s at *
  go_enter Tryd.func60, Tryd.ntmps60
  go_wp2_with fail
  refine HF.out.mono ?_
  rintro e w' ⟨rfl, hb⟩
  go_wp2_with fail
  go_ret
  exact ⟨by rw [HU.out]; rfl, hb⟩
theorem sum_any (A : Option Addr) (n c : Nat) (xs : List Nat) (w : World) (hx : RB w A n xs) (hn : n ≤ 281474976710656) :
    Calls Tryd.prog 42 #[.slice A n c] w fun e w' => e = .returned (.int .u32 (updN 0 xs : Nat)) ∧ Below w.heap.size w w' := by
  have HF := Lib.hid (upd_any 0 A n c xs w (by omega) hx hn)
  clear hx
  generalize updN 0 xs = s at *
  go_enter Tryd.func42, Tryd.ntmps42
  go_wp2_with fail
  refine HF.out.mono ?_
  rintro e w' ⟨rfl, hb⟩
  go_wp2_with fail
  go_ret
  exact ⟨rfl, hb⟩
end Go.Proofs.YtbjbpgbpefkbhaaDoor
