/- ledgerref2.Sum, Seal and Whole over divide. -/
import Derived.Test.YtbjbpgbpefkbhaaDoorDivide
import Derived.Test.YtbjbpgbpefkbhaaDoorSum
namespace Go.Proofs.YtbjbpgbpefkbhaaDoor
open Go.RowKit
theorem top_cast : ((top : Nat) : Int) = 4294967295 := rfl
theorem refsum_any (A : Option Addr) (n c : Nat) (xs : List Nat) (w : World) (hx : RB w A n xs) (hn : 8 * n + 32 ≤ 140737488355328) (hd : DivT w) :
    Calls Tryd.prog 61 #[.slice A n c] w fun e w' => e = .returned (.int .u32 (updN 0 xs : Nat)) ∧ Below w.heap.size w w' := by
  have hf : feedN top xs < 4294967296 := feedN_lt hx.isB (by unfold top; omega)
  have hnot2 := not32c _ hf
  have HF0 := divide_any top A n c xs w (by unfold top; omega) hx hn hd
  rw [top_cast] at HF0
  have HF := Lib.hid HF0
  have sg : IntKind.u32.signed = false := rfl
  have mx : IntKind.u32.max = 4294967295 := rfl
  have HU : Hid (updN 0 xs = comp (feedN top xs)) := rfl
  clear hx hf hd HF0
  generalize feedN top xs = s at *
  go_enter Tryd.func61, Tryd.ntmps61
  go_wp2_with fail
  refine HF.out.mono ?_
  rintro e w' ⟨rfl, hb⟩
  go_wp2_with fail
  go_ret
  exact ⟨by rw [HU.out]; rfl, hb⟩
end Go.Proofs.YtbjbpgbpefkbhaaDoor
