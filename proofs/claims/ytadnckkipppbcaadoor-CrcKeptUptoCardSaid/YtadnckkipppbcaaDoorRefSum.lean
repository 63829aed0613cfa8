/- ledgerref2.Sum, Update, Seal and Whole over divide. -/
import Derived.Test.YtadnckkipppbcaaDoorDivide
import Derived.Test.YtadnckkipppbcaaDoorSum
namespace Go.Proofs.YtadnckkipppbcaaDoor
open Go.RowKit
theorem refupd_any (r : Nat) (A : Option Addr) (n c : Nat) (xs : List Nat) (w : World) (hr : r < 4294967296) (hx : RB w A n xs) (hn : 8 * n + 32 ≤ 140737488355328) (hd : DivT w) :
    Calls Tryd.prog 16 #[.int .u32 r, .slice A n c] w fun e w' => e = .returned (.int .u32 (updN r xs : Nat)) ∧ Below w.heap.size w w' := by
  have hnot := not32c r hr
  have hf : feedN (comp r) xs < 4294967296 := feedN_lt hx.isB (comp_lt r)
  have hnot2 := not32c _ hf
  have HF := Lib.hid (divide_any (comp r) A n c xs w (comp_lt r) hx hn hd)
  have sg : IntKind.u32.signed = false := rfl
  have mx : IntKind.u32.max = 4294967295 := rfl
  have HU : Hid (updN r xs = comp (feedN (comp r) xs)) := rfl
  clear hx hf hd
  generalize comp r = r' at *
  generalize feedN r' xs = s at *
  go_enter Tryd.func16, Tryd.ntmps16
  go_wp2_with fail
  refine HF.out.mono ?_
  rintro e w' ⟨rfl, hb⟩
  go_wp2_with fail
  go_ret
  exact ⟨by rw [HU.out]; rfl, hb⟩
theorem top_cast : ((top : Nat) : Int) = 4294967295 := rfl
theorem refsum_any (A : Option Addr) (n c : Nat) (xs : List Nat) (w : World) (hx : RB w A n xs) (hn : 8 * n + 32 ≤ 140737488355328) (hd : DivT w) :
    Calls Tryd.prog 11 #[.slice A n c] w fun e w' => e = .returned (.int .u32 (updN 0 xs : Nat)) ∧ Below w.heap.size w w' := by
  have hf : feedN top xs < 4294967296 := feedN_lt hx.isB (by unfold top; omega)
  have hnot2 := not32c _ hf
  have HF0 := divide_any top A n c xs w (by unfold top; omega) hx hn hd
  rw [top_cast] at HF0
  have HF := Lib.hid HF0
  have sg : IntKind.u32.signed = false := rfl
  have mx : IntKind.u32.max = 4294967295 := rfl
  have HU : Hid (updN 0 xs = comp (feedN top xs)) := rfl
  clear hx hf hd HF0
  generalize feedN top xs = s at *
  go_enter Tryd.func11, Tryd.ntmps11
  go_wp2_with fail
  refine HF.out.mono ?_
  rintro e w' ⟨rfl, hb⟩
  go_wp2_with fail
  go_ret
  exact ⟨by rw [HU.out]; rfl, hb⟩
end Go.Proofs.YtadnckkipppbcaaDoor
