/- ledgerlaw5.FrameNames: the walk. -/
import Derived.Test.YtbjbpgbpefkbhaaChecked
import Derived.Test.YtbjbpgbpefkbhaaLib
namespace Go.Proofs.Ytbjbpgbpefkbhaa
open Go.RowKit
theorem frameNames_walk (w : World) : Calls Try.prog 3 #[] w fun e w' => e = .returned (.bool true) ∧ Below w.heap.size w w' := by
  go_enter Try.func3, Try.ntmps3
  go_wp2
  go_ret
  exact ⟨rfl, Below.refl _ _⟩
end Go.Proofs.Ytbjbpgbpefkbhaa
