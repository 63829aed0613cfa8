/- ledgerlaw3.BatchNames: the walk. -/
import Derived.Test.YtgjlheldifhmhaaChecked
import Derived.Test.YtgjlheldifhmhaaLib
namespace Go.Proofs.Ytgjlheldifhmhaa
open Go.RowKit
theorem batchNames_walk (w : World) : Calls Try.prog 3 #[] w fun e w' => e = .returned (.bool true) ∧ Below w.heap.size w w' := by
  go_enter Try.func3, Try.ntmps3
  go_wp2
  go_ret
  exact ⟨rfl, Below.refl _ _⟩
end Go.Proofs.Ytgjlheldifhmhaa
