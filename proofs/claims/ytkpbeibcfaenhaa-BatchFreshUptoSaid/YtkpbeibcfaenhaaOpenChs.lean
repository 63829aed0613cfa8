/- A list of changes that came in, as the closing texts ask for it. -/
import Derived.Test.YtkpbeibcfaenhaaGb
import Derived.Test.YtkpbeibcfaenhaaKeys
namespace Go.Proofs.Ytkpbeibcfaenhaa
open Go.ChangeShapes Go.WideShapes Go.RowKit
section
variable {H : Type} {enc : TypeId × Value → H} {w : World} {base : Nat} {held : Bool}
theorem und_chs : Try.prog.underlying 30 = some (.slice 45) := by kernel_rfl
theorem und_raw : Try.prog.underlying 31 = some (.slice 5) := by kernel_rfl
theorem und_u8 : Try.prog.underlying 5 = some (.int .u8) := by kernel_rfl
theorem chs_open {fuel : Nat} {cs : List Value} {x : DataW H × List MemPlace} (hf : DataW.trod enc Try.prog w base (fun _ => true) held fuel 30 cs = some x) : ∃ A N C X, cs = [.slice A N C] ∧ ChsAt w A N X ∧ N ≤ C ∧ C ≤ maxLen ∧ (A = none → C = 0) ∧ ∀ M, SizedBy Try.prog 30 x.1 M → N * Try.prog.bytesOf 45 ≤ M ∧ ∀ k, k < N → (X k).val.length * Try.prog.bytesOf 5 ≤ M :=
  chs_of und_chs Try.underlying45 rfl rfl rfl rfl rfl rfl (by kernel_rfl) (by kernel_rfl) (by kernel_rfl) und_key (by kernel_rfl) und_raw und_u8 (by kernel_rfl) und_u8 (by kernel_rfl) (by kernel_rfl) hf
end
end Go.Proofs.Ytkpbeibcfaenhaa
