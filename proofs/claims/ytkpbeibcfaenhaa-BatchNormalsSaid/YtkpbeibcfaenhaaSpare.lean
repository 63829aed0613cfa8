/- ledgerlaw3.spare. -/
import Derived.Test.YtkpbeibcfaenhaaLaid
import Derived.Test.YtkpbeibcfaenhaaRoomyB
namespace Go.Proofs.Ytkpbeibcfaenhaa
open Go.RowKit
def spKey (a : Nat) : List Nat := a :: zs 31
theorem spKey_length (a : Nat) : (spKey a).length = 32 := by simp [spKey, zs]
theorem spKey_isB {a : Nat} (h : a < 256) : IsB (spKey a) := fun x hx => by
  simp only [spKey, List.mem_cons] at hx
  rcases hx with rfl | hx
  · exact h
  · exact zs_isB 31 x hx
def sp0 : Chg := ⟨spKey 201, false, [202]⟩
def sp1 : Chg := ⟨spKey 203, true, []⟩
def spX (i : Nat) : Chg := if i = 0 then sp0 else sp1
def SparePost (w : World) (e : Ending) (w' : World) : Prop := ∃ g gs, e = .returned (.slice (some ⟨g, 0, none⟩) 2 2) ∧ w.heap.size ≤ g ∧ w.heap.size ≤ gs ∧ gs ≠ g ∧ BlkIs w' g 45 (chC sp0 (some ⟨gs, 0, none⟩) 1 ++ chC sp1 none 0).toArray ∧ BlkB w' gs 5 [202] ∧ Below w.heap.size w w'
set_option maxRecDepth 100000 in
set_option maxHeartbeats 1000000 in
theorem spare_any (w : World) : Calls Try.prog 52 #[] w (SparePost w) := by
  go_enter Try.func52, Try.ntmps52
  go_wp2_with fail
  go_ret
  refine start2 ?_
  intro w1 HB1 HB2 HW _
  exact ⟨w.heap.size + 1, w.heap.size, rfl, by omega, Nat.le_refl _, by omega, HB2.out, HB1.out, HW.out⟩
end Go.Proofs.Ytkpbeibcfaenhaa
