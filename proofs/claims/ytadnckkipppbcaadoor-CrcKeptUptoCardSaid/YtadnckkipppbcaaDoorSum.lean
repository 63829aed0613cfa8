/- crc.Update and crc.Sum over crc.feed; the one known sum. -/
import Derived.Test.YtadnckkipppbcaaDoorFeed
import Derived.Lib.SlBytesConst
namespace Go.Proofs.YtadnckkipppbcaaDoor
open Go.RowKit
theorem und_bytes' : Tryd.prog.underlying 22 = some (.slice 5) := by kernel_rfl
theorem upd_any (r : Nat) (A : Option Addr) (n c : Nat) (xs : List Nat) (w : World) (hr : r < 4294967296) (hx : RB w A n xs) (hn : n ≤ 281474976710656) :
    Calls Tryd.prog 15 #[.int .u32 r, .slice A n c] w fun e w' => e = .returned (.int .u32 (updN r xs : Nat)) ∧ Below w.heap.size w w' := by
  have hnot := not32c r hr
  have hf : feedN (comp r) xs < 4294967296 := feedN_lt hx.isB (comp_lt r)
  have hnot2 := not32c _ hf
  have HF := Lib.hid (feed_any (comp r) A n c xs w (comp_lt r) hx hn)
  have sg : IntKind.u32.signed = false := rfl
  have mx : IntKind.u32.max = 4294967295 := rfl
  have HU : Hid (updN r xs = comp (feedN (comp r) xs)) := rfl
  clear hx hf
  generalize comp r = r' at *
  generalize feedN r' xs = s at *
  go_enter Tryd.func15, Tryd.ntmps15
  go_wp2_with fail
  refine HF.out.mono ?_
  rintro e w' ⟨rfl, hb⟩
  go_wp2_with fail
  go_ret
  exact ⟨by rw [HU.out]; rfl, hb⟩
theorem sum_any (A : Option Addr) (n c : Nat) (xs : List Nat) (w : World) (hx : RB w A n xs) (hn : n ≤ 281474976710656) :
    Calls Tryd.prog 12 #[.slice A n c] w fun e w' => e = .returned (.int .u32 (updN 0 xs : Nat)) ∧ Below w.heap.size w w' := by
  have HF := Lib.hid (upd_any 0 A n c xs w (by omega) hx hn)
  clear hx
  generalize updN 0 xs = s at *
  go_enter Tryd.func12, Tryd.ntmps12
  go_wp2_with fail
  refine HF.out.mono ?_
  rintro e w' ⟨rfl, hb⟩
  go_wp2_with fail
  go_ret
  exact ⟨rfl, hb⟩
theorem known_any (w : World) : Calls Tryd.prog 17 #[] w fun e w' => e = .returned (.bool true) ∧ Below w.heap.size w w' := by
  have kc := fun (w : World) (C : Array Value) (n c : Nat) => Lib.run_convert_bytes_const (P := Tryd.prog) w 22 5 C n c und_bytes' (by kernel_rfl)
  have hs : ((updN 0 [49, 50, 51, 52, 53, 54, 55, 56, 57] : Nat) : Int) = 3421780262 := by decide +kernel
  go_enter Tryd.func17, Tryd.ntmps17
  go_wp2_with fail
  refine (sum_any _ 9 9 [49, 50, 51, 52, 53, 54, 55, 56, 57] _ ⟨rfl, by unfold IsB; decide, fun _ => ⟨_, rfl, by simp, ?_⟩⟩ (by omega)).mono ?_
  · intro j x hj
    rw [add_lit, World.cell?_alloc_mark]
    rcases j with _ | _ | _ | _ | _ | _ | _ | _ | _ | j <;> simp at hj
    all_goals subst hj; rfl
  · rintro e w' ⟨rfl, hb⟩
    generalize updN 0 [49, 50, 51, 52, 53, 54, 55, 56, 57] = s at *
    go_wp2_with fail
    go_ret
    exact ⟨rfl, ((Below.refl _ _).alloc (Nat.le_refl _) _).trans (hb.mono (by simp))⟩
end Go.Proofs.YtadnckkipppbcaaDoor
