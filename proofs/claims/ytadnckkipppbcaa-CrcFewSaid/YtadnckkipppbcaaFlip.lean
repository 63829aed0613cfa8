/- ledgerlaw2.flip: one bit of a text turned, if it has it. -/
import Derived.Test.YtadnckkipppbcaaShort
import Derived.Test.YtadnckkipppbcaaBits
namespace Go.Proofs.Ytadnckkipppbcaa
open Go.RowKit
def RetBool (e : Ending) : Prop := ∃ b, e = .returned (.bool b)
set_option maxHeartbeats 400000 in
theorem flip_any (base : Nat) (v : Value) (xs : List Nat) (k : Int) (w : World) (hown : OwnU w base v xs) (hn : xs.length ≤ 140737488355328) :
    Calls Try.prog 19 #[v, .int .i64 k] w fun e w' => RetBool e ∧ OwnU w' base v (flipN xs k) ∧ w.grownBy w' v.ownBlock := by
  by_cases hk : 0 ≤ k ∧ k < 8 * xs.length
  · obtain ⟨h0, h1⟩ := hk
    obtain ⟨m, rfl⟩ := Int.eq_ofNat_of_zero_le h0
    have HF := Lib.hid (flipN_in (xs := xs) (k := m) (by omega))
    have hj : m / 8 < xs.length := by omega
    obtain ⟨g, c, rfl, hbg, hgs, hfr, hcell⟩ := hown.shape (by omega)
    have hc := hcell _ hj
    have hf := hfr (m / 8)
    have hx := hown.isB _ (getD_mem hj)
    have hp : 2 ^ (m % 8) < 256 := Nat.pow_lt_pow_right (by omega) (show m % 8 < 8 by omega)
    have hxor := xorbit8 (xs.getD (m / 8) 0) m hx
    have HS := Lib.hid (hown.set (m / 8) (xs.getD (m / 8) 0 ^^^ 2 ^ (m % 8)) (xor_lt8 hx hp))
    have HG := Lib.hid (grown_setCell w (g := g) (m / 8) (.int .u8 ((xs.getD (m / 8) 0 ^^^ 2 ^ (m % 8) : Nat) : Int)))
    clear hcell hfr hown
    generalize xs.getD (m / 8) 0 = x at *
    go_enter Try.func19, Try.ntmps19
    go_wp2
    go_ret
    exact ⟨⟨true, rfl⟩, by rw [HF.out]; exact HS.out, HG.out⟩
  · have HF := Lib.hid (flipN_out hk)
    have HO := Lib.hid hown
    obtain ⟨A, c, rfl, hr, _⟩ := hown.form
    clear hown hr
    by_cases h0 : k < 0
    · go_enter Try.func19, Try.ntmps19
      go_wp2
      go_ret
      exact ⟨⟨false, rfl⟩, by rw [HF.out]; exact HO.out, World.grownBy.refl _ _⟩
    · have h1 : 8 * (xs.length : Int) ≤ k := by omega
      clear hk
      go_enter Try.func19, Try.ntmps19
      go_wp2
      go_ret
      exact ⟨⟨false, rfl⟩, by rw [HF.out]; exact HO.out, World.grownBy.refl _ _⟩
end Go.Proofs.Ytadnckkipppbcaa
