/- The digest of the empty map at the width 4, reckoned: it is not zero. No function of the program is named here. -/
import Derived.Test.YtfnlhfaihoojfaaDoorMb
namespace Go.Proofs.YtfnlhfaihoojfaaDoor
def upE (w : Int) : Nat → List Nat → List Nat
  | 0, d => d
  | n + 1, d => upE w n (nodeD w (branchT w d d))
theorem upE_empty (w : Int) (n h : Nat) : emptyD w (h + n) = upE w n (emptyD w h) := by
  induction n generalizing h with
  | zero => rfl
  | succ n ih =>
    rw [upE, show h + (n + 1) = (h + 1) + n by omega, ih (h + 1)]
    rfl
def four (a b c d : Nat) : List Nat := a :: b :: c :: d :: zs 28
theorem e4_0 : emptyD 4 0 = four 219 193 180 201 := by decide +kernel
theorem e4_8 : emptyD 4 8 = four 13 203 99 246 := by
  rw [show (8 : Nat) = 0 + 8 from rfl, upE_empty, e4_0]
  decide +kernel
theorem e4_16 : emptyD 4 16 = four 229 109 130 221 := by
  rw [show (16 : Nat) = 8 + 8 from rfl, upE_empty, e4_8]
  decide +kernel
theorem e4_24 : emptyD 4 24 = four 202 150 55 100 := by
  rw [show (24 : Nat) = 16 + 8 from rfl, upE_empty, e4_16]
  decide +kernel
theorem e4_32 : emptyD 4 32 = four 103 11 224 104 := by
  rw [show (32 : Nat) = 24 + 8 from rfl, upE_empty, e4_24]
  decide +kernel
theorem e4_40 : emptyD 4 40 = four 21 146 81 87 := by
  rw [show (40 : Nat) = 32 + 8 from rfl, upE_empty, e4_32]
  decide +kernel
theorem e4_48 : emptyD 4 48 = four 218 165 209 70 := by
  rw [show (48 : Nat) = 40 + 8 from rfl, upE_empty, e4_40]
  decide +kernel
theorem e4_56 : emptyD 4 56 = four 62 55 43 198 := by
  rw [show (56 : Nat) = 48 + 8 from rfl, upE_empty, e4_48]
  decide +kernel
theorem e4_64 : emptyD 4 64 = four 51 247 182 222 := by
  rw [show (64 : Nat) = 56 + 8 from rfl, upE_empty, e4_56]
  decide +kernel
theorem e4_72 : emptyD 4 72 = four 54 28 27 190 := by
  rw [show (72 : Nat) = 64 + 8 from rfl, upE_empty, e4_64]
  decide +kernel
theorem e4_80 : emptyD 4 80 = four 175 21 249 0 := by
  rw [show (80 : Nat) = 72 + 8 from rfl, upE_empty, e4_72]
  decide +kernel
theorem e4_88 : emptyD 4 88 = four 151 235 207 218 := by
  rw [show (88 : Nat) = 80 + 8 from rfl, upE_empty, e4_80]
  decide +kernel
theorem e4_96 : emptyD 4 96 = four 152 194 123 13 := by
  rw [show (96 : Nat) = 88 + 8 from rfl, upE_empty, e4_88]
  decide +kernel
theorem e4_104 : emptyD 4 104 = four 93 198 170 165 := by
  rw [show (104 : Nat) = 96 + 8 from rfl, upE_empty, e4_96]
  decide +kernel
theorem e4_112 : emptyD 4 112 = four 158 42 175 45 := by
  rw [show (112 : Nat) = 104 + 8 from rfl, upE_empty, e4_104]
  decide +kernel
theorem e4_120 : emptyD 4 120 = four 114 159 102 180 := by
  rw [show (120 : Nat) = 112 + 8 from rfl, upE_empty, e4_112]
  decide +kernel
theorem e4_128 : emptyD 4 128 = four 86 247 42 113 := by
  rw [show (128 : Nat) = 120 + 8 from rfl, upE_empty, e4_120]
  decide +kernel
end Go.Proofs.YtfnlhfaihoojfaaDoor
