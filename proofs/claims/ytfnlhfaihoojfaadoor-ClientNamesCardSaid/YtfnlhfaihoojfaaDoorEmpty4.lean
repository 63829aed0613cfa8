/- .. and from the height 128 on. -/
import Derived.Test.YtfnlhfaihoojfaaDoorEmpty4a
namespace Go.Proofs.YtfnlhfaihoojfaaDoor
theorem e4_136 : emptyD 4 136 = four 204 146 51 137 := by
  rw [show (136 : Nat) = 128 + 8 from rfl, upE_empty, e4_128]
  decide +kernel
theorem e4_144 : emptyD 4 144 = four 32 5 145 209 := by
  rw [show (144 : Nat) = 136 + 8 from rfl, upE_empty, e4_136]
  decide +kernel
theorem e4_152 : emptyD 4 152 = four 161 145 95 4 := by
  rw [show (152 : Nat) = 144 + 8 from rfl, upE_empty, e4_144]
  decide +kernel
theorem e4_160 : emptyD 4 160 = four 182 36 38 152 := by
  rw [show (160 : Nat) = 152 + 8 from rfl, upE_empty, e4_152]
  decide +kernel
theorem e4_168 : emptyD 4 168 = four 137 188 22 26 := by
  rw [show (168 : Nat) = 160 + 8 from rfl, upE_empty, e4_160]
  decide +kernel
theorem e4_176 : emptyD 4 176 = four 194 252 29 2 := by
  rw [show (176 : Nat) = 168 + 8 from rfl, upE_empty, e4_168]
  decide +kernel
theorem e4_184 : emptyD 4 184 = four 202 158 117 210 := by
  rw [show (184 : Nat) = 176 + 8 from rfl, upE_empty, e4_176]
  decide +kernel
theorem e4_192 : emptyD 4 192 = four 232 213 74 215 := by
  rw [show (192 : Nat) = 184 + 8 from rfl, upE_empty, e4_184]
  decide +kernel
theorem e4_200 : emptyD 4 200 = four 198 70 49 210 := by
  rw [show (200 : Nat) = 192 + 8 from rfl, upE_empty, e4_192]
  decide +kernel
theorem e4_208 : emptyD 4 208 = four 118 77 255 19 := by
  rw [show (208 : Nat) = 200 + 8 from rfl, upE_empty, e4_200]
  decide +kernel
theorem e4_216 : emptyD 4 216 = four 165 90 63 101 := by
  rw [show (216 : Nat) = 208 + 8 from rfl, upE_empty, e4_208]
  decide +kernel
theorem e4_224 : emptyD 4 224 = four 190 204 141 138 := by
  rw [show (224 : Nat) = 216 + 8 from rfl, upE_empty, e4_216]
  decide +kernel
theorem e4_232 : emptyD 4 232 = four 44 58 100 110 := by
  rw [show (232 : Nat) = 224 + 8 from rfl, upE_empty, e4_224]
  decide +kernel
theorem e4_240 : emptyD 4 240 = four 134 214 153 143 := by
  rw [show (240 : Nat) = 232 + 8 from rfl, upE_empty, e4_232]
  decide +kernel
theorem e4_248 : emptyD 4 248 = four 46 203 35 183 := by
  rw [show (248 : Nat) = 240 + 8 from rfl, upE_empty, e4_240]
  decide +kernel
theorem e4_256 : emptyD 4 256 = four 45 33 71 58 := by
  rw [show (256 : Nat) = 248 + 8 from rfl, upE_empty, e4_248]
  decide +kernel
theorem empty4_ne : emptyD 4 256 ≠ zs 32 := by
  rw [e4_256]
  decide
end Go.Proofs.YtfnlhfaihoojfaaDoor
