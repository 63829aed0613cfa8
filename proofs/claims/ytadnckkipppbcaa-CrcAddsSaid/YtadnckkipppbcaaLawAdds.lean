/- ledgerlaw2.CrcAdds: the walk. -/
import Derived.Test.YtadnckkipppbcaaApp
import Derived.Test.YtadnckkipppbcaaShort
import Derived.Test.YtadnckkipppbcaaSum
import Derived.Test.YtadnckkipppbcaaAdds
namespace Go.Proofs.Ytadnckkipppbcaa
open Go.RowKit
def gN (ws : List Nat) (i : Nat) : Nat := ws.getD i 0
def hN (xs ws : List Nat) (i : Nat) : Nat := xs.getD i 0 ^^^ ws.getD i 0
structure AInv (w w1 wr : World) (xs ws : List Nat) (y z o : Value) (k : Nat) : Prop where
  ownY : OwnU wr w1.heap.size y (upTo (gN ws) k)
  ownZ : OwnU wr w1.heap.size z (upTo (hN xs ws) k)
  ownO : OwnU wr w1.heap.size o (upTo (fun _ => 0) k)
  yz : Apart y z
  yo : Apart y o
  zo : Apart z o
  bel : Below w.heap.size w wr
  bel1 : Below w1.heap.size w1 wr
theorem AInv.step {w w1 wr w2 w3 w4 : World} {xs ws : List Nat} {y z o y' z' o' : Value} {k : Nat} (h : AInv w w1 wr xs ws y z o k) (hw : w.heap.size ≤ w1.heap.size)
    (hy : OwnU w2 w1.heap.size y' (upTo (gN ws) k ++ [gN ws k])) (gy : wr.grownBy w2 y.ownBlock) (ly : Lies wr y y')
    (hz : OwnU w3 w1.heap.size z' (upTo (hN xs ws) k ++ [hN xs ws k])) (gz : w2.grownBy w3 z.ownBlock) (lz : Lies w2 z z')
    (ho : OwnU w4 w1.heap.size o' (upTo (fun _ => 0) k ++ [0])) (go : w3.grownBy w4 o.ownBlock) (lo : Lies w3 o o') : AInv w w1 w4 xs ws y' z' o' (k + 1) := by
  have z2 : OwnU w2 w1.heap.size z _ := kept_apart h.ownZ gy h.yz
  have o2 : OwnU w2 w1.heap.size o _ := kept_apart h.ownO gy h.yo
  have a1 : Apart y' z := apart_step h.yz ly (lt_of_own h.ownZ (Nat.le_refl _))
  have a2 : Apart y' o := apart_step h.yo ly (lt_of_own h.ownO (Nat.le_refl _))
  have y3 : OwnU w3 w1.heap.size y' _ := kept_apart hy gz a1.symm'
  have o3 : OwnU w3 w1.heap.size o _ := kept_apart o2 gz h.zo
  have b1 : Apart z' y' := apart_step a1.symm' lz (lt_of_own hy (Nat.le_refl _))
  have b2 : Apart z' o := apart_step h.zo lz (lt_of_own o2 (Nat.le_refl _))
  have y4 : OwnU w4 w1.heap.size y' _ := kept_apart y3 go a2.symm'
  have z4 : OwnU w4 w1.heap.size z' _ := kept_apart hz go b2.symm'
  have c1 : Apart o' y' := apart_step a2.symm' lo (lt_of_own y3 (Nat.le_refl _))
  have c2 : Apart o' z' := apart_step b2.symm' lo (lt_of_own hz (Nat.le_refl _))
  have s1 : w1.heap.size ≤ wr.heap.size := h.bel1.size
  have s2 : w1.heap.size ≤ w2.heap.size := Nat.le_trans s1 gy.size
  have s3 : w1.heap.size ≤ w3.heap.size := Nat.le_trans s2 gz.size
  refine ⟨by rw [upTo_succ]; exact y4, by rw [upTo_succ]; exact z4, by rw [upTo_succ]; exact ho, b1.symm', c1.symm', c2.symm', ?_, ?_⟩
  · exact ((h.bel.grown gy (Nat.le_trans hw s1) (fun j hj => Nat.le_trans hw (h.ownY.ge j hj))).grown gz (Nat.le_trans hw s2) (fun j hj => Nat.le_trans hw (h.ownZ.ge j hj))).grown go (Nat.le_trans hw s3) (fun j hj => Nat.le_trans hw (h.ownO.ge j hj))
  · exact ((h.bel1.grown gy s1 h.ownY.ge).grown gz s2 h.ownZ.ge).grown go s3 h.ownO.ge
set_option maxHeartbeats 1600000 in
theorem adds_walk (A : Option Addr) (n c : Nat) (B : Option Addr) (m d : Nat) (xs ws : List Nat) (w : World) (hx : RB w A n xs) (hy : RB w B m ws) (hn : n ≤ 140737488355328) (hm : m ≤ 140737488355328) :
    Calls Try.prog 3 #[.slice A n c, .slice B m d] w fun e w' => e = .returned (.bool true) ∧ Below w.heap.size w w' := by
  have HX := Lib.hid (copied_any A n c xs w hx hn)
  have HY := Lib.hid hy
  obtain rfl : xs.length = n := hx.1
  obtain rfl : ws.length = m := hy.1
  have hxB := hx.isB
  clear hx hy
  go_enter Try.func3, Try.ntmps3
  go_wp2_with fail
  refine HX.out.mono ?_
  rintro e w1 ⟨v1, rfl, hown1, hb1⟩
  have HO1 := Lib.hid hown1
  have HB1 := Lib.hid hb1
  obtain ⟨A1, c1, rfl, hr1, _⟩ := hown1.form
  have HR1 := Lib.hid hr1
  clear hown1 hb1 hr1 HX
  go_wp2
  go_loopw [6, 7, 8, 9] (fun y z o i wr => ∃ k : Nat, k ≤ xs.length ∧ i = .int .i64 k ∧ Hid (AInv w w1 wr xs ws y z o k)) (fun _ _ _ i _ => xs.length - (intOf i).toNat)
  case atStart => exact ⟨0, by omega, rfl, ⟨Own.nil _ _ _, Own.nil _ _ _, Own.nil _ _ _, apart_nil _ _ _, apart_nil _ _ _, apart_nil _ _ _, HB1.out, Below.refl _ _⟩⟩
  case round =>
    obtain ⟨k, hk, rfl, HI⟩ := hrel
    by_cases hlt : k < xs.length
    · have hl1 : (upTo (gN ws) k).length + 1 ≤ 140737488355328 := by rw [upTo_length]; omega
      have hl2 : (upTo (hN xs ws) k).length + 1 ≤ 140737488355328 := by rw [upTo_length]; omega
      have hl3 : (upTo (fun _ => 0) k).length + 1 ≤ 140737488355328 := by rw [upTo_length]; omega
      obtain ⟨ad, rfl, hb, hc0⟩ := HR1.out.at_ hlt
      have HC0 := Lib.hid hc0
      have hx8 : xs.getD k 0 < 256 := HR1.out.lt hlt
      clear hc0
      by_cases hkm : k < ws.length
      · obtain ⟨bd, rfl, hbb, hcb⟩ := HY.out.at_ hkm
        have hcw := cell_later hbb HI.out.bel hcb
        have hy8 : ws.getD k 0 < 256 := HY.out.lt hkm
        clear hcb
        have HG : Hid (gN ws k = ws.getD k 0) := rfl
        have HH : Hid (hN xs ws k = xs.getD k 0 ^^^ ws.getD k 0) := rfl
        generalize ws.getD k 0 = b at *
        generalize xs.getD k 0 = a at *
        have hxor := xor8 a b hx8 hy8
        have HXL : Hid ((a ^^^ b) < 256) := xor_lt8 hx8 hy8
        go_wp2_with (first
          | (at_builtin; refine append1At und_bytes info_byte wr rfl (.tmp 27) (.tmp 29) rfl w1.heap.size _ (upTo (gN ws) k) HI.out.ownY b hy8 rfl rfl hl1 HI.out.bel1.size ?_; intro y2 w2 hy2 gy2 ly2; have HY2 := Lib.hid hy2; have GY2 := Lib.hid gy2; have LY2 := Lib.hid ly2; clear hy2 gy2 ly2; have HZ2 : Hid (OwnU w2 w1.heap.size _ (upTo (hN xs ws) k)) := kept_apart HI.out.ownZ GY2.out HI.out.yz; have HW2 : Hid (Below w1.heap.size w1 w2) := HI.out.bel1.grown GY2.out HI.out.bel1.size HI.out.ownY.ge; have hcx := cell_later hb HW2.out HC0.out)
          | (at_builtin; refine append1At und_bytes info_byte w2 rfl (.tmp 31) (.tmp 38) rfl w1.heap.size _ (upTo (hN xs ws) k) HZ2.out (a ^^^ b) HXL.out rfl rfl hl2 HW2.out.size ?_; intro z3 w3 hz3 gz3 lz3; have HZ3 := Lib.hid hz3; have GZ3 := Lib.hid gz3; have LZ3 := Lib.hid lz3; clear hz3 gz3 lz3; have HO3 : Hid (OwnU w3 w1.heap.size _ (upTo (fun _ => 0) k)) := kept_apart (kept_apart HI.out.ownO GY2.out HI.out.yo) GZ3.out HI.out.zo; have HW3 : Hid (Below w1.heap.size w1 w3) := HW2.out.grown GZ3.out HW2.out.size HZ2.out.ge)
          | (at_builtin; refine append1At und_bytes info_byte w3 rfl (.tmp 40) (.tmp 41) rfl w1.heap.size _ (upTo (fun _ => 0) k) HO3.out 0 (by omega) rfl rfl hl3 HW3.out.size ?_; intro o4 w4 ho4 go4 lo4; have HO4 := Lib.hid ho4; have GO4 := Lib.hid go4; have LO4 := Lib.hid lo4; clear ho4 go4 lo4)
          | fail)
        go_roundw
        case rel => exact ⟨k + 1, by omega, by go_num, HI.out.step HB1.out.size (by rw [HG.out]; exact HY2.out) GY2.out LY2.out (by rw [HH.out]; exact HZ3.out) GZ3.out LZ3.out HO4.out GO4.out LO4.out⟩
        case measure => simp [intOf]; omega
      · have hz0 : ws.getD k 0 = 0 := by simp [List.getD, List.getElem?_eq_none (show ws.length ≤ k by omega)]
        have HG : Hid (gN ws k = 0) := hz0
        have HH : Hid (hN xs ws k = xs.getD k 0) := by
          show xs.getD k 0 ^^^ ws.getD k 0 = _
          rw [hz0, Nat.xor_zero]
        clear hz0
        generalize xs.getD k 0 = a at *
        have hxor : bits .xor .u8 (a : Int) 0 = (a : Int) := (xor8 a 0 hx8 (by omega)).trans (by rw [Nat.xor_zero])
        have HXL : Hid (a < 256) := hx8
        go_wp2_with (first
          | (at_builtin; refine append1At und_bytes info_byte wr rfl (.tmp 27) (.tmp 29) rfl w1.heap.size _ (upTo (gN ws) k) HI.out.ownY 0 (by omega) rfl rfl hl1 HI.out.bel1.size ?_; intro y2 w2 hy2 gy2 ly2; have HY2 := Lib.hid hy2; have GY2 := Lib.hid gy2; have LY2 := Lib.hid ly2; clear hy2 gy2 ly2; have HZ2 : Hid (OwnU w2 w1.heap.size _ (upTo (hN xs ws) k)) := kept_apart HI.out.ownZ GY2.out HI.out.yz; have HW2 : Hid (Below w1.heap.size w1 w2) := HI.out.bel1.grown GY2.out HI.out.bel1.size HI.out.ownY.ge; have hcx := cell_later hb HW2.out HC0.out)
          | (at_builtin; refine append1At und_bytes info_byte w2 rfl (.tmp 31) (.tmp 38) rfl w1.heap.size _ (upTo (hN xs ws) k) HZ2.out a HXL.out rfl rfl hl2 HW2.out.size ?_; intro z3 w3 hz3 gz3 lz3; have HZ3 := Lib.hid hz3; have GZ3 := Lib.hid gz3; have LZ3 := Lib.hid lz3; clear hz3 gz3 lz3; have HO3 : Hid (OwnU w3 w1.heap.size _ (upTo (fun _ => 0) k)) := kept_apart (kept_apart HI.out.ownO GY2.out HI.out.yo) GZ3.out HI.out.zo; have HW3 : Hid (Below w1.heap.size w1 w3) := HW2.out.grown GZ3.out HW2.out.size HZ2.out.ge)
          | (at_builtin; refine append1At und_bytes info_byte w3 rfl (.tmp 40) (.tmp 41) rfl w1.heap.size _ (upTo (fun _ => 0) k) HO3.out 0 (by omega) rfl rfl hl3 HW3.out.size ?_; intro o4 w4 ho4 go4 lo4; have HO4 := Lib.hid ho4; have GO4 := Lib.hid go4; have LO4 := Lib.hid lo4; clear ho4 go4 lo4)
          | fail)
        go_roundw
        case rel => exact ⟨k + 1, by omega, by go_num, HI.out.step HB1.out.size (by rw [HG.out]; exact HY2.out) GY2.out LY2.out (by rw [HH.out]; exact HZ3.out) GZ3.out LZ3.out HO4.out GO4.out LO4.out⟩
        case measure => simp [intOf]; omega
    · obtain rfl : k = xs.length := by omega
      have hI := HI.out
      have hf : upTo (fun i => xs.getD i 0) xs.length = xs := upTo_self xs
      have hL := adds_law (fun i => xs.getD i 0) (gN ws) xs.length (by rw [hf]; exact hxB) hI.ownY.isB hI.ownZ.isB hI.ownO.isB
      rw [hf] at hL
      have HL : Hid ((updN 0 xs ^^^ updN 0 (upTo (gN ws) xs.length)) ^^^ updN 0 (upTo (fun _ => 0) xs.length) = updN 0 (upTo (hN xs ws) xs.length)) := hL
      clear hL hf
      obtain ⟨Ay, cy, rfl, ry, _⟩ := hI.ownY.form
      obtain ⟨Az, cz, rfl, rz, _⟩ := hI.ownZ.form
      obtain ⟨Ao, co, rfl, ro, _⟩ := hI.ownO.form
      rw [upTo_length] at ry rz ro
      have RX : Hid (RB wr A1 xs.length xs) := HR1.out.keep hI.bel1.size fun _ _ hp => hI.bel1.cell hp
      have RY := Lib.hid ry
      have RZ := Lib.hid rz
      have RO := Lib.hid ro
      have HWr := Lib.hid hI.bel
      have u1 := updN_lt 0 xs
      have u2 := updN_lt 0 (upTo (gN ws) xs.length)
      have u3 := updN_lt 0 (upTo (fun _ => 0) xs.length)
      have e1 := xor32 _ _ u1 u2
      have e2 := xor32 _ _ (xor_lt32 u1 u2) u3
      rw [HL.out] at e2
      have E1 := Lib.hid e1
      have E2 := Lib.hid e2
      clear hI ry rz ro u1 u2 u3 e1 e2
      go_wp2_with fail
      refine (known_any _).mono ?_
      rintro e w2 ⟨rfl, hb2⟩
      have HB2 := Lib.hid (HWr.out.trans (hb2.mono HWr.out.size))
      have HC1 := Lib.hid (sum_any A1 xs.length c1 xs w2 (RX.out.below hb2) (by omega))
      have RY2 := Lib.hid (RY.out.below hb2)
      have RZ2 := Lib.hid (RZ.out.below hb2)
      have RO2 := Lib.hid (RO.out.below hb2)
      clear hb2 RX RY RZ RO
      go_wp2_with fail
      refine HC1.out.mono ?_
      rintro e w3 ⟨rfl, hb3⟩
      have HB3 := Lib.hid (HB2.out.trans (hb3.mono HB2.out.size))
      have HC2 := Lib.hid (sum_any Ay xs.length cy (upTo (gN ws) xs.length) w3 (RY2.out.below hb3) (by omega))
      have RZ3 := Lib.hid (RZ2.out.below hb3)
      have RO3 := Lib.hid (RO2.out.below hb3)
      clear hb3
      go_wp2_with fail
      simp only [upTo_length]
      refine HC2.out.mono ?_
      rintro e w4 ⟨rfl, hb4⟩
      have HB4 := Lib.hid (HB3.out.trans (hb4.mono HB3.out.size))
      have HC3 := Lib.hid (sum_any Ao xs.length co (upTo (fun _ => 0) xs.length) w4 (RO3.out.below hb4) (by omega))
      have RZ4 := Lib.hid (RZ3.out.below hb4)
      have e1 := E1.out
      have e2 := E2.out
      generalize updN 0 xs = s1 at *
      generalize updN 0 (upTo (gN ws) xs.length) = s2 at *
      generalize updN 0 (upTo (fun _ => 0) xs.length) = s3 at *
      clear hb4
      go_wp2_with fail
      refine HC3.out.mono ?_
      rintro e w5 ⟨rfl, hb5⟩
      have HB5 := Lib.hid (HB4.out.trans (hb5.mono HB4.out.size))
      have HC4 := Lib.hid (sum_any Az xs.length cz (upTo (hN xs ws) xs.length) w5 (RZ4.out.below hb5) (by omega))
      generalize updN 0 (upTo (hN xs ws) xs.length) = s4 at *
      clear hb5
      go_wp2_with fail
      refine HC4.out.mono ?_
      rintro e w6 ⟨rfl, hb6⟩
      go_wp2_with fail
      go_ret
      exact ⟨by simp, HB5.out.trans (hb6.mono HB5.out.size)⟩
end Go.Proofs.Ytadnckkipppbcaa
