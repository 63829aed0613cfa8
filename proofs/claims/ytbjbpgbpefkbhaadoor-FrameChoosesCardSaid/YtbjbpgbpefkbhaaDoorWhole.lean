/- crc.Whole: does a text end with the sum of what stands ahead? -/
import Derived.Test.YtbjbpgbpefkbhaaDoorSum
import Derived.BigQuiet
namespace Go.Proofs.YtbjbpgbpefkbhaaDoor
open Go.RowKit
set_option maxHeartbeats 400000 in
theorem whole_any (A : Option Addr) (n c : Nat) (xs : List Nat) (w : World) (hx : RB w A n xs) (hnc : n ≤ c) (hn : n ≤ 281474976710656) :
    Calls Tryd.prog 50 #[.slice A n c] w fun e w' => e = .returned (.bool (wholeN xs)) ∧ Below w.heap.size w w' := by
  have HX := Lib.hid hx
  by_cases h4 : n < 4
  · have HW := Lib.hid (wholeN_short (xs := xs) (by rw [hx.1]; exact h4))
    clear hx
    go_enter Tryd.func50, Tryd.ntmps50
    go_wp2
    go_ret
    exact ⟨by rw [HW.out]; rfl, Below.refl _ _⟩
  · obtain ⟨k, rfl⟩ : ∃ k, n = k + 4 := ⟨n - 4, by omega⟩
    have HF := Lib.hid (sum_any A k c (xs.take k) w (hx.take (by omega)) (by omega))
    have HW := Lib.hid (wholeN_four hx.1)
    obtain ⟨ad, rfl, hb, hc0⟩ := hx.at_ (show k < k + 4 by omega)
    obtain ⟨_, e1, _, hc1⟩ := hx.at_ (show k + 1 < k + 4 by omega)
    obtain ⟨_, e2, _, hc2⟩ := hx.at_ (show k + 2 < k + 4 by omega)
    obtain ⟨_, e3, _, hc3⟩ := hx.at_ (show k + 3 < k + 4 by omega)
    injection e1 with e1; subst e1
    injection e2 with e2; subst e2
    injection e3 with e3; subst e3
    have hs := updN_lt 0 (xs.take k)
    clear hx
    generalize updN 0 (xs.take k) = s at *
    generalize xs.getD k 0 = b0 at *
    generalize xs.getD (k + 1) 0 = b1 at *
    generalize xs.getD (k + 2) 0 = b2 at *
    generalize xs.getD (k + 3) 0 = b3 at *
    go_enter Tryd.func50, Tryd.ntmps50
    go_wp2_with fail
    refine HF.out.mono ?_
    rintro e w1 ⟨rfl, hbel⟩
    replace hc0 := cell_later hb hbel hc0
    replace hc1 := cell_add (by omega) (cell_later hb hbel hc1)
    replace hc2 := cell_add (by omega) (cell_later hb hbel hc2)
    replace hc3 := cell_add (by omega) (cell_later hb hbel hc3)
    have HB := Lib.hid hbel
    clear hbel
    by_cases t0 : b0 = s % 256
    · have u0 : ((b0 : Int) == (s : Int) % 256) = true := by rw [beq_iff_eq]; omega
      by_cases t1 : b1 = s / 256 % 256
      · have u1 : ((b1 : Int) == (s : Int) / 256 % 256) = true := by rw [beq_iff_eq]; omega
        by_cases t2 : b2 = s / 65536 % 256
        · have u2 : ((b2 : Int) == (s : Int) / 65536 % 256) = true := by rw [beq_iff_eq]; omega
          by_cases t3 : b3 = s / 16777216 % 256
          · have u3 : ((b3 : Int) == (s : Int) / 16777216) = true := by rw [beq_iff_eq]; omega
            have HE := Lib.hid (decide_eq_true (And.intro t0 (And.intro t1 (And.intro t2 t3))))
            clear t0 t1 t2 t3
            go_wp2
            go_ret
            exact ⟨by rw [HW.out, HE.out]; rfl, HB.out⟩
          · have u3 : ((b3 : Int) == (s : Int) / 16777216) = false := by rw [beq_eq_false_iff_ne]; omega
            have HE := Lib.hid (decide_eq_false (p := b0 = s % 256 ∧ b1 = s / 256 % 256 ∧ b2 = s / 65536 % 256 ∧ b3 = s / 16777216 % 256) fun h => t3 h.2.2.2)
            clear t0 t1 t2 t3
            go_wp2
            go_ret
            exact ⟨by rw [HW.out, HE.out]; rfl, HB.out⟩
        · have u2 : ((b2 : Int) == (s : Int) / 65536 % 256) = false := by rw [beq_eq_false_iff_ne]; omega
          have HE := Lib.hid (decide_eq_false (p := b0 = s % 256 ∧ b1 = s / 256 % 256 ∧ b2 = s / 65536 % 256 ∧ b3 = s / 16777216 % 256) fun h => t2 h.2.2.1)
          clear t0 t1 t2
          go_wp2
          go_ret
          exact ⟨by rw [HW.out, HE.out]; rfl, HB.out⟩
      · have u1 : ((b1 : Int) == (s : Int) / 256 % 256) = false := by rw [beq_eq_false_iff_ne]; omega
        have HE := Lib.hid (decide_eq_false (p := b0 = s % 256 ∧ b1 = s / 256 % 256 ∧ b2 = s / 65536 % 256 ∧ b3 = s / 16777216 % 256) fun h => t1 h.2.1)
        clear t0 t1
        go_wp2
        go_ret
        exact ⟨by rw [HW.out, HE.out]; rfl, HB.out⟩
    · have u0 : ((b0 : Int) == (s : Int) % 256) = false := by rw [beq_eq_false_iff_ne]; omega
      have HE := Lib.hid (decide_eq_false (p := b0 = s % 256 ∧ b1 = s / 256 % 256 ∧ b2 = s / 65536 % 256 ∧ b3 = s / 16777216 % 256) fun h => t0 h.1)
      clear t0
      go_wp2
      go_ret
      exact ⟨by rw [HW.out, HE.out]; rfl, HB.out⟩
theorem whole_true {A : Option Addr} {n c : Nat} {xs : List Nat} {w : World} (hx : RB w A n xs) (hnc : n ≤ c) (hn : n ≤ 281474976710656) (h : wholeN xs = true) :
    Calls Tryd.prog 50 #[.slice A n c] w fun e w' => e = .returned (.bool true) ∧ Below w.heap.size w w' := by
  have := whole_any A n c xs w hx hnc hn
  rwa [h] at this
theorem whole_false {A : Option Addr} {n c : Nat} {xs : List Nat} {w : World} (hx : RB w A n xs) (hnc : n ≤ c) (hn : n ≤ 281474976710656) (h : wholeN xs = false) :
    Calls Tryd.prog 50 #[.slice A n c] w fun e w' => e = .returned (.bool false) ∧ Below w.heap.size w w' := by
  have := whole_any A n c xs w hx hnc hn
  rwa [h] at this
end Go.Proofs.YtbjbpgbpefkbhaaDoor
