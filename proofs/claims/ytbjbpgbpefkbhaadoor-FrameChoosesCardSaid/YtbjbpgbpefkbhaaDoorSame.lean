/- ledgerlaw5.same: are two texts one? -/
import Derived.Test.YtbjbpgbpefkbhaaDoorChecked
import Derived.Test.YtbjbpgbpefkbhaaDoorLib
import Derived.Test.YtbjbpgbpefkbhaaDoorLib2
import Derived.Deep.QuietTactic
import Derived.BigQuiet
namespace Go.Proofs.YtbjbpgbpefkbhaaDoor
open Go.RowKit
theorem take_eq_succ {xs ys : List Nat} {k : Nat} (hx : k < xs.length) (hy : k < ys.length) (h : xs.take k = ys.take k) (e : xs.getD k 0 = ys.getD k 0) : xs.take (k + 1) = ys.take (k + 1) := by
  rw [take_succ_getD hx, take_succ_getD hy, h, e]
theorem sameB_len {xs ys : List Nat} (h : ¬ xs.length = ys.length) : sameB xs ys = false := by
  unfold sameB
  exact decide_eq_false fun e => h (by rw [e])
theorem sameB_at {xs ys : List Nat} {k : Nat} (h : ¬ xs.getD k 0 = ys.getD k 0) : sameB xs ys = false := by
  unfold sameB
  exact decide_eq_false fun e => h (by rw [e])
theorem sameB_end {xs ys : List Nat} {k : Nat} (hx : xs.length ≤ k) (hy : ys.length ≤ k) (h : xs.take k = ys.take k) : sameB xs ys = true := by
  unfold sameB
  rw [List.take_of_length_le hx, List.take_of_length_le hy] at h
  exact decide_eq_true h

set_option maxHeartbeats 400000 in
theorem same_any (A B : Option Addr) (n c m d : Nat) (xs ys : List Nat) (w : World) (hx : RB w A n xs) (hy : RB w B m ys) (hn : n ≤ 281474976710656) :
    Calls Tryd.prog 11 #[.slice A n c, .slice B m d] w fun e w' => e = .returned (.bool (sameB xs ys)) ∧ ∃ q, w' = w.drewN q := by
  have HX := Lib.hid hx
  have HY := Lib.hid hy
  clear hx hy
  by_cases hnm : n = m
  · subst hnm
    go_enter Tryd.func11, Tryd.ntmps11
    go_wp2
    go_loopw [5] (fun i wr => ∃ k q : Nat, k ≤ n ∧ i = .int .i64 k ∧ Hid (xs.take k = ys.take k) ∧ wr = w.drewN q) (fun i _ => n - (intOf i).toNat)
    case atStart => exact ⟨0, 0, by omega, rfl, rfl, rfl⟩
    case round =>
      obtain ⟨k, q, hk, rfl, HE, rfl⟩ := hrel
      have hlx := HX.out.1
      have hly := HY.out.1
      by_cases hlt : k < n
      · obtain ⟨ad, rfl, hb, hc1⟩ := HX.out.at_ hlt
        obtain ⟨bd, rfl, hb', hc2⟩ := HY.out.at_ hlt
        by_cases he : xs.getD k 0 = ys.getD k 0
        · have HE2 := Lib.hid (take_eq_succ (by omega) (by omega) HE.out he)
          clear hlx hly
          have ht : (((xs.getD k 0 : Nat) : Int) != ((ys.getD k 0 : Nat) : Int)) = false := by rw [he]; simp
          clear he
          generalize xs.getD k 0 = x at *
          generalize ys.getD k 0 = y at *
          go_wp2
          go_quiet (fail)
          go_wp2
          go_roundw
          case rel => exact ⟨k + 1, _, by omega, by go_num, HE2, rfl⟩
          case measure => simp [intOf]; omega
        · have HE2 := Lib.hid (sameB_at he)
          clear hlx hly
          have ht : (((xs.getD k 0 : Nat) : Int) != ((ys.getD k 0 : Nat) : Int)) = true := by rw [bne_iff_ne]; omega
          clear he
          generalize xs.getD k 0 = x at *
          generalize ys.getD k 0 = y at *
          go_wp2
          go_quiet (fail)
          go_wp2
          go_ret
          exact ⟨by rw [HE2.out]; rfl, _, by rw [World.drewN_drewN]⟩
      · have HE2 := Lib.hid (sameB_end (by omega) (by omega) HE.out)
        clear hlx hly
        go_wp2
        go_ret
        exact ⟨by rw [HE2.out]; rfl, _, rfl⟩
  · have HE := Lib.hid (sameB_len (xs := xs) (ys := ys) (by rw [HX.out.1, HY.out.1]; exact hnm))
    have ht : ((n : Int) != (m : Int)) = true := by rw [bne_iff_ne]; omega
    clear hnm
    go_enter Tryd.func11, Tryd.ntmps11
    go_wp2
    go_ret
    exact ⟨by rw [HE.out]; rfl, 0, rfl⟩
theorem same_true {A B : Option Addr} {n c m d : Nat} {xs ys : List Nat} {w : World} (hx : RB w A n xs) (hy : RB w B m ys) (hn : n ≤ 281474976710656) (h : xs = ys) :
    Calls Tryd.prog 11 #[.slice A n c, .slice B m d] w fun e w' => e = .returned (.bool true) ∧ ∃ q, w' = w.drewN q := by
  have := same_any A B n c m d xs ys w hx hy hn
  rwa [sameB_eq h] at this
theorem same_false {A B : Option Addr} {n c m d : Nat} {xs ys : List Nat} {w : World} (hx : RB w A n xs) (hy : RB w B m ys) (hn : n ≤ 281474976710656) (h : ¬ xs = ys) :
    Calls Tryd.prog 11 #[.slice A n c, .slice B m d] w fun e w' => e = .returned (.bool false) ∧ ∃ q, w' = w.drewN q := by
  have := same_any A B n c m d xs ys w hx hy hn
  rwa [sameB_ne h] at this
end Go.Proofs.YtbjbpgbpefkbhaaDoor
