/- ledgerref2.Whole. -/
import Derived.Test.YtbjbpgbpefkbhaaDoorRefSeal
import Derived.BigQuiet
namespace Go.Proofs.YtbjbpgbpefkbhaaDoor
open Go.RowKit
theorem whole_by {xs : List Nat} {k : Nat} (h : xs.length = k + 4) : wholeN xs = true ↔ ∀ t, t < 4 → xs.getD (k + t) 0 = byN (updN 0 (xs.take k)) t := by
  have hs := updN_lt 0 (xs.take k)
  rw [wholeN_four h, decide_eq_true_eq]
  generalize updN 0 (xs.take k) = s at *
  have h3 : s / 16777216 < 256 := by omega
  have e0 : byN s 0 = s % 256 := by simp [byN]
  have e1 : byN s 1 = s / 256 % 256 := by simp [byN]
  have e2 : byN s 2 = s / 65536 % 256 := by simp [byN]
  have e3 : byN s 3 = s / 16777216 := by simp [byN]; omega
  constructor
  · rintro ⟨a, b, c, d⟩ t ht
    rcases (by omega : t = 0 ∨ t = 1 ∨ t = 2 ∨ t = 3) with rfl | rfl | rfl | rfl
    · rw [e0]; exact a
    · rw [e1]; exact b
    · rw [e2]; exact c
    · rw [e3]; omega
  · intro H
    refine ⟨e0 ▸ H 0 (by omega), e1 ▸ H 1 (by omega), e2 ▸ H 2 (by omega), ?_⟩
    have := H 3 (by omega)
    omega
set_option maxHeartbeats 800000 in
theorem refwhole_any (A : Option Addr) (n c : Nat) (xs : List Nat) (w : World) (hx : RB w A n xs) (hnc : n ≤ c) (hn : 8 * n + 32 ≤ 140737488355328) (hd : DivT w) :
    Calls Tryd.prog 53 #[.slice A n c] w fun e w' => e = .returned (.bool (wholeN xs)) ∧ Below w.heap.size w w' := by
  have HX := Lib.hid hx
  by_cases h4 : n < 4
  · have HW := Lib.hid (wholeN_short (xs := xs) (by rw [hx.1]; exact h4))
    clear hx hd
    go_enter Tryd.func53, Tryd.ntmps53
    go_wp2
    go_ret
    exact ⟨by rw [HW.out]; rfl, Below.refl _ _⟩
  · obtain ⟨k, rfl⟩ : ∃ k, n = k + 4 := ⟨n - 4, by omega⟩
    have HF := Lib.hid (refsum_any A k c (xs.take k) w (hx.take (by omega)) (by omega) hd)
    have HW := Lib.hid (whole_by hx.1)
    clear hx hd
    generalize updN 0 (xs.take k) = s at *
    go_enter Tryd.func53, Tryd.ntmps53
    go_wp2_with fail
    refine HF.out.mono ?_
    rintro e w1 ⟨rfl, hbel⟩
    have HB1 := Lib.hid hbel
    clear hbel HF
    go_wp2
    go_loopw [5] (fun i wr => ∃ j : Nat, j ≤ 4 ∧ i = .int .i64 j ∧ Hid (∀ t, t < j → xs.getD (k + t) 0 = byN s t) ∧ Hid (Below w.heap.size w wr)) (fun i _ => 4 - (intOf i).toNat)
    case atStart => exact ⟨0, by omega, rfl, (fun t ht => by omega), HB1.out⟩
    case round =>
      clear HB1
      obtain ⟨j, hj, rfl, HE, HB⟩ := hrel
      by_cases hjt : j < 4
      · obtain ⟨ad, rfl, hb, hcell⟩ := HX.out.at_ (show k + j < k + 4 by omega)
        have hc := cell_later hb HB.out hcell
        have hby := byN_int s j
        have hbl := byN_lt s j
        clear hcell
        by_cases he : xs.getD (k + j) 0 = byN s j
        · have HE2 : Hid (∀ t, t < j + 1 → xs.getD (k + t) 0 = byN s t) := fun t ht => by
            rcases (by omega : t < j ∨ t = j) with h | rfl
            · exact HE.out t h
            · exact he
          clear HE
          have ht : (((xs.getD (k + j) 0 : Nat) : Int) != ((byN s j : Nat) : Int)) = false := by rw [he]; simp
          clear he
          generalize byN s j = b at *
          generalize xs.getD (k + j) 0 = x at *
          go_wp2
          go_roundw
          case rel => exact ⟨j + 1, by omega, by go_num, HE2.out, HB.out⟩
          case measure => simp [intOf]; omega
        · have HN := Lib.hid (Bool.eq_false_iff.2 fun h => he (HW.out.1 h j hjt))
          have ht : (((xs.getD (k + j) 0 : Nat) : Int) != ((byN s j : Nat) : Int)) = true := by rw [bne_iff_ne]; omega
          clear he HE
          generalize byN s j = b at *
          generalize xs.getD (k + j) 0 = x at *
          go_wp2
          go_ret
          exact ⟨by rw [HN.out]; rfl, HB.out⟩
      · have HN := Lib.hid (HW.out.2 fun t ht => HE.out t (by omega))
        clear HE
        go_wp2
        go_ret
        exact ⟨by rw [HN.out]; rfl, HB.out⟩
end Go.Proofs.YtbjbpgbpefkbhaaDoor
