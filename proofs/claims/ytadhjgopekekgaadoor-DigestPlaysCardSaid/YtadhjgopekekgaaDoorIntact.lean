/- ledgerlaw1.intact. -/
import Derived.Test.YtadhjgopekekgaaDoorRoomy1
namespace Go.Proofs.YtadhjgopekekgaaDoor
open Go.RowKit
set_option maxRecDepth 100000 in
set_option maxHeartbeats 2000000 in
theorem intact_true (g : Nat) (B : Option Addr) (n d : Nat) (ys : List Nat) (w : World) (hg : BlkB w g 5 (ys ++ m80)) (hy : RB w B n ys) (hn : n + 80 ≤ 140737488355328) :
    Calls Tryd.prog 12 #[.slice (some ⟨g, 0, none⟩) (n + 80) (n + 80), .slice B n d] w fun e w' => e = .returned (.bool true) ∧ ∃ q, w' = w.drewN q := by
  have HG := Lib.hid hg
  have HY := Lib.hid hy
  have hly := hy.1
  have HLY := Lib.hid hly
  have HLL : Hid ((ys ++ m80).length = n + 80) := by
    show _ = _
    rw [List.length_append, m80_length, hly]
  clear hg hy hly
  go_enter Tryd.func12, Tryd.ntmps12
  go_wp2_with fail
  go_loopw [5] (fun i wr => ∃ k q : Nat, k ≤ n + 80 ∧ i = .int .i64 k ∧ wr = w.drewN q) (fun i _ => n + 80 - (intOf i).toNat)
  case atStart => exact ⟨0, 0, by omega, rfl, rfl⟩
  case round =>
    obtain ⟨k, q, hk, rfl, rfl⟩ := hrel
    by_cases hlt : k < n + 80
    · have cl : (w.drewN q).cell? ⟨g, k, none⟩ = some (.int .u8 ((ys ++ m80).getD k 0 : Nat)) := HG.out.cell (i := k) (by rw [HLL.out]; exact hlt)
      have i0 : (k : Int) < (n : Int) + 80 := by omega
      have i1 : (0 : Int) ≤ (k : Int) := by omega
      by_cases hkn : k < n
      · obtain ⟨ad, rfl, _, hc⟩ := HY.out.at_ hkn
        have cy : (w.drewN q).cell? (ad.add k) = some (.int .u8 (ys.getD k 0 : Nat)) := hc
        have e : (ys ++ m80).getD k 0 = ys.getD k 0 := by
          simp only [List.getD]
          rw [List.getElem?_append_left (by rw [HLY.out]; exact hkn)]
        rw [e] at cl
        clear e hc
        generalize ys.getD k 0 = y at *
        have dk : decide ((k : Int) < (n : Int)) = true := by simpa using hkn
        have dk2 : (k : Int) < (n : Int) := by omega
        have dk3 : decide ((n : Int) ≤ (k : Int)) = false := by simpa using hkn
        have dk4 : decide (n ≤ k) = false := by simpa using hkn
        obtain ⟨w2, hw2⟩ : ∃ w2, w.drewN q = w2 := ⟨_, rfl⟩
        rw [hw2] at cl cy
        rw [hw2]
        have HW2 := Lib.hid hw2
        clear hw2
        go_wp2_with fail
        go_quiet (fail)
        go_wp2_with fail
        go_roundw
        case rel => exact ⟨k + 1, q + nq, by omega, by go_num, by rw [← HW2.out, World.drewN_drewN]⟩
        case measure => simp [intOf]; omega
      · have e : (ys ++ m80).getD k 0 = 165 := by
          simp only [List.getD]
          rw [List.getElem?_append_right (by rw [HLY.out]; omega), HLY.out, m80, List.getElem?_replicate, if_pos (by omega)]
          rfl
        rw [e] at cl
        clear e
        have dk1 : decide ((k : Int) < (n : Int)) = false := by simpa using hkn
        have dk2 : decide (k < n) = false := by simpa using hkn
        have dk3 : decide ((n : Int) ≤ (k : Int)) = true := by
          simp
          omega
        have dk4 : decide (n ≤ k) = true := by
          simp
          omega
        obtain ⟨w2, hw2⟩ : ∃ w2, w.drewN q = w2 := ⟨_, rfl⟩
        rw [hw2] at cl
        rw [hw2]
        have HW2 := Lib.hid hw2
        clear hw2
        go_wp2_with fail
        go_quiet (fail)
        go_wp2_with fail
        go_roundw
        case rel => exact ⟨k + 1, q + nq, by omega, by go_num, by rw [← HW2.out, World.drewN_drewN]⟩
        case measure => simp [intOf]; omega
    · go_wp2_with fail
      go_ret
      exact ⟨rfl, q, rfl⟩
end Go.Proofs.YtadhjgopekekgaaDoor
