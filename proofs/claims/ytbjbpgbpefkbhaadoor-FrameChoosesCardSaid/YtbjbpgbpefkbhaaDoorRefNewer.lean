/- ledgerref5.newer, Empty. -/
import Derived.Test.YtbjbpgbpefkbhaaDoorRefUnSuper
import Derived.Test.YtbjbpgbpefkbhaaDoorChoice
namespace Go.Proofs.YtbjbpgbpefkbhaaDoor
open Go.RowKit
set_option maxHeartbeats 1000000 in
theorem refNewer_any (a b : Sup) (w : World) (ha : a.Ok) (hb : b.Ok) :
    Calls Tryd.prog 58 #[supV a, supV b] w fun e w' => Chosen (newerN a b) e ∧ Below w.heap.size w w' := by
  obtain ⟨a1, a2, a3, a4, a5⟩ := a
  obtain ⟨b1, b2, b3, b4, b5⟩ := b
  have h1 : 0 ≤ a2 ∧ a2 ≤ 1099511627776 := ha.2.1
  have h2 : 0 ≤ b2 ∧ b2 ≤ 1099511627776 := hb.2.1
  have t1 := tmod2 h1.1
  have t2 := tmod2 h2.1
  unfold supV
  dsimp only
  go_enter Tryd.func58, Tryd.ntmps58
  by_cases q1 : a2 % 2 = 0
  · have u1 : (a2 % 2 != 0) = false := by rw [q1]; rfl
    by_cases q2 : b2 % 2 = 1
    · have u2 : (b2 % 2 != 1) = false := by rw [q2]; rfl
      by_cases q3 : a1 = b1
      · subst q3
        by_cases q4 : a5 = b5
        · subst q4
          go_wp2_with fail
          all_goals
            (try simp only [Exit.inBlock, Exit.then])
            first
              | refine sup_ret rfl rfl (blk3 _ _ _ _ _) rfl rfl ⟨newer_bad ?_, ?_⟩
              | refine sup_ret rfl rfl (blk3 _ _ _ _ _) rfl rfl ⟨newer_good ?_, ?_⟩
            · unfold newerN
              dsimp only
              (repeat' split) <;> first
                | rfl
                | (exfalso; omega)
                | (rename_i hh; rw [hh.2.2.2.2.1])
            · (repeat' (first | exact Below.refl _ _ | refine Below.drew ?_ | refine Below.alloc ?_ (by simp <;> omega) _))
        · have u4 : (a5 != b5) = true := by rw [bne_iff_ne]; exact q4
          go_wp2_with fail
          all_goals
            (try simp only [Exit.inBlock, Exit.then])
            first
              | refine sup_ret rfl rfl (blk3 _ _ _ _ _) rfl rfl ⟨newer_bad ?_, ?_⟩
              | refine sup_ret rfl rfl (blk3 _ _ _ _ _) rfl rfl ⟨newer_good ?_, ?_⟩
            · unfold newerN
              dsimp only
              (repeat' split) <;> first
                | rfl
                | (exfalso; omega)
                | (rename_i hh; rw [hh.2.2.2.2.1])
            · (repeat' (first | exact Below.refl _ _ | refine Below.drew ?_ | refine Below.alloc ?_ (by simp <;> omega) _))
      · have u3 : (a1 != b1) = true := by rw [bne_iff_ne]; exact q3
        go_wp2_with fail
        all_goals
          (try simp only [Exit.inBlock, Exit.then])
          first
            | refine sup_ret rfl rfl (blk3 _ _ _ _ _) rfl rfl ⟨newer_bad ?_, ?_⟩
            | refine sup_ret rfl rfl (blk3 _ _ _ _ _) rfl rfl ⟨newer_good ?_, ?_⟩
          · unfold newerN
            dsimp only
            (repeat' split) <;> first
              | rfl
              | (exfalso; omega)
              | (simp only [Prod.mk.injEq, Sup.mk.injEq, and_true]; omega)
          · (repeat' (first | exact Below.refl _ _ | refine Below.drew ?_ | refine Below.alloc ?_ (by simp <;> omega) _))
    · have u2 : (b2 % 2 != 1) = true := by rw [bne_iff_ne]; exact q2
      go_wp2_with fail
      all_goals
        (try simp only [Exit.inBlock, Exit.then])
        first
          | refine sup_ret rfl rfl (blk3 _ _ _ _ _) rfl rfl ⟨newer_bad ?_, ?_⟩
          | refine sup_ret rfl rfl (blk3 _ _ _ _ _) rfl rfl ⟨newer_good ?_, ?_⟩
        · unfold newerN
          dsimp only
          (repeat' split) <;> first
            | rfl
            | (exfalso; omega)
            | (simp only [Prod.mk.injEq, Sup.mk.injEq, and_true]; omega)
        · (repeat' (first | exact Below.refl _ _ | refine Below.drew ?_ | refine Below.alloc ?_ (by simp <;> omega) _))
  · have u1 : (a2 % 2 != 0) = true := by rw [bne_iff_ne]; exact q1
    go_wp2_with fail
    all_goals
      (try simp only [Exit.inBlock, Exit.then])
      first
        | refine sup_ret rfl rfl (blk3 _ _ _ _ _) rfl rfl ⟨newer_bad ?_, ?_⟩
        | refine sup_ret rfl rfl (blk3 _ _ _ _ _) rfl rfl ⟨newer_good ?_, ?_⟩
      · unfold newerN
        dsimp only
        (repeat' split) <;> first
          | rfl
          | (exfalso; omega)
          | (simp only [Prod.mk.injEq, Sup.mk.injEq, and_true]; omega)
      · (repeat' (first | exact Below.refl _ _ | refine Below.drew ?_ | refine Below.alloc ?_ (by simp <;> omega) _))
theorem refEmpty_any (A : Option Addr) (n c : Nat) (xs : List Nat) (w : World) (hx : RB w A n xs) (hn : n ≤ 140737488351232) :
    Calls Tryd.prog 59 #[.slice A n c] w fun e w' => e = .returned (.bool (emptyN xs)) ∧ w' = w := by
  have HX := Lib.hid hx
  have hlen := hx.1
  clear hx
  by_cases hl : n = 256
  · subst hl
    have HE : Hid (emptyN xs = allZ ((xs.drop 0).take 64)) := by
      show emptyN xs = allZ ((xs.drop 0).take 64)
      unfold emptyN
      cases hz : allZ ((xs.drop 0).take 64)
      · exact decide_eq_false fun h => by
          have := cutZ_bool.2 h.2
          rw [hz] at this
          cases this
      · exact decide_eq_true ⟨hlen, cutZ_bool.1 hz⟩
    have HZ := Lib.hid (zeros_any A 256 c 0 64 xs w HX.out (by omega) (by omega) (by omega))
    clear hlen
    go_enter Tryd.func59, Tryd.ntmps59
    go_wp2_with fail
    refine HZ.out.mono ?_
    rintro e w1 ⟨rfl, hw1⟩
    rw [hw1]
    clear hw1
    go_wp2_with fail
    go_ret
    exact ⟨by rw [HE.out]; rfl, rfl⟩
  · have HR : Hid (emptyN xs = false) := decide_eq_false (by omega)
    have hne : ((n : Int) == 256) = false := by rw [beq_eq_false_iff_ne]; omega
    clear hl hlen
    go_enter Tryd.func59, Tryd.ntmps59
    go_wp2_with fail
    go_ret
    exact ⟨by rw [HR.out]; rfl, rfl⟩
end Go.Proofs.YtbjbpgbpefkbhaaDoor
