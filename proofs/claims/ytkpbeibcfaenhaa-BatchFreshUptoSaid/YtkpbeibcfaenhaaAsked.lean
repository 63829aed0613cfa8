/- ledgerlaw3.asked of Build; what a law on asked says. -/
import Derived.Test.YtkpbeibcfaenhaaGf
namespace Go.Proofs.Ytkpbeibcfaenhaa
open Go.RowKit
/-- asked of this kind answers true whenever its lists are two and two alike. -/
def AskedLaw (kind : Int) : Prop := ∀ (A1 A2 A3 A4 : Option Addr) (N M c1 c2 c3 c4 : Nat) (X Y : Nat → Chg) (w : World), ChsAt w A1 N X → ChsAt w A2 M Y → ChsAt w A3 N X → ChsAt w A4 M Y → N ≤ c1 → M ≤ c2 → N ≤ c3 → M ≤ c4 →
  (A1 = none → c1 = 0) → (A2 = none → c2 = 0) → c1 ≤ maxLen → c2 ≤ maxLen → N * 64 ≤ 140737488355328 → M * 64 ≤ 140737488355328 → (∀ k, k < N → (X k).val.length ≤ 140737488355328) → (∀ k, k < M → (Y k).val.length ≤ 140737488355328) →
  Calls Try.prog 82 #[.int .i64 kind, .slice A1 N c1, .slice A2 M c2, .slice A3 N c3, .slice A4 M c4] w fun e w' => e = .returned (.bool true) ∧ Below w.heap.size w w'
def outN (X : Nat → Chg) (N : Nat) : List Nat := if buildE X N = 0 then layN X N else []
theorem build_form {X : Nat → Chg} {N : Nat} {w w' : World} {e : Ending} (h : BuildPost X N w e w') : ∃ A C, e = .returned (.tuple #[.slice A (outN X N).length C, .int .i64 (buildE X N : Nat)]) ∧ RB w' A (outN X N).length (outN X N) ∧ (outN X N).length ≤ 9223372036854775807 ∧ Below w.heap.size w w' := by
  obtain ⟨v, he, hb, h1, h2⟩ := h
  by_cases h0 : buildE X N = 0
  · have ho := h1 h0
    obtain ⟨A, c, rfl, hr, _, _, hle⟩ := ho.form
    have hm := own_max ho
    unfold maxLen at hm
    rw [show outN X N = layN X N from if_pos h0]
    exact ⟨A, c, he, hr, by omega, hb⟩
  · rw [show outN X N = [] from if_neg h0]
    exact ⟨none, 0, by rw [he, h2 h0]; rfl, RB.nil _ _, by simp, hb⟩
set_option maxRecDepth 100000 in
set_option maxHeartbeats 1000000 in
theorem asked_build : AskedLaw 4 := by
  intro A1 A2 A3 A4 N M c1 c2 c3 c4 X Y w h1 h2 h3 h4 k1 k2 k3 k4 n1 n2 m1 m2 s1 s2 v1 v2
  have HB := Lib.hid (fun W (hW : Below w.heap.size w W) => build_any A1 N c1 X W (h1.below hW))
  have HC := Lib.hid (fun W (hW : Below w.heap.size w W) => refbuild_any A3 N c3 X W (h3.below hW) k3 s1 v1)
  clear h1 h2 h3 h4 v1 v2 n1 n2
  go_enter Try.func82, Try.ntmps82
  go_wp2_with fail
  refine (HB.out w (Below.refl _ _)).mono ?_
  intro e w1 hp
  obtain ⟨A5, c5, rfl, hr5, hl5, hb5⟩ := build_form hp
  have HB5 := Lib.hid hb5
  have HR5 := Lib.hid hr5
  clear hp hb5 hr5
  go_wp2_with fail
  refine (HC.out w1 HB5.out).mono ?_
  intro e w2 hp
  obtain ⟨A6, c6, rfl, hr6, hl6, hb6⟩ := build_form hp
  have HB6 := Lib.hid (HB5.out.trans (hb6.mono HB5.out.size))
  have HR6 := Lib.hid hr6
  have HR5' := Lib.hid (HR5.out.below hb6)
  clear hp hb6 hr6
  obtain ⟨z, hz⟩ : ∃ z : Int, z = ((buildE X N : Nat) : Int) := ⟨_, rfl⟩
  rw [← hz]
  have hq : (z == z) = true := by simp
  clear hz
  have HS := Lib.hid (sameBytes_true (c := c5) (d := c6) HR5'.out HR6.out hl5 rfl)
  generalize (outN X N).length = L at *
  go_wp2_with fail
  refine HS.out.mono ?_
  rintro e w3 ⟨rfl, q, hq3⟩
  have HB7 : Hid (Below w.heap.size w w3) := by show Below _ _ _; rw [hq3]; exact drewN_below HB6.out q
  clear hq3
  go_wp2_with fail
  go_ret
  exact ⟨rfl, HB7.out⟩
end Go.Proofs.Ytkpbeibcfaenhaa
