/- Proved: ledgerlaw3.BatchApplies returns true at every input, and leaves what it was handed as it was. Conditions: none but the given row's own. -/
import Derived.Test.YtkpbeibcfaenhaaRows
import Derived.WalkKit
import Derived.ProofKit
import Derived.OpenShut
import Derived.ShutString
import Derived.ChangeOld
import Derived.Below
import Derived.SizedLaws
import Derived.Test.YtkpbeibcfaenhaaOpenChs
import Derived.Test.YtkpbeibcfaenhaaLawApplies
namespace Go.Proofs.Ytkpbeibcfaenhaa.batchApplies
open Go.ChangeShapes Go.WideShapes Go.ChangeAt Go.RowKit
open Go.ChangeMaps (open_string shut_string)
set_option linter.unusedVariables false

theorem own : ownKnob Try.prog.godebug = none := by kernel_rfl
theorem laidOut : laidOutB Try.prog = true := by kernel_rfl

theorem walk (a0 : Option Addr) (len0 cap0 : Nat) (z0 : Nat → Chg) (a1 : Option Addr) (len1 cap1 : Nat) (z1 : Nat → Chg) (a2 : Option Addr) (len2 cap2 : Nat) (z2 : Nat → Chg) (w : World) (w0 : ChsAt w a0 len0 z0) (s0 : len0 * 64 ≤ 140737488355328 ∧ ∀ k, k < len0 → (z0 k).val.length ≤ 140737488355328) (w1 : ChsAt w a1 len1 z1) (s1 : len1 * 64 ≤ 140737488355328 ∧ ∀ k, k < len1 → (z1 k).val.length ≤ 140737488355328) (w2 : ChsAt w a2 len2 z2) (s2 : len2 * 64 ≤ 140737488355328 ∧ ∀ k, k < len2 → (z2 k).val.length ≤ 140737488355328) :
    Calls Try.prog 7 #[.slice a0 len0 cap0, .slice a1 len1 cap1, .slice a2 len2 cap2] w fun e w' => e = .returned (.bool true) ∧ Below w.heap.size w w' := by
  exact applies_walk a0 len0 cap0 z0 a1 len1 cap1 z1 a2 len2 cap2 z2 w w0 w1 w2 s1.2 s2.2

set_option maxRecDepth 100000 in
theorem lifted (os : Os) (started : os.Started) (H : Type) (enc : TypeId × Value → H) :
    ReturnsInHanded {} Try.checked os 7 .any (Rows.batchAppliesSpec.pre6 enc Try.prog Try.f7 Rows.batchAppliesRow.domain false) (Rows.batchAppliesSpec.post enc Try.prog Try.f7 false true false false) := by
  refine returnsInHanded_of_change_sized (C := Try.checked) own started (by kernel_rfl) Try.func7
    (ChangeSpec.witness6 (enc := enc) (C := Try.checked) false ⟨#[], #[.slice none 0 0, .slice none 0 0, .slice none 0 0], []⟩ 8 (by kernel_rfl) (by kernel_rfl) (by kernel_rfl) (by kernel_rfl)) ?_
  intro W base args ds gs before hval0 hW hcnd hsz0 _
  have hval : ∀ (j : Nat) t v, Try.f7.params[j]? = some t → args[j]? = some v → Value.okWide Try.prog W .any base t v := hval0
  have hW' := hW
  obtain ⟨p, q, hA0, hV, rfl, hfz, hnd⟩ := hW
  have hA : DataW.TrodAll enc Try.prog W 0 (fun _ => true) true Try.f7.params.toList args.toList ds p := hA0
  have hsz : (DataW.weightsEach Try.prog (Try.f7.params.toList ++ Rows.batchAppliesSpec.plain.varTypes Try.prog) (ds ++ gs)).all (· ≤ reachBytes) = true := hsz0
  rw [Try.params7] at hA hval hsz
  obtain ⟨v0, vs0, d0, ds0, p0, q0, hargs, rfl, rfl, h0, r0⟩ := trodAll_cons hA
  obtain ⟨v1, vs1, d1, ds1, p1, q1, rfl, rfl, rfl, h1, r1⟩ := trodAll_cons r0
  obtain ⟨v2, vs2, d2, ds2, p2, q2, rfl, rfl, rfl, h2, r2⟩ := trodAll_cons r1
  obtain ⟨rfl, rfl, rfl⟩ := trodAll_nil r2
  obtain rfl : args = #[v0, v1, v2] := by cases args; simp_all
  obtain ⟨rfl, rfl⟩ := trodVars_none hV
  obtain ⟨a0, len0, cap0, rfl⟩ := okWide_slice Try.underlying30 (hval 0 30 v0 rfl rfl)
  have k0 := h0
  have lt0 : ∀ x ∈ p0, x.block < W.heap.size := by obtain ⟨m, hm⟩ := k0; exact DataW.trod_lt m _ _ _ hm
  obtain ⟨z0, w0, s0⟩ : ∃ X, ChsAt W a0 len0 X ∧ (len0 * 64 ≤ 140737488355328 ∧ ∀ k, k < len0 → (X k).val.length ≤ 140737488355328) := by
    obtain ⟨fuel, hf⟩ := h0
    obtain ⟨A, N, C, X, hcs, h1, h2, h3, h4, h5⟩ := chs_open hf
    simp [Value.cells] at hcs
    obtain ⟨rfl, rfl, rfl⟩ := hcs
    have hM := h5 reachBytes (fun y hy => by simpa using List.all_eq_true.1 hsz y (DataW.weights_mem_each (j := 0) (t := 30) rfl rfl y hy))
    rw [show Try.prog.bytesOf 45 = 64 by kernel_rfl, show Try.prog.bytesOf 5 = 1 by kernel_rfl] at hM
    have hrb : reachBytes ≤ 140737488355328 := by decide
    exact ⟨X, h1, by omega, fun k hk => by have := hM.2 k hk; omega⟩
  obtain ⟨a1, len1, cap1, rfl⟩ := okWide_slice Try.underlying30 (hval 1 30 v1 rfl rfl)
  have k1 := h1
  have lt1 : ∀ x ∈ p1, x.block < W.heap.size := by obtain ⟨m, hm⟩ := k1; exact DataW.trod_lt m _ _ _ hm
  obtain ⟨z1, w1, s1⟩ : ∃ X, ChsAt W a1 len1 X ∧ (len1 * 64 ≤ 140737488355328 ∧ ∀ k, k < len1 → (X k).val.length ≤ 140737488355328) := by
    obtain ⟨fuel, hf⟩ := h1
    obtain ⟨A, N, C, X, hcs, h1, h2, h3, h4, h5⟩ := chs_open hf
    simp [Value.cells] at hcs
    obtain ⟨rfl, rfl, rfl⟩ := hcs
    have hM := h5 reachBytes (fun y hy => by simpa using List.all_eq_true.1 hsz y (DataW.weights_mem_each (j := 1) (t := 30) rfl rfl y hy))
    rw [show Try.prog.bytesOf 45 = 64 by kernel_rfl, show Try.prog.bytesOf 5 = 1 by kernel_rfl] at hM
    have hrb : reachBytes ≤ 140737488355328 := by decide
    exact ⟨X, h1, by omega, fun k hk => by have := hM.2 k hk; omega⟩
  obtain ⟨a2, len2, cap2, rfl⟩ := okWide_slice Try.underlying30 (hval 2 30 v2 rfl rfl)
  have k2 := h2
  have lt2 : ∀ x ∈ p2, x.block < W.heap.size := by obtain ⟨m, hm⟩ := k2; exact DataW.trod_lt m _ _ _ hm
  obtain ⟨z2, w2, s2⟩ : ∃ X, ChsAt W a2 len2 X ∧ (len2 * 64 ≤ 140737488355328 ∧ ∀ k, k < len2 → (X k).val.length ≤ 140737488355328) := by
    obtain ⟨fuel, hf⟩ := h2
    obtain ⟨A, N, C, X, hcs, h1, h2, h3, h4, h5⟩ := chs_open hf
    simp [Value.cells] at hcs
    obtain ⟨rfl, rfl, rfl⟩ := hcs
    have hM := h5 reachBytes (fun y hy => by simpa using List.all_eq_true.1 hsz y (DataW.weights_mem_each (j := 2) (t := 30) rfl rfl y hy))
    rw [show Try.prog.bytesOf 45 = 64 by kernel_rfl, show Try.prog.bytesOf 5 = 1 by kernel_rfl] at hM
    have hrb : reachBytes ≤ 140737488355328 := by decide
    exact ⟨X, h1, by omega, fun k hk => by have := hM.2 k hk; omega⟩
  clear hA0 hval0
  refine (walk a0 len0 cap0 z0 a1 len1 cap1 z1 a2 len2 cap2 z2 W w0 s0 w1 s1 w2 s2).mono fun e W' ⟨he, bel⟩ => ?_
  subst he
  exact ⟨_, rfl, _, _, _, [], _, [], hW', trodAll_mk1 (shut_bool Try.underlying4 _), (trodAll_cons_mk (Below.trod laidOut (by kernel_rfl) (of_decide_eq_true (by kernel_rfl)) k0 bel lt0) (trodAll_cons_mk (Below.trod laidOut (by kernel_rfl) (of_decide_eq_true (by kernel_rfl)) k1 bel lt1) (trodAll_cons_mk (Below.trod laidOut (by kernel_rfl) (of_decide_eq_true (by kernel_rfl)) k2 bel lt2) trodAll_mk0))), rfl, bel.frame _, fun h => by cases h⟩

theorem over : Rows.batchAppliesRow.holds Try.pinned (OpenSpec.ofChange Rows.batchAppliesSpec) :=
  OpenClaim.holds_of_wide 7 Try.f7 rfl rfl rfl rfl rfl rfl rfl ⟨rfl, rfl, rfl, rfl, rfl⟩ rfl rfl rfl rfl rfl (by kernel_rfl) Try.func7 (by kernel_rfl)
    (of_decide_eq_true (by kernel_rfl)) (by unfold Func.isWrapper; first | (rw [if_pos (by decide +kernel)]; kernel_rfl) | (rw [if_neg (by decide +kernel)]; exact ⟨rfl, rfl⟩))
    (fun os started H enc _ => lifted os started H enc)

theorem proved : Rows.BatchAppliesSaid := over
#print axioms proved
end Go.Proofs.Ytkpbeibcfaenhaa.batchApplies
