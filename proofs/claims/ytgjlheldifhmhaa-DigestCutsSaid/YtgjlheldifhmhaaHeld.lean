/- My own walk through a region that draws and holds loads of arrays beside calls: 'held S hS (keep) (arm)': S a condition on the world, hS : S at the region's world (behind the draw it is shown by keep). Each long load may be met any number of times. -/
import Derived.Test.YtgjlheldifhmhaaArr
import Derived.Deep.RegionHeld3
namespace Go.Proofs.Ytgjlheldifhmhaa
open Go.RowKit
open Lean Elab Tactic Meta
/-- Operation number i of the region at hand, written out. -/
def heldOp (i : Nat) : TacticM Term := withMainContext do
  let t := (← instantiateMVars (← getMainTarget)).consumeMData
  unless t.isAppOfArity ``wpAnyH 9 do throwError "held: the goal is no region's rest:\n{t}"
  let some oe := opAt (t.getAppArgs[2]!) i | throwError "held: no operation {i}"
  Term.exprToSyntax oe
/-- An operation that yields in every world that meets S is taken: an array's load by the ranges in S; else by the walk's own rules. -/
elab "held_load" i:num : tactic => do
  let o ← heldOp i.getNat
  evalTactic (← `(tactic| (
    refine wpAnyH_take (i := $i) (oi := $o) rfl (by kernel_rfl) (by kernel_rfl) (by kernel_rfl) (fun _ _ _ h => h)
      (yieldsIf_load_mid (by rfl) _ _ rfl _ _ rfl _ _ (fun w hw => by (try dsimp only at hw); go_split_ands; assumption) (by assumption) rfl (by assumption)) (by assumption) ?_
    try simp only [Act.put, List.setIfInBounds_toArray, List.set_cons_zero, List.set_cons_succ])))
elab "held_take" i:num : tactic => do
  let o ← heldOp i.getNat
  evalTactic (← `(tactic| (
    refine wpAnyH_take (i := $i) (oi := $o) rfl (by kernel_rfl) (by kernel_rfl) (by kernel_rfl) (fun _ _ _ h => h) (Or.inl ⟨by rfl, fun w hw => by (try dsimp only at hw); go_simp; with_reducible rfl⟩) (by assumption) ?_
    try simp only [Act.put, List.setIfInBounds_toArray, List.set_cons_zero, List.set_cons_succ])))
elab "held_skip" i:num : tactic => do
  let o ← heldOp i.getNat
  evalTactic (← `(tactic| (
    refine wpAnyH_take (i := $i) (oi := $o) rfl (by kernel_rfl) (by kernel_rfl) (by kernel_rfl) (fun _ _ _ h => h) (Or.inr ⟨by rfl, rfl⟩) (by assumption) ?_
    try simp only [Act.put, List.setIfInBounds_toArray, List.set_cons_zero, List.set_cons_succ])))
/-- The one operation that may come up is a call: t meets it, out of h1 : S at the world behind it. -/
macro "held_call" i:term "," k:ident "," t:tactic : tactic => `(tactic| (
  refine wpAnyH_ready (rs := [$i]) (by kernel_rfl) (by simp) ?_
  refine AllReadyH.cons rfl (fun K $k => ?_) (AllReadyH.nil)
  go_simp
  $t))
end Go.Proofs.Ytgjlheldifhmhaa
