/- Proved: ledgerlaw5.FrameSupers returns true at every input, and leaves what it was handed as it was; the listed variables are tied to the program's text by the given card. Conditions: none but the given row's own. -/
import Derived.Test.YtbjbpgbpefkbhaaDoorCards
import Derived.Test.YtbjbpgbpefkbhaaDoorTie
import Derived.WalkKit
import Derived.ProofKit
import Derived.LaidMore
import Derived.OpenShut
import Derived.ShutString
import Derived.ChangeOld
import Derived.Below
import Derived.SizedLaws
import Derived.Stop.Joined
import Derived.Deep.DeepHandedRow
import Derived.Lib.LaidTab
import Derived.Test.YtbjbpgbpefkbhaaDoorStruct
import Derived.Test.YtbjbpgbpefkbhaaDoorOpen
import Derived.Test.YtbjbpgbpefkbhaaDoorLawFrameSupers
namespace Go.Proofs.YtbjbpgbpefkbhaaDoor.frameSupers
open Go.ChangeShapes Go.WideShapes Go.ChangeAt Go.RowKit
open Go.ChangeMaps (open_string shut_string)
set_option linter.unusedVariables false

theorem own : ownKnob Tryd.prog.godebug = none := by kernel_rfl
theorem laidOut : laidOutB Tryd.prog = true := by kernel_rfl
theorem gTab : Tryd.prog.globalNamed "ledger/ledgerref2.divisor" = some 0 := by kernel_rfl
theorem gTabType : (Tryd.prog.globals[0]?).map (·.type) = some 90 := by kernel_rfl
theorem cellsTab : Tryd.prog.cellsOf 90 = 33 := by kernel_rfl
theorem cellsByte : Tryd.prog.cellsOf 5 = 1 := by kernel_rfl
theorem table {W : World} (h : laidMetH Tryd.prog Rows.frameSupersRow.laid W) : Lib.TabIs Tryd.prog W "ledger/ledgerref2.divisor" .u8 [1, 0, 0, 0, 0, 0, 1, 0, 0, 1, 1, 0, 0, 0, 0, 0, 1, 0, 0, 0, 1, 1, 1, 0, 1, 1, 0, 1, 1, 0, 1, 1, 1] :=
  Lib.tabIs_of_head (rest := []) gTab gTabType Tryd.underlying90 Tryd.underlying5 cellsByte cellsTab h
theorem divT {W : World} (h : laidMetH Tryd.prog Rows.frameSupersRow.laid W) : DivT W := by
  have hc : ∀ j, j < 33 → W.cell? ⟨0, j, none⟩ = some (.int .u8 (dv j : Nat)) := fun j hj => by
    have h1 := (table h).cell gTab j (by simpa using hj)
    have key : ∀ i : Fin 33, ([1, 0, 0, 0, 0, 0, 1, 0, 0, 1, 1, 0, 0, 0, 0, 0, 1, 0, 0, 0, 1, 1, 1, 0, 1, 1, 0, 1, 1, 0, 1, 1, 1] : List Int).getD i.val 0 = ((dv i.val : Nat) : Int) := by decide +kernel
    rw [h1, key ⟨j, hj⟩]
  exact ⟨lt_of_cell (hc 0 (by omega)), hc⟩
theorem okWide_block {P : Program} {w : World} {r : Reach} {base : Nat} {t e : TypeId} {a : Option Addr} {len cap : Nat} (ht : P.underlying t = some (.slice e)) (h : Value.okWide P w r base t (.slice a len cap)) : ∀ ad, a = some ad → ad.block < w.heap.size := fun ad e1 => by
  subst e1
  simp only [Value.okWide, ht, Cell.okWide, Cell.ok] at h
  obtain ⟨_, _, row, cells, h1, _⟩ := h.2.2
  rcases Nat.lt_or_ge ad.block w.heap.size with h2 | h2
  · exact h2
  · simp [World.shape?, Array.getElem?_eq_none h2] at h1
theorem walk (a0 b0 c0 g0 e0 : Int) (w : World) (w0a : (Lit.int .i64 a0).wf = true) (w0b : (Lit.int .i64 b0).wf = true) (w0c : (Lit.int .i64 c0).wf = true) (w0g : (Lit.int .i64 g0).wf = true) (w0e : (Lit.int .i64 e0).wf = true) (hd : DivT w) :
    Calls Tryd.prog 3 #[.agg #[.int .i64 a0, .int .i64 b0, .int .i64 c0, .int .i64 g0, .int .i64 e0]] w fun e w' => e = .returned (.bool true) ∧ Below w.heap.size w w' := by
  exact frameSupers_walk a0 b0 c0 g0 e0 w hd

theorem door_met (os : Os) (args : Array Value) : laidMetH Tryd.prog Rows.frameSupersRow.laid ((World.doorLaid Tryd.prog 4000 os).forCall (fun _ _ => 0) ⟨#[], args, []⟩).memory :=
  laidMetH_of_parts3 (fuel := 8) (laidMet_of_run' 8 (by kernel_rfl) (by kernel_rfl)) (by kernel_rfl) (by kernel_rfl)
set_option maxRecDepth 100000 in
theorem lifted (os : Os) (started : os.Started) (H : Type) (enc : TypeId × Value → H) :
    ReturnsInHanded {} Tryd.checked os 3 .any (fun w args => (Rows.frameSupersSpec.pre enc Tryd.prog Tryd.f3 [] false w args ∧ laidMetH Tryd.prog Rows.frameSupersRow.laid w) ∧ sizedMet enc Tryd.prog Tryd.f3 (OpenSpec.ofChange Rows.frameSupersSpec) false w args)
      (Rows.frameSupersSpec.post enc Tryd.prog Tryd.f3 false true false false) := by
  refine returnsInHanded_of_change_and (C := Tryd.checked) (X := fun w _ => laidMetH Tryd.prog Rows.frameSupersRow.laid w) (fun _ _ _ hh h => h.of_heap hh) own started (by kernel_rfl) Tryd.func3
    (ChangeSpec.witness_shaped (enc := enc) (C := Tryd.checked) (os := os) (X := fun w _ => laidMetH Tryd.prog Rows.frameSupersRow.laid w) false (World.doorLaid Tryd.prog 4000 os) #[.agg #[.int .i64 0, .int .i64 0, .int .i64 0, .int .i64 0, .int .i64 0]] 8 rfl (World.shaped_of_RefB (by kernel_rfl) (by kernel_rfl)) (by kernel_rfl) (by kernel_rfl) (by kernel_rfl) (door_met os _)) ?_
  intro W base args ds gs before hval0 hW _ hsz0 hL _
  have hval : ∀ (j : Nat) t v, Tryd.f3.params[j]? = some t → args[j]? = some v → Value.okWide Tryd.prog W .any base t v := hval0
  have hW' := hW
  obtain ⟨p, q, hA0, hV, rfl, hfz, hnd⟩ := hW
  have hA : DataW.TrodAll enc Tryd.prog W 0 (fun _ => true) true Tryd.f3.params.toList args.toList ds p := hA0
  have hsz : (DataW.weightsEach Tryd.prog (Tryd.f3.params.toList ++ Rows.frameSupersSpec.plain.varTypes Tryd.prog) (ds ++ gs)).all (· ≤ reachBytes) = true := hsz0
  rw [Tryd.params3] at hA hval hsz
  obtain ⟨v0, vs0, d0, ds0, p0, q0, hargs, rfl, rfl, h0, r0⟩ := trodAll_cons hA
  obtain ⟨rfl, rfl, rfl⟩ := trodAll_nil r0
  obtain rfl : args = #[v0] := by cases args; simp_all
  obtain ⟨rfl, rfl⟩ := trodVars_none hV
  obtain ⟨a0, b0, c0, g0, e0, rfl, rfl, rfl, w0a, w0b, w0c, w0g, w0e⟩ := open_five Tryd.underlying23 Tryd.underlying3 ⟨rfl, rfl⟩ ⟨rfl, rfl⟩ ⟨rfl, rfl⟩ ⟨rfl, rfl⟩ ⟨rfl, rfl⟩ (by kernel_rfl) (by kernel_rfl) (hval 0 23 v0 rfl rfl) h0
  clear hA0 hval0
  have hd := divT hL
  refine (walk a0 b0 c0 g0 e0 W w0a w0b w0c w0g w0e hd).mono fun e W' ⟨he, bel⟩ => ?_
  subst he
  exact ⟨_, rfl, _, _, _, [], _, [], hW', trodAll_mk1 (shut_bool Tryd.underlying4 _), (trodAll_cons_mk (shut_five Tryd.underlying23 Tryd.underlying3 ⟨rfl, rfl⟩ ⟨rfl, rfl⟩ ⟨rfl, rfl⟩ ⟨rfl, rfl⟩ ⟨rfl, rfl⟩ (by kernel_rfl) (by kernel_rfl) w0a w0b w0c w0g w0e) trodAll_mk0), rfl, bel.frame _, fun h => by cases h⟩

theorem said : Rows.FrameSupersSaid :=
  OpenClaim.holds_of_wide 3 Tryd.f3 rfl rfl rfl rfl rfl rfl rfl ⟨rfl, rfl, rfl, rfl, rfl⟩ rfl rfl rfl rfl rfl (by kernel_rfl) Tryd.func3 (by kernel_rfl)
    (of_decide_eq_true (by kernel_rfl)) (by unfold Func.isWrapper; first | (rw [if_pos (by decide +kernel)]; kernel_rfl) | (rw [if_neg (by decide +kernel)]; exact ⟨rfl, rfl⟩))
    (fun os started H enc _ => lifted os started H enc)
theorem plain (f : FuncId) (fn : Func) (hf : Tryd.pinned.checked.prog.funcNamed "ledger/ledgerlaw5.FrameSupers" = some f) (hfn : Tryd.pinned.checked.prog.funcs[f]? = some fn) :
    false = Tryd.pinned.checked.prog.looks [] ∧ ∀ (j : Nat) t, fn.params[j]? = some t → Tryd.pinned.checked.prog.wantsStandIn t = false := by
  obtain rfl : f = 3 := Option.some.inj ((show Tryd.prog.funcNamed "ledger/ledgerlaw5.FrameSupers" = some 3 by kernel_rfl).symm.trans hf) |>.symm
  obtain rfl : fn = Tryd.f3 := (Option.some.inj (Tryd.func3.symm.trans hfn)).symm
  refine ⟨by kernel_rfl, fun j t ht => ?_⟩
  rw [Tryd.params3] at ht
  have hm := Array.mem_of_getElem? ht
  obtain rfl : t = 23 := by simpa using hm
  exact (show Tryd.prog.wantsStandIn 23 = false by kernel_rfl)
theorem proved : Rows.FrameSupersCardSaid :=
  Claim7.holds_tied_plain_at .later [] _ _ _ _ said (fun _ h => by cases h) (by kernel_rfl) (fun _ h => by cases h) frameSupers_row_tie rfl ⟨rfl, rfl⟩ (by kernel_rfl) rfl plain (by kernel_rfl)
#print axioms proved
end Go.Proofs.YtbjbpgbpefkbhaaDoor.frameSupers
