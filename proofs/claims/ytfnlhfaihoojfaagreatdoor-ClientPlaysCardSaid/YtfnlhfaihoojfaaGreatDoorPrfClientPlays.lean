/- Proved: ledgerlaw13.ClientPlays returns true at every input, and leaves what it was handed as it was; the listed variables are tied to the program's text by the given card. Conditions: none but the given row's own. -/
import Derived.Test.YtfnlhfaihoojfaaGreatDoorCards
import Derived.Test.YtfnlhfaihoojfaaGreatDoorTie
import Derived.WalkKit
import Derived.ProofKit
import Derived.LaidMore
import Derived.OpenShut
import Derived.ShutString
import Derived.ChangeOld
import Derived.Below
import Derived.SizedLaws
import Derived.Stop.Joined
import Derived.Deep.DeepHandedRow
import Derived.Lib.LaidTab
import Derived.Test.YtfnlhfaihoojfaaGreatDoorS51
namespace Go.Proofs.YtfnlhfaihoojfaaGreatDoor.clientPlays
open Go.ChangeShapes Go.WideShapes Go.ChangeAt Go.RowKit
open Go.ChangeMaps (open_string shut_string)
set_option linter.unusedVariables false

theorem own : ownKnob Tryz.prog.godebug = none := by kernel_rfl
theorem laidOut : laidOutB Tryz.prog = true := by kernel_rfl
theorem cellsW : Tryz.prog.cellsOf 128 = 1 := by kernel_rfl
theorem g0 : Tryz.prog.globalNamed "ledger/ledgerref1.first" = some 0 := by kernel_rfl
theorem y0 : (Tryz.prog.globals[0]?).map (·.type) = some 129 := by kernel_rfl
theorem c0 : Tryz.prog.cellsOf 129 = 8 := by kernel_rfl
theorem g1 : Tryz.prog.globalNamed "ledger/ledgerref1.consts" = some 1 := by kernel_rfl
theorem y1 : (Tryz.prog.globals[1]?).map (·.type) = some 130 := by kernel_rfl
theorem c1 : Tryz.prog.cellsOf 130 = 64 := by kernel_rfl
theorem g2 : Tryz.prog.globalNamed "ledger/digest.begin" = some 2 := by kernel_rfl
theorem y2 : (Tryz.prog.globals[2]?).map (·.type) = some 129 := by kernel_rfl
theorem c2 : Tryz.prog.cellsOf 129 = 8 := by kernel_rfl
theorem g3 : Tryz.prog.globalNamed "ledger/digest.round" = some 3 := by kernel_rfl
theorem y3 : (Tryz.prog.globals[3]?).map (·.type) = some 130 := by kernel_rfl
theorem c3 : Tryz.prog.cellsOf 130 = 64 := by kernel_rfl
theorem tab_of {W : World} {name : String} {g : Nat} {t n : Nat} {L : List Nat} {cs : Array Value} {base fuel : Nat} {sp : Nat → Bool} {held : Bool} {p : List MemPlace} (hg : Tryz.prog.globalNamed name = some g) (hv : W.var? Tryz.prog name = some cs) (ht : Tryz.prog.underlying t = some (.array n 128)) (hct : Tryz.prog.cellsOf t = n)
    (hd : DataW.trod (H := Unit) (fun _ => ()) Tryz.prog W base sp held fuel t cs.toList = some (Lib.tabData .u32 (L.map fun x : Nat => (x : Int)), p)) (h0 : 0 < L.length) : TabU W g L := by
  have hcs := Lib.cells_of_tab ht Tryz.underlying128 cellsW hct hd
  have hT : Lib.TabIs Tryz.prog W name .u32 (L.map fun x : Nat => (x : Int)) := by
    unfold Lib.TabIs
    rw [hv, ← hcs]
  have hc : ∀ j, j < L.length → W.cell? ⟨g, j, none⟩ = some (.int .u32 (L.getD j 0 : Nat)) := fun j hj => by
    rw [hT.cell hg j (by simpa using hj)]
    simp [List.getD, hj]
  exact ⟨lt_of_cell (hc 0 h0), hc⟩
theorem okWide_block {P : Program} {w : World} {r : Reach} {base : Nat} {t e : TypeId} {a : Option Addr} {len cap : Nat} (ht : P.underlying t = some (.slice e)) (h : Value.okWide P w r base t (.slice a len cap)) : ∀ ad, a = some ad → ad.block < w.heap.size := fun ad e1 => by
  subst e1
  simp only [Value.okWide, ht, Cell.okWide, Cell.ok] at h
  obtain ⟨_, _, row, cells, h1, _⟩ := h.2.2
  rcases Nat.lt_or_ge ad.block w.heap.size with h2 | h2
  · exact h2
  · simp [World.shape?, Array.getElem?_eq_none h2] at h1
theorem tabs {W : World} (h : laidMetH Tryz.prog Rows.clientPlaysRow.laid W) : TabU W 0 hL ∧ TabU W 1 kL ∧ TabU W 2 hL ∧ TabU W 3 kL := by
  rw [MakeChecks.laidMetH_plain _ _ _ (by kernel_rfl)] at h
  obtain ⟨ps, ⟨g0', t0', cs0, f0, p0, q0, hg0, ht0, hv0, hd0, ⟨g1', t1', cs1, f1, p1, q1, hg1, ht1, hv1, hd1, ⟨g2', t2', cs2, f2, p2, q2, hg2, ht2, hv2, hd2, ⟨g3', t3', cs3, f3, p3, q3, hg3, ht3, hv3, hd3, _, _⟩, _⟩, _⟩, _⟩, _, _⟩ := h
  obtain rfl := Option.some.inj (g0.symm.trans hg0)
  obtain rfl := Option.some.inj (y0.symm.trans ht0)
  obtain rfl := Option.some.inj (g1.symm.trans hg1)
  obtain rfl := Option.some.inj (y1.symm.trans ht1)
  obtain rfl := Option.some.inj (g2.symm.trans hg2)
  obtain rfl := Option.some.inj (y2.symm.trans ht2)
  obtain rfl := Option.some.inj (g3.symm.trans hg3)
  obtain rfl := Option.some.inj (y3.symm.trans ht3)
  exact ⟨tab_of (L := hL) g0 hv0 Tryz.underlying129 c0 hd0 (by decide), tab_of (L := kL) g1 hv1 Tryz.underlying130 c1 hd1 (by decide), tab_of (L := hL) g2 hv2 Tryz.underlying129 c2 hd2 (by decide), tab_of (L := kL) g3 hv3 Tryz.underlying130 c3 hd3 (by decide)⟩
theorem walk (a0 : Option Addr) (len0 cap0 : Nat) (z0 : Nat → OpV) (w : World) (w0 : ScriptAt w a0 len0 z0) (s0 : len0 * 240 ≤ 140737488355328) (T0 : TabU w 0 hL) (T1 : TabU w 1 kL) (T2 : TabU w 2 hL) (T3 : TabU w 3 kL) :
    Calls Tryz.prog 3 #[.slice a0 len0 cap0] w fun e w' => e = .returned (.bool true) ∧ Below w.heap.size w w' := by
  exact clientPlays_walk a0 len0 cap0 z0 w w0 s0 ⟨⟨T2, T3⟩, ⟨T0, T1⟩⟩

theorem door_met (os : Os) (args : Array Value) : laidMetH Tryz.prog Rows.clientPlaysRow.laid ((World.doorLaid Tryz.prog 4000 os).forCall (fun _ _ => 0) ⟨#[], args, []⟩).memory :=
  laidMetH_of_parts3 (fuel := 8) (laidMet_of_run' 8 (by kernel_rfl) (by kernel_rfl)) (by kernel_rfl) (by kernel_rfl)
set_option maxRecDepth 100000 in
theorem lifted (os : Os) (started : os.Started) (H : Type) (enc : TypeId × Value → H) :
    ReturnsInHanded {} Tryz.checked os 3 .any (fun w args => (Rows.clientPlaysSpec.pre enc Tryz.prog Tryz.f3 [] false w args ∧ laidMetH Tryz.prog Rows.clientPlaysRow.laid w) ∧ sizedMet enc Tryz.prog Tryz.f3 (OpenSpec.ofChange Rows.clientPlaysSpec) false w args)
      (Rows.clientPlaysSpec.post enc Tryz.prog Tryz.f3 false true false false) := by
  refine returnsInHanded_of_change_and (C := Tryz.checked) (X := fun w _ => laidMetH Tryz.prog Rows.clientPlaysRow.laid w) (fun _ _ _ hh h => h.of_heap hh) own started (by kernel_rfl) Tryz.func3
    (ChangeSpec.witness_shaped (enc := enc) (C := Tryz.checked) (os := os) (X := fun w _ => laidMetH Tryz.prog Rows.clientPlaysRow.laid w) false (World.doorLaid Tryz.prog 4000 os) #[.slice none 0 0] 8 rfl (World.shaped_of_RefB (by kernel_rfl) (by kernel_rfl)) (by kernel_rfl) (by kernel_rfl) (by kernel_rfl) (door_met os _)) ?_
  intro W base args ds gs before hval0 hW _ hsz0 hL _
  have hval : ∀ (j : Nat) t v, Tryz.f3.params[j]? = some t → args[j]? = some v → Value.okWide Tryz.prog W .any base t v := hval0
  have hW' := hW
  obtain ⟨p, q, hA0, hV, rfl, hfz, hnd⟩ := hW
  have hA : DataW.TrodAll enc Tryz.prog W 0 (fun _ => true) true Tryz.f3.params.toList args.toList ds p := hA0
  have hsz : (DataW.weightsEach Tryz.prog (Tryz.f3.params.toList ++ Rows.clientPlaysSpec.plain.varTypes Tryz.prog) (ds ++ gs)).all (· ≤ reachBytes) = true := hsz0
  rw [Tryz.params3] at hA hval hsz
  obtain ⟨v0, vs0, d0, ds0, p0, q0, hargs, rfl, rfl, h0, r0⟩ := trodAll_cons hA
  obtain ⟨rfl, rfl, rfl⟩ := trodAll_nil r0
  obtain rfl : args = #[v0] := by cases args; simp_all
  obtain ⟨rfl, rfl⟩ := trodVars_none hV
  obtain ⟨a0, len0, cap0, rfl⟩ := okWide_slice Tryz.underlying22 (hval 0 22 v0 rfl rfl)
  have k0 := h0
  have lt0 : ∀ x ∈ p0, x.block < W.heap.size := by obtain ⟨m, hm⟩ := k0; exact DataW.trod_lt m _ _ _ hm
  obtain ⟨z0, w0, s0⟩ : ∃ X, ScriptAt W a0 len0 X ∧ len0 * 240 ≤ 140737488355328 := by
    obtain ⟨X, h1, h2⟩ := script_open (M := reachBytes) (by decide) h0 (fun y hy => by simpa using List.all_eq_true.1 hsz y (DataW.weights_mem_each (j := 0) (t := 22) rfl rfl y hy))
    have hrb : reachBytes ≤ 140737488355328 := by decide
    exact ⟨X, h1, by omega⟩
  clear hA0 hval0
  obtain ⟨T0, T1, T2, T3⟩ := tabs hL
  refine (walk a0 len0 cap0 z0 W w0 s0 T0 T1 T2 T3).mono fun e W' ⟨he, bel⟩ => ?_
  subst he
  exact ⟨_, rfl, _, _, _, [], _, [], hW', trodAll_mk1 (shut_bool Tryz.underlying4 _), (trodAll_cons_mk (Below.trod laidOut (by kernel_rfl) (of_decide_eq_true (by kernel_rfl)) k0 bel lt0) trodAll_mk0), rfl, bel.frame _, fun h => by cases h⟩

theorem said : Rows.ClientPlaysSaid :=
  OpenClaim.holds_of_wide 3 Tryz.f3 rfl rfl rfl rfl rfl rfl rfl ⟨rfl, rfl, rfl, rfl, rfl⟩ rfl rfl rfl rfl rfl (by kernel_rfl) Tryz.func3 (by kernel_rfl)
    (of_decide_eq_true (by kernel_rfl)) (by unfold Func.isWrapper; first | (rw [if_pos (by decide +kernel)]; kernel_rfl) | (rw [if_neg (by decide +kernel)]; exact ⟨rfl, rfl⟩))
    (fun os started H enc _ => lifted os started H enc)
theorem plain (f : FuncId) (fn : Func) (hf : Tryz.pinned.checked.prog.funcNamed "ledger/ledgerlaw13.ClientPlays" = some f) (hfn : Tryz.pinned.checked.prog.funcs[f]? = some fn) :
    false = Tryz.pinned.checked.prog.looks [] ∧ ∀ (j : Nat) t, fn.params[j]? = some t → Tryz.pinned.checked.prog.wantsStandIn t = false := by
  obtain rfl : f = 3 := Option.some.inj ((show Tryz.prog.funcNamed "ledger/ledgerlaw13.ClientPlays" = some 3 by kernel_rfl).symm.trans hf) |>.symm
  obtain rfl : fn = Tryz.f3 := (Option.some.inj (Tryz.func3.symm.trans hfn)).symm
  refine ⟨by kernel_rfl, fun j t ht => ?_⟩
  rw [Tryz.params3] at ht
  have hm := Array.mem_of_getElem? ht
  obtain rfl : t = 22 := by simpa using hm
  exact (show Tryz.prog.wantsStandIn 22 = false by kernel_rfl)
theorem proved : Rows.ClientPlaysCardSaid :=
  Claim7.holds_tied_plain_at .later [] _ _ _ _ said (fun _ h => by cases h) (by kernel_rfl) (fun _ h => by cases h) clientPlays_row_tie rfl ⟨rfl, rfl⟩ (by kernel_rfl) rfl plain (by kernel_rfl)
#print axioms proved
end Go.Proofs.YtfnlhfaihoojfaaGreatDoor.clientPlays
