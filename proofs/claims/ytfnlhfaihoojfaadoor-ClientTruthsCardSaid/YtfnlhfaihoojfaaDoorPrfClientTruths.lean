/- Proved: ledgerlaw13.ClientTruths returns true at every input, and leaves what it was handed as it was; the listed variables are tied to the program's text by the given card. Conditions: none but the given row's own. -/
import Derived.Test.YtfnlhfaihoojfaaDoorCards
import Derived.Test.YtfnlhfaihoojfaaDoorTie
import Derived.WalkKit
import Derived.ProofKit
import Derived.LaidMore
import Derived.OpenShut
import Derived.ShutString
import Derived.ChangeOld
import Derived.Below
import Derived.SizedLaws
import Derived.Stop.Joined
import Derived.Deep.DeepHandedRow
import Derived.Lib.LaidTab
import Derived.Test.YtfnlhfaihoojfaaDoorOpen
import Derived.Test.YtfnlhfaihoojfaaDoorFe
import Derived.Test.YtfnlhfaihoojfaaDoorOpenArr
import Derived.Test.YtfnlhfaihoojfaaDoorOpenKeys
import Derived.Test.YtfnlhfaihoojfaaDoorLawTruths
namespace Go.Proofs.YtfnlhfaihoojfaaDoor.clientTruths
open Go.ChangeShapes Go.WideShapes Go.ChangeAt Go.RowKit
open Go.ChangeMaps (open_string shut_string)
set_option linter.unusedVariables false

theorem own : ownKnob Tryd.prog.godebug = none := by kernel_rfl
theorem laidOut : laidOutB Tryd.prog = true := by kernel_rfl
theorem cellsW : Tryd.prog.cellsOf 81 = 1 := by kernel_rfl
theorem g0 : Tryd.prog.globalNamed "ledger/ledgerref1.first" = some 1 := by kernel_rfl
theorem y0 : (Tryd.prog.globals[1]?).map (·.type) = some 82 := by kernel_rfl
theorem c0 : Tryd.prog.cellsOf 82 = 8 := by kernel_rfl
theorem g1 : Tryd.prog.globalNamed "ledger/ledgerref1.consts" = some 3 := by kernel_rfl
theorem y1 : (Tryd.prog.globals[3]?).map (·.type) = some 111 := by kernel_rfl
theorem c1 : Tryd.prog.cellsOf 111 = 64 := by kernel_rfl
theorem g2 : Tryd.prog.globalNamed "ledger/digest.begin" = some 0 := by kernel_rfl
theorem y2 : (Tryd.prog.globals[0]?).map (·.type) = some 82 := by kernel_rfl
theorem c2 : Tryd.prog.cellsOf 82 = 8 := by kernel_rfl
theorem g3 : Tryd.prog.globalNamed "ledger/digest.round" = some 2 := by kernel_rfl
theorem y3 : (Tryd.prog.globals[2]?).map (·.type) = some 111 := by kernel_rfl
theorem c3 : Tryd.prog.cellsOf 111 = 64 := by kernel_rfl
theorem tab_of {W : World} {name : String} {g : Nat} {t n : Nat} {L : List Nat} {cs : Array Value} {base fuel : Nat} {sp : Nat → Bool} {held : Bool} {p : List MemPlace} (hg : Tryd.prog.globalNamed name = some g) (hv : W.var? Tryd.prog name = some cs) (ht : Tryd.prog.underlying t = some (.array n 81)) (hct : Tryd.prog.cellsOf t = n)
    (hd : DataW.trod (H := Unit) (fun _ => ()) Tryd.prog W base sp held fuel t cs.toList = some (Lib.tabData .u32 (L.map fun x : Nat => (x : Int)), p)) (h0 : 0 < L.length) : TabU W g L := by
  have hcs := Lib.cells_of_tab ht Tryd.underlying81 cellsW hct hd
  have hT : Lib.TabIs Tryd.prog W name .u32 (L.map fun x : Nat => (x : Int)) := by
    unfold Lib.TabIs
    rw [hv, ← hcs]
  have hc : ∀ j, j < L.length → W.cell? ⟨g, j, none⟩ = some (.int .u32 (L.getD j 0 : Nat)) := fun j hj => by
    rw [hT.cell hg j (by simpa using hj)]
    simp [List.getD, hj]
  exact ⟨lt_of_cell (hc 0 h0), hc⟩
theorem okWide_block {P : Program} {w : World} {r : Reach} {base : Nat} {t e : TypeId} {a : Option Addr} {len cap : Nat} (ht : P.underlying t = some (.slice e)) (h : Value.okWide P w r base t (.slice a len cap)) : ∀ ad, a = some ad → ad.block < w.heap.size := fun ad e1 => by
  subst e1
  simp only [Value.okWide, ht, Cell.okWide, Cell.ok] at h
  obtain ⟨_, _, row, cells, h1, _⟩ := h.2.2
  rcases Nat.lt_or_ge ad.block w.heap.size with h2 | h2
  · exact h2
  · simp [World.shape?, Array.getElem?_eq_none h2] at h1
theorem tabs {W : World} (h : laidMetH Tryd.prog Rows.clientTruthsRow.laid W) : TabU W 1 hL ∧ TabU W 3 kL ∧ TabU W 0 hL ∧ TabU W 2 kL := by
  rw [MakeChecks.laidMetH_plain _ _ _ (by kernel_rfl)] at h
  obtain ⟨ps, ⟨g0', t0', cs0, f0, p0, q0, hg0, ht0, hv0, hd0, ⟨g1', t1', cs1, f1, p1, q1, hg1, ht1, hv1, hd1, ⟨g2', t2', cs2, f2, p2, q2, hg2, ht2, hv2, hd2, ⟨g3', t3', cs3, f3, p3, q3, hg3, ht3, hv3, hd3, _, _⟩, _⟩, _⟩, _⟩, _, _⟩ := h
  obtain rfl := Option.some.inj (g0.symm.trans hg0)
  obtain rfl := Option.some.inj (y0.symm.trans ht0)
  obtain rfl := Option.some.inj (g1.symm.trans hg1)
  obtain rfl := Option.some.inj (y1.symm.trans ht1)
  obtain rfl := Option.some.inj (g2.symm.trans hg2)
  obtain rfl := Option.some.inj (y2.symm.trans ht2)
  obtain rfl := Option.some.inj (g3.symm.trans hg3)
  obtain rfl := Option.some.inj (y3.symm.trans ht3)
  exact ⟨tab_of (L := hL) g0 hv0 Tryd.underlying82 c0 hd0 (by decide), tab_of (L := kL) g1 hv1 Tryd.underlying111 c1 hd1 (by decide), tab_of (L := hL) g2 hv2 Tryd.underlying82 c2 hd2 (by decide), tab_of (L := kL) g3 hv3 Tryd.underlying111 c3 hd3 (by decide)⟩
theorem walk (a0 : Int) (a1 : Option Addr) (len1 cap1 : Nat) (z1 : Nat → Chg) (a2 : Option Addr) (len2 cap2 : Nat) (z2 : Nat → List Nat) (w : World) (w0 : (Lit.int .i64 a0).wf = true) (w1 : ChsAt w a1 len1 z1) (s1 : (len1 * 64 ≤ 140737488355328 ∧ ∀ k, k < len1 → (z1 k).val.length ≤ 140737488355328) ∧ len1 ≤ cap1) (w2 : KBs w a2 len2 z2) (s2 : len2 ≤ 140737488355328 ∧ (a2 = none → len2 = 0 ∧ cap2 = 0)) (T0 : TabU w 1 hL) (T1 : TabU w 3 kL) (T2 : TabU w 0 hL) (T3 : TabU w 2 kL) :
    Calls Tryd.prog 4 #[.int .i64 a0, .slice a1 len1 cap1, .slice a2 len2 cap2] w fun e w' => e = .returned (.bool true) ∧ Below w.heap.size w w' := by
  exact clientTruths_walk a0 a1 len1 cap1 z1 a2 len2 cap2 z2 w w1 s1.2 s1.1.1 s1.1.2 w2 s2.2 s2.1 ⟨T2, T3⟩ ⟨T0, T1⟩

theorem door_met (os : Os) (args : Array Value) : laidMetH Tryd.prog Rows.clientTruthsRow.laid ((World.doorLaid Tryd.prog 4000 os).forCall (fun _ _ => 0) ⟨#[], args, []⟩).memory :=
  laidMetH_of_parts3 (fuel := 8) (laidMet_of_run' 8 (by kernel_rfl) (by kernel_rfl)) (by kernel_rfl) (by kernel_rfl)
set_option maxRecDepth 100000 in
theorem lifted (os : Os) (started : os.Started) (H : Type) (enc : TypeId × Value → H) :
    ReturnsInHanded {} Tryd.checked os 4 .any (fun w args => (Rows.clientTruthsSpec.pre enc Tryd.prog Tryd.f4 [] false w args ∧ laidMetH Tryd.prog Rows.clientTruthsRow.laid w) ∧ sizedMet enc Tryd.prog Tryd.f4 (OpenSpec.ofChange Rows.clientTruthsSpec) false w args)
      (Rows.clientTruthsSpec.post enc Tryd.prog Tryd.f4 false true false false) := by
  refine returnsInHanded_of_change_and (C := Tryd.checked) (X := fun w _ => laidMetH Tryd.prog Rows.clientTruthsRow.laid w) (fun _ _ _ hh h => h.of_heap hh) own started (by kernel_rfl) Tryd.func4
    (ChangeSpec.witness_shaped (enc := enc) (C := Tryd.checked) (os := os) (X := fun w _ => laidMetH Tryd.prog Rows.clientTruthsRow.laid w) false (World.doorLaid Tryd.prog 4000 os) #[.int .i64 0, .slice none 0 0, .slice none 0 0] 8 rfl (World.shaped_of_RefB (by kernel_rfl) (by kernel_rfl)) (by kernel_rfl) (by kernel_rfl) (by kernel_rfl) (door_met os _)) ?_
  intro W base args ds gs before hval0 hW _ hsz0 hL _
  have hval : ∀ (j : Nat) t v, Tryd.f4.params[j]? = some t → args[j]? = some v → Value.okWide Tryd.prog W .any base t v := hval0
  have hW' := hW
  obtain ⟨p, q, hA0, hV, rfl, hfz, hnd⟩ := hW
  have hA : DataW.TrodAll enc Tryd.prog W 0 (fun _ => true) true Tryd.f4.params.toList args.toList ds p := hA0
  have hsz : (DataW.weightsEach Tryd.prog (Tryd.f4.params.toList ++ Rows.clientTruthsSpec.plain.varTypes Tryd.prog) (ds ++ gs)).all (· ≤ reachBytes) = true := hsz0
  rw [Tryd.params4] at hA hval hsz
  obtain ⟨v0, vs0, d0, ds0, p0, q0, hargs, rfl, rfl, h0, r0⟩ := trodAll_cons hA
  obtain ⟨v1, vs1, d1, ds1, p1, q1, rfl, rfl, rfl, h1, r1⟩ := trodAll_cons r0
  obtain ⟨v2, vs2, d2, ds2, p2, q2, rfl, rfl, rfl, h2, r2⟩ := trodAll_cons r1
  obtain ⟨rfl, rfl, rfl⟩ := trodAll_nil r2
  obtain rfl : args = #[v0, v1, v2] := by cases args; simp_all
  obtain ⟨rfl, rfl⟩ := trodVars_none hV
  obtain ⟨a0, rfl, rfl, rfl, w0⟩ := open_int Tryd.underlying3 (hval 0 3 v0 rfl rfl) h0
  obtain ⟨a1, len1, cap1, rfl⟩ := okWide_slice Tryd.underlying33 (hval 1 33 v1 rfl rfl)
  have k1 := h1
  have lt1 : ∀ x ∈ p1, x.block < W.heap.size := by obtain ⟨m, hm⟩ := k1; exact DataW.trod_lt m _ _ _ hm
  obtain ⟨z1, w1, s1⟩ : ∃ X, ChsAt W a1 len1 X ∧ ((len1 * 64 ≤ 140737488355328 ∧ ∀ k, k < len1 → (X k).val.length ≤ 140737488355328) ∧ len1 ≤ cap1) := by
    obtain ⟨fuel, hf⟩ := h1
    obtain ⟨A, N, C, X, hcs, h1, h2, h3, h4, h5⟩ := chs_open hf
    simp [Value.cells] at hcs
    obtain ⟨rfl, rfl, rfl⟩ := hcs
    have hM := h5 reachBytes (fun y hy => by simpa using List.all_eq_true.1 hsz y (DataW.weights_mem_each (j := 1) (t := 33) rfl rfl y hy))
    rw [show Tryd.prog.bytesOf 93 = 64 by kernel_rfl, show Tryd.prog.bytesOf 5 = 1 by kernel_rfl] at hM
    have hrb : reachBytes ≤ 140737488355328 := by decide
    exact ⟨X, h1, ⟨by omega, fun k hk => by have := hM.2 k hk; omega⟩, h2⟩
  obtain ⟨a2, len2, cap2, rfl⟩ := okWide_slice Tryd.underlying34 (hval 2 34 v2 rfl rfl)
  have k2 := h2
  have lt2 : ∀ x ∈ p2, x.block < W.heap.size := by obtain ⟨m, hm⟩ := k2; exact DataW.trod_lt m _ _ _ hm
  obtain ⟨z2, w2, s2⟩ : ∃ X, KBs W a2 len2 X ∧ (len2 ≤ 140737488355328 ∧ (a2 = none → len2 = 0 ∧ cap2 = 0)) := by
    obtain ⟨X, hX, hnil, hd⟩ := open_keys Tryd.underlying34 Tryd.underlying31 Tryd.underlying5 (by kernel_rfl) (by kernel_rfl) rfl h2
    refine ⟨X, hX, ?_, hnil⟩
    rcases hd with h0 | ⟨elems, rest, hd, hel⟩
    · omega
    · have hsl := sized_slice hsz (j := 2) (t := 34) (e := 31) rfl (congrArg some hd) Tryd.underlying34
      rw [show Tryd.prog.bytesOf 31 = 32 by kernel_rfl] at hsl
      simp only [reachBytes] at hsl
      omega
  clear hA0 hval0
  obtain ⟨T0, T1, T2, T3⟩ := tabs hL
  refine (walk a0 a1 len1 cap1 z1 a2 len2 cap2 z2 W w0 w1 s1 w2 s2 T0 T1 T2 T3).mono fun e W' ⟨he, bel⟩ => ?_
  subst he
  exact ⟨_, rfl, _, _, _, [], _, [], hW', trodAll_mk1 (shut_bool Tryd.underlying4 _), (trodAll_cons_mk (shut_int Tryd.underlying3 w0) (trodAll_cons_mk (Below.trod laidOut (by kernel_rfl) (of_decide_eq_true (by kernel_rfl)) k1 bel lt1) (trodAll_cons_mk (Below.trod laidOut (by kernel_rfl) (of_decide_eq_true (by kernel_rfl)) k2 bel lt2) trodAll_mk0))), rfl, bel.frame _, fun h => by cases h⟩

theorem said : Rows.ClientTruthsSaid :=
  OpenClaim.holds_of_wide 4 Tryd.f4 rfl rfl rfl rfl rfl rfl rfl ⟨rfl, rfl, rfl, rfl, rfl⟩ rfl rfl rfl rfl rfl (by kernel_rfl) Tryd.func4 (by kernel_rfl)
    (of_decide_eq_true (by kernel_rfl)) (by unfold Func.isWrapper; first | (rw [if_pos (by decide +kernel)]; kernel_rfl) | (rw [if_neg (by decide +kernel)]; exact ⟨rfl, rfl⟩))
    (fun os started H enc _ => lifted os started H enc)
theorem plain (f : FuncId) (fn : Func) (hf : Tryd.pinned.checked.prog.funcNamed "ledger/ledgerlaw13.ClientTruths" = some f) (hfn : Tryd.pinned.checked.prog.funcs[f]? = some fn) :
    false = Tryd.pinned.checked.prog.looks [] ∧ ∀ (j : Nat) t, fn.params[j]? = some t → Tryd.pinned.checked.prog.wantsStandIn t = false := by
  obtain rfl : f = 4 := Option.some.inj ((show Tryd.prog.funcNamed "ledger/ledgerlaw13.ClientTruths" = some 4 by kernel_rfl).symm.trans hf) |>.symm
  obtain rfl : fn = Tryd.f4 := (Option.some.inj (Tryd.func4.symm.trans hfn)).symm
  refine ⟨by kernel_rfl, fun j t ht => ?_⟩
  rw [Tryd.params4] at ht
  have hm := Array.mem_of_getElem? ht
  have hq : t = 3 ∨ t = 33 ∨ t = 34 := by simpa using hm
  rcases hq with rfl | rfl | rfl
  · exact (show Tryd.prog.wantsStandIn 3 = false by kernel_rfl)
  · exact (show Tryd.prog.wantsStandIn 33 = false by kernel_rfl)
  · exact (show Tryd.prog.wantsStandIn 34 = false by kernel_rfl)
theorem proved : Rows.ClientTruthsCardSaid :=
  Claim7.holds_tied_plain_at .later [] _ _ _ _ said (fun _ h => by cases h) (by kernel_rfl) (fun _ h => by cases h) clientTruths_row_tie rfl ⟨rfl, rfl⟩ (by kernel_rfl) rfl plain (by kernel_rfl)
#print axioms proved
end Go.Proofs.YtfnlhfaihoojfaaDoor.clientTruths
