/- Proved: ledgerlaw5.FrameKept returns true where what it reads is of bulk at most 1048576, and leaves what it was handed as it was; the listed variable is tied to the program's text by the given card. -/
import Derived.Test.YtbjbpgbpefkbhaaDoorCards
import Derived.Test.YtbjbpgbpefkbhaaDoorTie
import Derived.WalkKit
import Derived.ProofKit
import Derived.OpenShut
import Derived.ShutString
import Derived.ChangeOld
import Derived.Below
import Derived.Deep.DeepHandedRow
import Derived.Lib.LaidTab
import Derived.Test.YtbjbpgbpefkbhaaDoorStruct
import Derived.Test.YtbjbpgbpefkbhaaDoorLawFrameKept
namespace Go.Proofs.YtbjbpgbpefkbhaaDoor.frameKept
open Go.ChangeShapes Go.WideShapes Go.ChangeAt Go.RowKit
open Go.ChangeMaps (open_string shut_string)
set_option linter.unusedVariables false

theorem own : ownKnob Tryd.prog.godebug = none := by kernel_rfl
theorem laidOut : laidOutB Tryd.prog = true := by kernel_rfl
theorem gTab : Tryd.prog.globalNamed "ledger/ledgerref2.divisor" = some 0 := by kernel_rfl
theorem gTabType : (Tryd.prog.globals[0]?).map (·.type) = some 90 := by kernel_rfl
theorem cellsTab : Tryd.prog.cellsOf 90 = 33 := by kernel_rfl
theorem cellsByte : Tryd.prog.cellsOf 5 = 1 := by kernel_rfl
theorem table {W : World} (h : laidMetH Tryd.prog Rows.frameKeptUptoRow.laid W) : Lib.TabIs Tryd.prog W "ledger/ledgerref2.divisor" .u8 [1, 0, 0, 0, 0, 0, 1, 0, 0, 1, 1, 0, 0, 0, 0, 0, 1, 0, 0, 0, 1, 1, 1, 0, 1, 1, 0, 1, 1, 0, 1, 1, 1] :=
  Lib.tabIs_of_head (rest := []) gTab gTabType Tryd.underlying90 Tryd.underlying5 cellsByte cellsTab h
theorem divT {W : World} (h : laidMetH Tryd.prog Rows.frameKeptUptoRow.laid W) : DivT W := by
  have hc : ∀ j, j < 33 → W.cell? ⟨0, j, none⟩ = some (.int .u8 (dv j : Nat)) := fun j hj => by
    have h1 := (table h).cell gTab j (by simpa using hj)
    have key : ∀ i : Fin 33, ([1, 0, 0, 0, 0, 0, 1, 0, 0, 1, 1, 0, 0, 0, 0, 0, 1, 0, 0, 0, 1, 1, 1, 0, 1, 1, 0, 1, 1, 0, 1, 1, 1] : List Int).getD i.val 0 = ((dv i.val : Nat) : Int) := by decide +kernel
    rw [h1, key ⟨j, hj⟩]
  exact ⟨lt_of_cell (hc 0 (by omega)), hc⟩
theorem one_le {H : Type} (d : DataW H) : 1 ≤ Rows.uptoBulk d := by
  cases d with
  | lit l => cases l <;> simp [Rows.uptoBulk]
  | nil => simp [Rows.uptoBulk]
  | ptr d => simp [Rows.uptoBulk]
  | slice a b => simp [Rows.uptoBulk]
  | agg a => simp [Rows.uptoBulk]
  | iface a b => simp [Rows.uptoBulk]
  | map a => simp [Rows.uptoBulk]
  | held a => simp [Rows.uptoBulk]
theorem length_le {H : Type} (l : List (DataW H)) : l.length ≤ Rows.uptoBulkAll l := by
  induction l with
  | nil => simp [Rows.uptoBulkAll]
  | cons x r ih => have := one_le x; simp only [Rows.uptoBulkAll, List.length_cons]; omega
theorem part_le {H : Type} {d : DataW H} {l : List (DataW H)} (h : d ∈ l) : Rows.uptoBulk d ≤ Rows.uptoBulkAll l := by
  induction l with
  | nil => cases h
  | cons x r ih =>
    simp only [Rows.uptoBulkAll]
    rcases List.mem_cons.1 h with rfl | h
    · omega
    · have := ih h; omega
theorem inner_le {H : Type} (elems spare : List (DataW H)) : Rows.uptoBulkAll elems ≤ Rows.uptoBulk (.slice elems spare) := by
  simp only [Rows.uptoBulk]
  omega
theorem slice_le {H : Type} (elems spare : List (DataW H)) : elems.length + spare.length + 1 ≤ Rows.uptoBulk (.slice elems spare) := by
  have h1 := length_le elems
  have h2 := length_le spare
  simp only [Rows.uptoBulk]
  omega
theorem walk (a0 : Option Addr) (len0 cap0 : Nat) (z0 : Nat → TryN) (w : World) (w0 : TryAt w a0 len0 z0) (s0 : len0 ≤ 1048576) (x0 : ∀ k, k < len0 → (z0 k).a.length ≤ 1048576 ∧ (z0 k).b.length ≤ 1048576) (hd : DivT w) :
    Calls Tryd.prog 8 #[.slice a0 len0 cap0] w fun e w' => e = .returned (.bool true) ∧ Below w.heap.size w w' := by
  exact frameKept_walk a0 len0 cap0 z0 w w0 s0 x0 hd

theorem contract (H : Type) (enc : TypeId × Value → H) (W : World) (base : Nat) (args : Array Value) (ds gs : List (DataW H)) (before : List MemPlace)
    (hval : ∀ (j : Nat) t v, Tryd.f8.params[j]? = some t → args[j]? = some v → Value.okWide Tryd.prog W .any base t v)
    (hW : DataW.Whole enc Tryd.prog Tryd.f8.params.toList Rows.frameKeptSpec.vars false W args.toList ds gs before) (hk : Rows.uptoSmall H (ds ++ gs) = true) (hL : laidMetH Tryd.prog Rows.frameKeptUptoRow.laid W) :
    Calls Tryd.prog 8 args W fun e W' => ∃ v, e = .returned v ∧ Rows.frameKeptSpec.post enc Tryd.prog Tryd.f8 false true false false W args v W' := by
  have hW' := hW
  obtain ⟨p, q, hA0, hV, rfl, hfz, hnd⟩ := hW
  have hA : DataW.TrodAll enc Tryd.prog W 0 (fun _ => true) true Tryd.f8.params.toList args.toList ds p := hA0
  rw [Tryd.params8] at hA hval
  obtain ⟨v0, vs0, d0, ds0, p0, q0, hargs, rfl, rfl, h0, r0⟩ := trodAll_cons hA
  obtain ⟨rfl, rfl, rfl⟩ := trodAll_nil r0
  obtain rfl : args = #[v0] := by cases args; simp_all
  obtain ⟨rfl, rfl⟩ := trodVars_none hV
  have hbulk : Rows.uptoBulkAll ([d0] ++ []) ≤ 1048576 := of_decide_eq_true hk
  obtain ⟨a0, len0, cap0, rfl⟩ := okWide_slice Tryd.underlying45 (hval 0 45 v0 rfl rfl)
  have k0 := h0
  have lt0 : ∀ x ∈ p0, x.block < W.heap.size := by obtain ⟨m, hm⟩ := k0; exact DataW.trod_lt m _ _ _ hm
  have hpl0 := part_le (d := d0) (l := [d0] ++ []) (by simp)
  obtain ⟨z0, w0, s0, x0⟩ : ∃ X, TryAt W a0 len0 X ∧ len0 ≤ 1048576 ∧ ∀ k, k < len0 → (X k).a.length ≤ 1048576 ∧ (X k).b.length ≤ 1048576 := by
    rcases tries_of Tryd.underlying45 Tryd.underlying52 rfl rfl rfl rfl rfl rfl rfl rfl rfl rfl rfl rfl rfl rfl rfl rfl rfl rfl Tryd.underlying3 (by kernel_rfl) Tryd.underlying24 (by kernel_rfl) Tryd.underlying5 (by kernel_rfl) Tryd.underlying23 (by kernel_rfl) ⟨rfl, rfl⟩ ⟨rfl, rfl⟩ ⟨rfl, rfl⟩ ⟨rfl, rfl⟩ ⟨rfl, rfl⟩ (by kernel_rfl) rfl h0 with h0 | ⟨elems, spare, X, rfl, hel, ht, hc⟩
    · exact ⟨fun _ => default, fun k hk => by omega, by omega, fun k hk => by omega⟩
    · have hsl := slice_le elems spare
      have cnt : ∀ (L : Nat) (parts : List (DataW H)), DataW.agg parts ∈ elems → Counts L parts → L ≤ 1048576 := fun L parts h1 h2 => by
        have b1 := part_le h1
        have b2 : Rows.uptoBulkAll parts ≤ Rows.uptoBulk (.agg parts) := by simp [Rows.uptoBulk]
        have b3 := inner_le elems spare
        rcases h2 with h2 | ⟨e1, s1, h2, h3⟩
        · omega
        · have b4 := part_le h2
          have b5 := slice_le e1 s1
          omega
      exact ⟨X, ht, by omega, fun k hk => by obtain ⟨parts, p1, p2, p3⟩ := hc k hk; exact ⟨cnt _ _ p1 p2, cnt _ _ p1 p3⟩⟩
  clear hA0
  refine (walk a0 len0 cap0 z0 W w0 s0 x0 (divT hL)).mono fun e W' ⟨he, bel⟩ => ?_
  subst he
  exact ⟨_, rfl, _, _, _, [], _, [], hW', trodAll_mk1 (shut_bool Tryd.underlying4 _), (trodAll_cons_mk (Below.trod laidOut (by kernel_rfl) (of_decide_eq_true (by kernel_rfl)) k0 bel lt0) trodAll_mk0), rfl, bel.frame _, fun h => by cases h⟩

noncomputable def laidWorld (os : Os) : World :=
  { World.holding Tryd.prog os ⟨#[], #[], []⟩ with heap := (World.holding Tryd.prog os ⟨#[], #[], []⟩).heap.modify 0 fun
      | .cells _ t frozen => .cells #[.int .u8 1, .int .u8 0, .int .u8 0, .int .u8 0, .int .u8 0, .int .u8 0, .int .u8 1, .int .u8 0, .int .u8 0, .int .u8 1, .int .u8 1, .int .u8 0, .int .u8 0, .int .u8 0, .int .u8 0, .int .u8 0, .int .u8 1, .int .u8 0, .int .u8 0, .int .u8 0, .int .u8 1, .int .u8 1, .int .u8 1, .int .u8 0, .int .u8 1, .int .u8 1, .int .u8 0, .int .u8 1, .int .u8 1, .int .u8 0, .int .u8 1, .int .u8 1, .int .u8 1] t frozen
      | o => o }
theorem laid_met (os : Os) : laidMet Tryd.prog Rows.frameKeptUptoRow.laid ((laidWorld os).forCall (fun _ _ => 0) ⟨#[], #[.slice none 0 0], []⟩).memory :=
  laidMet_of_run' 8 (by kernel_rfl) (by kernel_rfl)
theorem reads (os : Os) {H : Type} (enc : TypeId × Value → H) : ∃ places, DataW.whole enc Tryd.prog ((laidWorld os).forCall (fun _ _ => 0) ⟨#[], #[.slice none 0 0], []⟩).memory Tryd.f8.params.toList Rows.frameKeptSpec.vars false (#[.slice none 0 0] : Array Value).toList 8 = some ([.nil], [], places) :=
  ⟨[], by kernel_rfl⟩

set_option maxRecDepth 100000 in
theorem liftedUpto (os : Os) (started : os.Started) (H : Type) (enc : TypeId × Value → H) (F : Stop.Interp) :
    ReturnsInHanded {} Tryd.checked os 8 .any ((Rows.OpenSpec.upto Rows.frameKeptSpec).preRow enc Tryd.prog Tryd.f8 Rows.frameKeptUptoRow.domain false Rows.frameKeptUptoRow.laid) (((Rows.OpenSpec.upto Rows.frameKeptSpec).at F).post enc Tryd.prog Tryd.f8 false true false false) := by
  obtain ⟨places, hx⟩ := reads os enc
  refine returnsInHanded_of_row (C := Tryd.checked) (s := Rows.OpenSpec.upto Rows.frameKeptSpec) own started (by kernel_rfl) Tryd.func8
    (witness_row_at (enc := enc) (C := Tryd.checked) false (laidWorld os) #[.slice none 0 0] rfl (by kernel_rfl) (by kernel_rfl) (by kernel_rfl)
      (OpenSpec.preRow_of_cond 8 hx (by kernel_rfl) (fun k hk => by cases hk; kernel_rfl) (by kernel_rfl) (laid_met os))) ?_
  intro W base args ds gs before hval hW _ hcond _ hL _ _
  exact contract H enc W base args ds gs before hval hW (hcond _ rfl) hL
theorem saidUpto : Rows.FrameKeptUptoSaid :=
  OpenClaim.holds_of_cond 8 Tryd.f8 rfl rfl rfl rfl rfl rfl rfl ⟨rfl, rfl, rfl, rfl, rfl⟩ rfl rfl rfl rfl rfl (by kernel_rfl) Tryd.func8 (by kernel_rfl)
    (of_decide_eq_true (by kernel_rfl)) (by unfold Func.isWrapper; first | (rw [if_pos (by decide +kernel)]; kernel_rfl) | (rw [if_neg (by decide +kernel)]; exact ⟨rfl, rfl⟩))
    (fun os started H enc _ F => by rw [OpenClaim.pre_eq_preRow]; exact liftedUpto os started H enc F)
theorem plain (f : FuncId) (fn : Func) (hf : Tryd.pinned.checked.prog.funcNamed "ledger/ledgerlaw5.FrameKept" = some f) (hfn : Tryd.pinned.checked.prog.funcs[f]? = some fn) :
    false = Tryd.pinned.checked.prog.looks [] ∧ ∀ (j : Nat) t, fn.params[j]? = some t → Tryd.pinned.checked.prog.wantsStandIn t = false := by
  obtain rfl : f = 8 := Option.some.inj ((show Tryd.prog.funcNamed "ledger/ledgerlaw5.FrameKept" = some 8 by kernel_rfl).symm.trans hf) |>.symm
  obtain rfl : fn = Tryd.f8 := (Option.some.inj (Tryd.func8.symm.trans hfn)).symm
  refine ⟨by kernel_rfl, fun j t ht => ?_⟩
  rw [Tryd.params8] at ht
  have hm := Array.mem_of_getElem? ht
  obtain rfl : t = 45 := by simpa using hm
  exact (show Tryd.prog.wantsStandIn 45 = false by kernel_rfl)
theorem proved : Rows.FrameKeptUptoCardSaid :=
  Claim7.holds_tied_plain_at .later [] _ _ _ _ saidUpto (fun _ h => by cases h) (by kernel_rfl) (fun _ h => by cases h) frameKeptUpto_row_tie rfl ⟨rfl, rfl⟩ (by kernel_rfl) rfl plain (by kernel_rfl)
#print axioms proved
end Go.Proofs.YtbjbpgbpefkbhaaDoor.frameKept
