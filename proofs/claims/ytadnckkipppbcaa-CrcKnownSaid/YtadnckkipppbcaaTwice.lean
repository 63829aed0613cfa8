/- (crc.turn).twice: the same turn, done twice. -/
import Derived.Test.YtadnckkipppbcaaOf
import Derived.Test.YtadnckkipppbcaaLib2
import Derived.Deep.RegionHeld3
import Derived.Deep.MidRow
namespace Go.Proofs.Ytadnckkipppbcaa
open Go.RowKit
theorem info_turn : (Try.prog.info? 42).map (fun i => (i.zero, i.size)) = some (some (.agg (arrF fun _ => 0)), 32) := by kernel_rfl
theorem size_turn : (Try.prog.info? 42).map (·.size) = some 32 := by kernel_rfl
theorem und_turn : Try.prog.underlying 42 = some (.array 32 25) := by kernel_rfl
/-- The first k of g, zeros behind. -/
def upF (g : Nat → Nat) (k : Nat) : Array Value := arrF fun j => if j < k then g j else 0
theorem upF_zero (g : Nat → Nat) : upF g 0 = arrF fun _ => 0 := by
  simp [upF]
theorem upF_done (g : Nat → Nat) : upF g 32 = arrF g := by
  have h : (List.range 32).map (fun i => Value.int .u32 ((if i < 32 then g i else 0 : Nat) : Int)) = (List.range 32).map (fun i => Value.int .u32 (g i : Nat)) := by
    apply List.map_congr_left
    intro i hi
    rw [if_pos (List.mem_range.1 hi)]
  exact congrArg List.toArray h
theorem upF_set (g : Nat → Nat) {k : Nat} (_hk : k < 32) : (upF g k).setIfInBounds k (.int .u32 (g k : Nat)) = upF g (k + 1) := by
  apply Array.ext
  · simp [upF, arrF]
  · intro i h1 h2
    simp only [upF, arrF, List.setIfInBounds_toArray, List.getElem_toArray, List.getElem_set, List.getElem_map, List.getElem_range]
    by_cases e : k = i
    · subst e
      simp
    · rw [if_neg e]
      by_cases e2 : i < k
      · rw [if_pos e2, if_pos (by omega)]
      · rw [if_neg e2, if_neg (by omega)]
theorem blk_range {w : World} {g : Nat} {t : TypeId} {cs : Array Value} (h : BlkIs w g t cs) : w.rangeAt g 0 cs.toList := fun j v hj => by
  rw [Nat.zero_add, h.cell]
  simpa using hj
theorem below_undrew {w w' : World} (h : Below w.drew.heap.size w.drew w') : Below w.heap.size w w' := ⟨h.os, h.tape, h.output, h.size, h.block⟩
/-- A result that lies in memory, known cell by cell. -/
theorem results_cell_range {P : Program} {fn : Func} {p : Tmp} {ty : TypeId} (h : fn.results = #[.cell p ty]) (tmps : Array Value) (w : World) (b o : Nat) (cs : List Value) (d : TypeDesc)
    (hp : tmps.getD p undef = .pointer (some ⟨b, o, none⟩)) (hc : w.rangeAt b o cs) (hu : P.underlying ty = some d) (hd : d.isRow = true) (hi : (P.info? ty).map (·.size) = some cs.length) :
    (results fn tmps).run P w = .ok (.agg cs.toArray) w := by
  have hp' : tmps[p]?.getD undef = .pointer (some ⟨b, o, none⟩) := by simpa using hp
  simp [results, h, hp', asAddr, run_loadVar_mid w b o ty cs d hc hu hd hi]
theorem arrF_one (g : Nat → Nat) : (arrF g).all (·.oneCell') = true := by
  simp [arrF]
  intro i _
  rfl
theorem below_setCells {B : Nat} {a w : World} (h : Below B a w) (g : Nat) (hg : B ≤ g) (o : Nat) (vs : List Value) : Below B a (w.setCells g o vs) := by
  induction vs generalizing o w with
  | nil => exact h
  | cons v vs ih => exact ih (h.setCell (p := ⟨g, o, none⟩) hg v) (o + 1)
def setL (cs : Array Value) : Nat → List Value → Array Value
  | _, [] => cs
  | o, v :: r => setL (cs.setIfInBounds o v) (o + 1) r
theorem setL_size (cs : Array Value) : ∀ o vs, (setL cs o vs).size = cs.size
  | _, [] => rfl
  | o, v :: r => by rw [setL, setL_size]; simp
theorem setL_get (cs : Array Value) : ∀ (o : Nat) (vs : List Value) (i : Nat), i < cs.size → (setL cs o vs)[i]? = if o ≤ i ∧ i < o + vs.length then vs[i - o]? else cs[i]?
  | o, [], i, _ => by rw [setL, if_neg (by simp only [List.length_nil]; omega)]
  | o, v :: r, i, hi => by
    rw [setL, setL_get _ (o + 1) r i (by simpa using hi)]
    by_cases e : i = o
    · subst e
      rw [if_neg (by omega), if_pos (by simp)]
      simp [hi]
    · by_cases h : o + 1 ≤ i ∧ i < o + 1 + r.length
      · rw [if_pos h, if_pos (by simp only [List.length_cons]; omega), show i - o = (i - (o + 1)) + 1 by omega, List.getElem?_cons_succ]
      · rw [if_neg h, if_neg (by simp only [List.length_cons]; omega)]
        rw [Array.getElem?_setIfInBounds, if_neg (Ne.symm e)]
theorem blk_setCells {g : Nat} {t : TypeId} : ∀ {w : World} {cs : Array Value} (o : Nat) (vs : List Value), BlkIs w g t cs → BlkIs (w.setCells g o vs) g t (setL cs o vs)
  | _, _, _, [], h => h
  | _, _, o, v :: r, h => blk_setCells (o + 1) r (h.stored o v)
theorem blk_setAll {w : World} {g : Nat} {t : TypeId} {cs ds : Array Value} (h : BlkIs w g t cs) (hs : cs.size = ds.size) : BlkIs (w.setCells g 0 ds.toList) g t ds := by
  have e : setL cs 0 ds.toList = ds := by
    apply Array.ext_getElem?
    intro i
    rcases Nat.lt_or_ge i cs.size with hi | hi
    · rw [setL_get cs 0 _ i hi, if_pos (by simp; omega)]
      simp
    · rw [Array.getElem?_eq_none (by rw [setL_size]; exact hi), Array.getElem?_eq_none (by omega)]
  have := blk_setCells 0 ds.toList h
  rwa [e] at this
structure TInv (w wr : World) (f : Nat → Nat) (k : Nat) : Prop where
  at0 : BlkIs wr w.heap.size 42 (arrF f)
  at1 : BlkIs wr (w.heap.size + 1) 42 (arrF fun _ => 0)
  at2 : BlkIs wr (w.heap.size + 1 + 1) 42 (upF (fun i => ofN f (f i)) k)
  bel : Below w.heap.size w wr
theorem TInv.start (w : World) (f : Nat → Nat) (o1 o2 : Array Value) (h1 : o1 = arrF fun _ => 0) (h2 : o2 = arrF fun _ => 0) : TInv w (((w.alloc (.cells (arrF f) 42)).alloc (.cells o1 42)).alloc (.cells o2 42)) f 0 := by
  subst h1 h2
  refine ⟨((BlkIs.new _ _ _).alloc _).alloc _, ?_, ?_, (((Below.refl _ _).alloc (Nat.le_refl _) _).alloc (by simp) _).alloc (by simp; omega) _⟩
  · have := (BlkIs.new (w.alloc (.cells (arrF f) 42)) 42 (arrF fun _ => 0)).alloc (.cells (arrF fun _ => 0) 42)
    simpa using this
  · rw [upF_zero]
    have := BlkIs.new ((w.alloc (.cells (arrF f) 42)).alloc (.cells (arrF fun _ => 0) 42)) 42 (arrF fun _ => 0)
    simpa using this
theorem TInv.step {w wr w2 : World} {f : Nat → Nat} {k : Nat} (h : TInv w wr f k) (hk : k < 32) (hb : Below wr.heap.size wr w2) :
    TInv w (w2.setCell ⟨w.heap.size + 1 + 1, k, none⟩ (.int .u32 (ofN f (f k) : Nat))) f (k + 1) := by
  have h0 := h.at0.below hb
  have h1 := h.at1.below hb
  have h2 := h.at2.below hb
  refine ⟨h0.far (by simp; omega) _, h1.far (by simp) _, ?_, ((h.bel.trans (hb.mono h.bel.size)).setCell (by simp; omega) _)⟩
  rw [← upF_set _ hk]
  exact h2.stored _ _
set_option maxHeartbeats 800000 in
theorem twice_any (f : Nat → Nat) (w : World) (hf : ∀ i, i < 32 → f i < 4294967296) :
    Calls Try.prog 26 #[.agg (arrF f)] w fun e w' => e = .returned (.agg (arrF fun i => ofN f (f i))) ∧ Below w.heap.size w w' := by
  have HF := Lib.hid hf
  clear hf
  go_enter Try.func26, Try.ntmps26
  go_wp2
  go_loopw [5] (fun i wr => ∃ k : Nat, k ≤ 32 ∧ i = .int .i64 k ∧ Hid (TInv w wr f k)) (fun i _ => 32 - (intOf i).toNat)
  case atStart => exact ⟨0, by omega, rfl, TInv.start w f _ _ rfl rfl⟩
  case round =>
    obtain ⟨k, hk, rfl, HI⟩ := hrel
    by_cases hlt : k < 32
    · have hr0 := blk_range HI.out.at0
      have cellk : ∀ W, TInv w W f k → W.cell? ⟨w.heap.size, k, none⟩ = some (.int .u32 (f k : Nat)) := fun W h => by rw [h.at0.cell]; exact arrF_get f hlt
      have cellz : ∀ W, BlkIs W (w.heap.size + 1 + 1) 42 (upF (fun i => ofN f (f i)) k) → W.cell? ⟨w.heap.size + 1 + 1, k, none⟩ = some (.int .u32 0) := fun W h => by
        rw [h.cell, upF, arrF_get _ hlt, if_neg (by omega)]
        rfl
      have hc := cellk wr HI.out
      have CK3 : Hid (∀ W, TInv w W f (k + 1) → W.cell? ⟨w.heap.size, k, none⟩ = some (.int .u32 (f k : Nat))) := fun W h => by rw [h.at0.cell]; exact arrF_get f hlt
      have CZ := Lib.hid cellz
      have hu := und_turn
      have hi : (Try.prog.info? 42).map (·.size) = some (arrF f).toList.length := by rw [size_turn]; simp [arrF_size]
      have HOf := Lib.hid (fun W => of_any f (f k) W HF.out (HF.out k hlt))
      clear cellk cellz
      go_wp2
      go_region_held3 (fun w' => w'.rangeAt w.heap.size 0 (arrF f).toList ∧ w'.cell? ⟨w.heap.size, k, none⟩ = some (.int .u32 (f k : Nat))) (first | go_keep_ranges | exact ⟨hr2, hc2⟩ | exact ⟨hr3, hc3⟩) ((go_at_call 25; refine (HOf.out _).mono ?_; rintro e w2 ⟨rfl, hb⟩; have HB2 := Lib.hid (below_undrew hb); clear hb; have hr2 := blk_range (HI.out.at0.below HB2.out); have hc2 := (HB2.out.cell (p := ⟨w.heap.size, k, none⟩) HI.out.at0.lt).trans hc; have hd2 := CZ.out w2 (HI.out.at2.below HB2.out); have hz2 := (HI.out.at2.below HB2.out).frozen k; have hs3 := HI.out.step hlt HB2.out; have HS3 := Lib.hid hs3; have hr3 := blk_range hs3.at0; have hc3 := CK3.out _ hs3; clear hs3))
      go_wp2
      go_roundw
      case rel => exact ⟨k + 1, by omega, by go_num, HS3.out⟩
      case measure => simp [intOf]; omega
    · obtain rfl : k = 32 := by omega
      have h2 := HI.out.at2
      rw [upF_done] at h2
      have hr := blk_range h2
      have hth : wr.there (w.heap.size + 1) 0 (arrF fun i => ofN f (f i)).size := fun j hj => by
        rw [arrF_size] at hj
        rw [Nat.zero_add, HI.out.at1.cell, arrF_get _ hj]
        exact ⟨rfl, HI.out.at1.frozen j⟩
      have hi : (Try.prog.info? 42).map (·.size) = some (arrF fun i => ofN f (f i)).toList.length := by rw [size_turn]; simp [arrF_size]
      have HR := Lib.hid hr
      have HTH := Lib.hid hth
      have HII := Lib.hid hi
      have HFIN := Lib.hid (World.rangeAt_setCells_same wr (w.heap.size + 1) 0 (arrF fun i => ofN f (f i)).toList (by simpa using hth))
      have HB : Hid (Below w.heap.size w (wr.setCells (w.heap.size + 1) 0 (arrF fun i => ofN f (f i)).toList)) := below_setCells HI.out.bel _ (by omega) _ _
      clear h2 hr hth hi
      go_wp2_with (first
        | (refine wpList_load_mid (op := ⟨some 16, .load 42 (.tmp 3), _, _, _, _⟩) rfl _ (.tmp 3) rfl (w.heap.size + 1 + 1) 0 rfl (arrF fun i => ofN f (f i)).toList _ HR.out und_turn rfl HII.out ?_)
        | (refine wpList_store_mid (op := ⟨none, .store 42 (.tmp 2) (.tmp 16), _, _, _, _⟩) rfl _ (.tmp 2) (.tmp 16) rfl (w.heap.size + 1) 0 (arrF fun i => ofN f (f i)) rfl rfl HTH.out HII.out (arrF_one _) ?_)
        | fail)
      refine bodyPost_ret (v := .agg (arrF fun i => ofN f (f i)).toList.toArray) (results_cell_range rfl _ _ (w.heap.size + 1) 0 _ _ rfl HFIN.out und_turn rfl HII.out) rfl ⟨?_, HB.out⟩
      simp
end Go.Proofs.Ytadnckkipppbcaa
