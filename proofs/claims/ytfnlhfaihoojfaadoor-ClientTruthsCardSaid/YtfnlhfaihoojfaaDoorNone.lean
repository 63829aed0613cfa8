/- The proof that nothing is there; lists of zero bytes. -/
import Derived.Test.YtfnlhfaihoojfaaDoorMj
import Derived.Deep.OwnRows
namespace Go.Proofs.YtfnlhfaihoojfaaDoor
open Go.RowKit
theorem made_row (n : Nat) : madeCells #[(.int .u8 0 : Value)] n = zarr n := by
  apply Array.ext
  · simp [madeCells, zarr, bvs, zs]
  · intro i h1 h2
    simp [madeCells, zarr, bvs, bv, zs, Nat.mod_one]
theorem make_bytes (n : Nat) (hn : n ≤ 281474976710656) : ∃ cs : Array Value, Hid (cs = zarr n) ∧ ∀ w : World, (Instr.makeSlice 22 (.int .i64 (n : Int)) (.int .i64 (n : Int))).run Tryd.prog w = .ok (.slice (some ⟨w.heap.size, 0, none⟩) n n) (w.alloc (.cells cs 5)) :=
  ⟨_, made_row n, fun w => run_make_row' (P := Tryd.prog) 22 5 (.int .u8 0) 1 und_bytes info_byte rfl .i64 .i64 n (by omega) (by omega) w⟩
theorem yields_build {P : Program} {ops : Array Oper} {S : World → Prop} {o : Oper} {a : Act} (hw : Region.wanted o (yielded ops a.tmps) = true) (t : TypeId) (parts : Array (Nat × Operand)) (ho : o.op = .build t parts)
    (vs : List (Nat × Value)) (hv : (parts.map fun (i, x) => (i, a.eval x)).toList = vs) (cells : Array Value) (hb : P.built t vs = some cells) : YieldsIf P ops S o (.agg cells) a :=
  .inl ⟨hw, fun w _ => by
    subst hv
    unfold execOp
    simp only [ho, Sem.run_bind, run_build w t _ cells hb, Result.andThen_ok, Sem.run_pure]⟩
/-- The proof that nothing is there, under a root of nothing. -/
def noneP : Pr := ⟨false, [], zs 32, []⟩
theorem onesN_zs (n : Nat) : onesN (zs n) = 0 := by
  unfold onesN zs
  rw [List.map_replicate, List.sum_replicate_nat]
  rfl
theorem decN_none33 : decN (zs 33) = some noneP := by kernel_rfl
theorem bitP_zs (h : Nat) : bitP (zs 32) h = false := by
  unfold bitP
  have : (zs 32).getD (h / 8) 0 = 0 := by
    rcases Nat.lt_or_ge (h / 8) (zs 32).length with h1 | h1
    · exact zs_all 32 _ (getD_mem h1)
    · simp [List.getD, List.getElem?_eq_none h1]
  rw [this]
  simp
theorem nearP_none (w : Int) (h : Nat) : nearP w noneP h = emptyD w h := by
  unfold nearP
  rw [if_neg (by show ¬ bitP (zs 32) h = true; rw [bitP_zs]; decide)]
theorem formP_none (w : Int) (n : Nat) : formP w noneP n = 0 := formP_of fun j _ => by
  unfold badP
  rw [if_neg (by show ¬ bitP (zs 32) j = true; rw [bitP_zs]; decide)]
theorem pathP_none (w : Int) (k : List Nat) (h : Nat) : pathP w k noneP h = emptyD w h := by
  induction h with
  | zero => rfl
  | succ h ih =>
    have e : pathP w k noneP (h + 1) = nodeD w (upT w k h (pathP w k noneP h) (nearP w noneP h)) := rfl
    rw [e, ih, nearP_none]
    unfold upT sidesN
    split <;> rfl
theorem errP_none {w : Int} (h1 : 1 ≤ w) (h2 : w ≤ 32) (r k : List Nat) : errP w r k (zs 33) = if emptyD w 256 = r then 0 else 131 := by
  rw [errP_zero (p := noneP) (by rw [errF_some (by omega) decN_none33, formP_none]) (by omega) decN_none33, pathP_none]
theorem built_d0 : Tryd.prog.built 29 [] = some (bvs (zs 32)).toArray := by kernel_rfl
/-- What an answer holds. -/
def ansF (q : Nat) (xs : List Nat) : Bool := if q = 0 then (match decN xs with | none => false | some p => p.found) else false
def ansV (q : Nat) (xs : List Nat) : List Nat := if q = 0 then (match decN xs with | none => [] | some p => p.val) else []
/-- Verify, as its caller reads the answer. -/
def Answers (q : Nat) (xs : List Nat) (w : World) (e : Ending) (w' : World) : Prop :=
  Below w.heap.size w w' ∧ ∃ A c, e = .returned (.tuple #[.agg #[.bool (ansF q xs), .slice A (ansV q xs).length c], .int .i64 (q : Nat)]) ∧ OwnU w' w.heap.size (.slice A (ansV q xs).length c) (ansV q xs)
theorem verify_ans (wd : Int) (rs ks xs : List Nat) (A : Option Addr) (n k : Nat) (w : World) (hr : rs.length = 32) (hrB : IsB rs) (hk : ks.length = 32) (hkB : IsB ks)
    (hx : RB w A n xs) (hlt : ∀ ad, A = some ad → ad.block < w.heap.size) (hnc : n ≤ k) (hA : A = none → k = 0) (hkm : k ≤ maxLen) (hn : n ≤ 140737488355328) (ht : Tabs w) (q : Nat) (hq : errP wd rs ks xs = q) :
    Calls Tryd.prog 7 #[.int .i64 wd, .agg (bvs rs).toArray, .agg (bvs ks).toArray, .slice A n k] w (Answers q xs w) := by
  refine (verify_any wd rs ks xs A n k w hr hrB hk hkB hx hlt hnc hA hkm hn ht).mono ?_
  rintro e w' ⟨hb, h1, h2⟩
  subst hq
  refine ⟨hb, ?_⟩
  by_cases h : errP wd rs ks xs = 0
  · obtain ⟨p, V, hp, _, _, rfl, ho⟩ := h2 h
    have e1 : ansF (errP wd rs ks xs) xs = p.found := by unfold ansF; rw [if_pos h, hp]
    have e2 : ansV (errP wd rs ks xs) xs = p.val := by unfold ansV; rw [if_pos h, hp]
    rw [e1, e2]
    obtain ⟨A2, c2, rfl, _⟩ := ho.form
    exact ⟨A2, c2, by rw [h]; rfl, ho⟩
  · have e1 : ansF (errP wd rs ks xs) xs = false := if_neg h
    have e2 : ansV (errP wd rs ks xs) xs = [] := if_neg h
    rw [e1, e2]
    exact ⟨none, 0, h1 h, Own.nil _ _ _⟩
/-- The first thing that is asked: a proof that nothing is there. -/
theorem verify_none (wd : Int) (ks R : List Nat) (hR : ∀ _ : Nat, R = emptyD wd 256) (hk : ks.length = 32) (hkB : IsB ks) (g : Nat) (w : World) (hz : BlkB w g 5 (zs 33)) (ht : Tabs w) (q : Nat) (hq : (if wd < 1 ∨ 32 < wd then 1 else 0) = q) :
    Calls Tryd.prog 7 #[.int .i64 wd, .agg (bvs R).toArray, .agg (bvs ks).toArray, .slice (some ⟨g, 0, none⟩) 33 33] w fun e w' => Below w.heap.size w w' ∧ ∃ Av cv, e = .returned (.tuple #[.agg #[.bool false, .slice Av 0 cv], .int .i64 (q : Nat)]) := by
  rw [hR 0]
  have he : errP wd (emptyD wd 256) ks (zs 33) = q := by
    by_cases h : wd < 1 ∨ 32 < wd
    · rw [if_pos h] at hq
      unfold errP
      rw [if_pos h, hq]
    · rw [if_neg h] at hq
      rw [errP_none (by omega) (by omega), if_pos rfl, hq]
  refine (verify_ans wd (emptyD wd 256) ks (zs 33) (some ⟨g, 0, none⟩) 33 33 w (emptyD_length _ _) (emptyD_isB _ _) hk hkB (hz.whole (zs_isB _) (zs_length _)) (fun ad e => by injection e with e; rw [← e]; exact BlkIs.lt hz) (by omega) (fun h => by cases h) (by simp [maxLen]) (by omega) ht q he).mono ?_
  rintro e w' ⟨hb, A, c, rfl, _⟩
  have e1 : ansF q (zs 33) = false := by
    unfold ansF
    rw [decN_none33]
    split <;> rfl
  have e2 : ansV q (zs 33) = [] := by
    unfold ansV
    rw [decN_none33]
    split <;> rfl
  rw [e1, e2]
  exact ⟨hb, A, c, rfl⟩
theorem empty_at (wd : Int) (w : World) (ht : Tabs1 w) : Calls Tryd.prog 8 #[.int .i64 wd, .int .i64 256] w fun e w' => Below w.heap.size w w' ∧ ∃ R, e = .returned (.agg (bvs R).toArray) ∧ ∀ _ : Nat, R = emptyD wd 256 :=
  (rempty_any wd w ht).mono fun _ _ ⟨h1, h2⟩ => ⟨h2, _, h1, fun _ => rfl⟩
end Go.Proofs.YtfnlhfaihoojfaaDoor
