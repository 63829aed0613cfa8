/- batch.Compare. -/
import Derived.Test.YtkpbeibcfaenhaaKeys
import Derived.Lib.BytesEntry
import Derived.Deep.QuietTactic
import Derived.BigQuiet
namespace Go.Proofs.Ytkpbeibcfaenhaa
open Go.RowKit
theorem cmpB_same (l : List UInt8) : Lib.compareBytes l l = 0 := by
  induction l with
  | nil => rfl
  | cons a r ih => simp [Lib.compareBytes, ih]
theorem cmpB_diff : ∀ (xs ys : List UInt8) (i : Nat) (a b : UInt8), (∀ j, j < i → xs[j]? = ys[j]? ∧ j < xs.length) → xs[i]? = some a → ys[i]? = some b → ¬ a = b → Lib.compareBytes xs ys = if a < b then -1 else 1
  | x :: xs, y :: ys, 0, a, b, _, h1, h2, h => by
    simp at h1 h2
    subst h1 h2
    have hn : x.toNat ≠ y.toNat := fun e => h (UInt8.toNat_inj.1 e)
    unfold Lib.compareBytes
    by_cases hlt : x < y
    · rw [if_pos hlt, if_pos hlt]
    · have hgt : y < x := by
        rw [UInt8.lt_iff_toNat_lt] at hlt ⊢
        omega
      rw [if_neg hlt, if_pos hgt, if_neg hlt]
  | x :: xs, y :: ys, i + 1, a, b, h0, h1, h2, h => by
    have e := (h0 0 (by omega)).1
    simp at e
    subst e
    have ih := cmpB_diff xs ys i a b (fun j hj => by
      have := h0 (j + 1) (by omega)
      simpa using this) (by simpa using h1) (by simpa using h2) h
    simp [Lib.compareBytes, ih]
  | [], _, 0, _, _, _, h1, _, _ => by simp at h1
  | [], _, i + 1, _, _, _, h1, _, _ => by simp at h1
  | _ :: _, [], 0, _, _, _, _, h2, _ => by simp at h2
  | _ :: _, [], i + 1, _, _, _, _, h2, _ => by simp at h2
/-- What a read slice hands to the library. -/
theorem run_bytes {P : Program} {w : World} {A : Option Addr} {n c : Nat} {xs : List Nat} (h : RB w A n xs) (h0 : 0 < n) : (Extern.Bytes.bytesOf (.slice A n c)).run P w = .ok ⟨(Lib.bytesOf (xs.map fun x : Nat => (x : Int))).toArray⟩ w := by
  obtain ⟨ad, rfl, _, hc⟩ := h.2.2 h0
  have hl := Lib.run_loadBytesX (P := P) w (xs.map fun x : Nat => (x : Int)) ad .empty (fun j x hj => by
    simp only [List.getElem?_map, Option.map_eq_some_iff] at hj
    obtain ⟨y, hy, rfl⟩ := hj
    exact hc j y hy)
  rw [List.length_map, h.1] at hl
  unfold Extern.Bytes.bytesOf
  rw [hl]
  simp
def cmpN (ds es : List Nat) : Int := Lib.compareBytes (Lib.bytesOf (ds.map fun x : Nat => (x : Int))) (Lib.bytesOf (es.map fun x : Nat => (x : Int)))
theorem run_cmp {P : Program} {w : World} {A B : Option Addr} {n m c d : Nat} {ds es : List Nat} (h1 : RB w A n ds) (h2 : RB w B m es) (hn : 0 < n) (hm : 0 < m) :
    (Extern.BytealgCompare.compare #[.slice A n c, .slice B m d]).run P w = .ok (.int .i64 (cmpN ds es)) w := by
  change Sem.run P (do pure (goInt (Extern.BytealgCompare.cmp (← Extern.Bytes.bytesOf (.slice A n c)) (← Extern.Bytes.bytesOf (.slice B m d))))) w = _
  simp only [Sem.run_bind, run_bytes h1 hn, run_bytes h2 hm, Sem.run_pure, Result.andThen]
  rw [Lib.cmp_eq]
  rfl
theorem cmpN_same (ds : List Nat) : cmpN ds ds = 0 := cmpB_same _
theorem bytesOf_at {ds : List Nat} {i : Nat} (h : i < ds.length) : (Lib.bytesOf (ds.map fun x : Nat => (x : Int)))[i]? = some (UInt8.ofNat (ds.getD i 0)) := by
  simp [Lib.bytesOf, List.getD, h]
theorem cmpN_diff {ds es : List Nat} (hB : IsB ds) (hB2 : IsB es) (hl : ds.length = 32) (hl2 : es.length = 32) {i : Nat} (h : Diff ds es i) : cmpN ds es = if ds.getD i 0 < es.getD i 0 then -1 else 1 := by
  have h1 := byte_at hB i
  have h2 := byte_at hB2 i
  have n1 : (UInt8.ofNat (ds.getD i 0)).toNat = ds.getD i 0 := by rw [UInt8.toNat_ofNat', Nat.mod_eq_of_lt (show ds.getD i 0 < 2 ^ 8 from h1)]
  have n2 : (UInt8.ofNat (es.getD i 0)).toNat = es.getD i 0 := by rw [UInt8.toNat_ofNat', Nat.mod_eq_of_lt (show es.getD i 0 < 2 ^ 8 from h2)]
  have hi := h.1
  have k := cmpB_diff (Lib.bytesOf (ds.map fun x : Nat => (x : Int))) (Lib.bytesOf (es.map fun x : Nat => (x : Int))) i _ _ (fun j hj => by
    refine ⟨?_, by simp [Lib.bytesOf]; omega⟩
    rw [bytesOf_at (ds := ds) (by omega), bytesOf_at (ds := es) (by omega), h.2.1 j hj]) (bytesOf_at (ds := ds) (by omega)) (bytesOf_at (ds := es) (by omega)) (fun e => h.2.2 (by rw [← n1, ← n2, e]))
  unfold cmpN
  rw [k]
  simp only [UInt8.lt_iff_toNat_lt, n1, n2]
set_option maxRecDepth 100000 in
theorem bytealg_any (A B : Option Addr) (n m c d : Nat) (ds es : List Nat) (w : World) (h1 : RB w A n ds) (h2 : RB w B m es) (hn : 0 < n) (hm : 0 < m) :
    Calls Try.prog 44 #[.slice A n c, .slice B m d] w fun e w' => e = .returned (.int .i64 (cmpN ds es)) ∧ w' = w := by
  have hr := run_cmp (P := Try.prog) (c := c) (d := d) h1 h2 hn hm
  clear h1 h2
  generalize cmpN ds es = z at *
  go_enter Try.func44, Try.ntmps44
  go_wp2
  rw [run_callFunc_extern Try.func60 (by kernel_rfl) (by kernel_rfl) (by kernel_rfl) (e := Extern.BytealgCompare.compare) (by kernel_rfl), hr]
  simp only [Result.andThen]
  rw [Oper.upon_value]
  go_wp2
  go_ret
  exact ⟨rfl, rfl⟩
theorem bytealg_q (A B : Option Addr) (n m c d : Nat) (ds es : List Nat) (w : World) (h1 : RB w A n ds) (h2 : RB w B m es) (hn : 0 < n) (hm : 0 < m) :
    Calls Try.prog 44 #[.slice A n c, .slice B m d] w fun e w' => e = .returned (.int .i64 (cmpN ds es)) ∧ ∃ q, w' = w.drewN q :=
  (bytealg_any A B n m c d ds es w h1 h2 hn hm).mono fun _ _ ⟨he, hw⟩ => ⟨he, 0, hw⟩
set_option maxRecDepth 100000 in
set_option maxHeartbeats 800000 in
theorem compare_any (ds es : List Nat) (w : World) (hB : IsB ds) (hl : ds.length = 32) (hB2 : IsB es) (hl2 : es.length = 32) :
    Calls Try.prog 19 #[.agg (bvs ds).toArray, .agg (bvs es).toArray] w fun e w' => e = .returned (.int .i64 (cmpN ds es)) ∧ Below w.heap.size w w' := by
  have HX : Hid (RB ((w.alloc (.cells (bvs ds).toArray 25)).alloc (.cells (bvs es).toArray 25)) (some ⟨w.heap.size, 0, none⟩) 32 ds) := BlkB.whole (BlkIs.alloc (BlkIs.new w 25 _) _) hB hl
  have HY : Hid (RB ((w.alloc (.cells (bvs ds).toArray 25)).alloc (.cells (bvs es).toArray 25)) (some ⟨w.heap.size + 1, 0, none⟩) 32 es) := BlkB.whole (blk_at w _ 1 _ _ (by simp)) hB2 hl2
  have HW : Hid (Below w.heap.size w ((w.alloc (.cells (bvs ds).toArray 25)).alloc (.cells (bvs es).toArray 25))) := ((Below.refl w.heap.size w).alloc (Nat.le_refl _) _).alloc (by simp) _
  clear hB hl hB2 hl2
  go_enter Try.func19, Try.ntmps19
  go_wp2_with fail
  go_quiet (refine Calls.quiet_of (bytealg_q _ _ 32 32 32 32 ds es _ (HX.out.below (drewN_below (Below.refl _ _) _)) (HY.out.below (drewN_below (Below.refl _ _) _)) (by omega) (by omega)))
  go_wp2_with fail
  go_ret
  exact ⟨rfl, drewN_below HW.out _⟩
end Go.Proofs.Ytkpbeibcfaenhaa
