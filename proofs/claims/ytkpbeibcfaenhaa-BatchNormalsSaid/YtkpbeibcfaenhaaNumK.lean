/- Keys as numbers: the order of keys is that of numbers. -/
import Derived.Test.YtkpbeibcfaenhaaKeysPlay
namespace Go.Proofs.Ytkpbeibcfaenhaa
open Go.RowKit
def numK : List Nat → Nat
  | [] => 0
  | x :: xs => x * 256 ^ xs.length + numK xs
theorem numK_lt : ∀ {xs : List Nat}, IsB xs → numK xs < 256 ^ xs.length
  | [], _ => by simp [numK]
  | x :: xs, h => by
    have h1 := numK_lt (xs := xs) (fun y hy => h y (List.mem_cons_of_mem _ hy))
    have h2 : x < 256 := h x List.mem_cons_self
    have h3 : x * 256 ^ xs.length ≤ 255 * 256 ^ xs.length := Nat.mul_le_mul_right _ (by omega)
    simp only [numK, List.length_cons, Nat.pow_succ]
    omega
theorem numK_less : ∀ (xs ys : List Nat) (i : Nat), IsB xs → IsB ys → xs.length = ys.length → i < xs.length → (∀ j, j < i → xs.getD j 0 = ys.getD j 0) → xs.getD i 0 < ys.getD i 0 → numK xs < numK ys
  | [], _, i, _, _, _, hi, _, _ => by simp at hi
  | _ :: _, [], i, _, _, hl, _, _, _ => by simp at hl
  | x :: xs, y :: ys, 0, hx, hy, hl, _, _, h => by
    have h1 := numK_lt (xs := xs) (fun z hz => hx z (List.mem_cons_of_mem _ hz))
    simp only [List.length_cons, Nat.add_right_cancel_iff] at hl
    simp only [List.getD_cons_zero] at h
    have h3 : (x + 1) * 256 ^ xs.length ≤ y * 256 ^ xs.length := Nat.mul_le_mul_right _ (by omega)
    rw [Nat.add_mul] at h3
    simp only [numK, ← hl]
    omega
  | x :: xs, y :: ys, i + 1, hx, hy, hl, hi, hs, h => by
    simp only [List.length_cons, Nat.add_right_cancel_iff] at hl
    simp only [List.length_cons] at hi
    have h0 := hs 0 (by omega)
    simp only [List.getD_cons_zero] at h0
    have h1 := numK_less xs ys i (fun z hz => hx z (List.mem_cons_of_mem _ hz)) (fun z hz => hy z (List.mem_cons_of_mem _ hz)) hl (by omega) (fun j hj => by
      have := hs (j + 1) (by omega)
      simpa using this) (by simpa using h)
    simp only [numK, ← hl, h0]
    omega
theorem numK_inj {xs ys : List Nat} (hx : IsB xs) (hy : IsB ys) (hl : xs.length = 32) (hl2 : ys.length = 32) (h : numK xs = numK ys) : xs = ys := by
  refine Classical.byContradiction fun hne => ?_
  obtain ⟨i, hi, hs, hd⟩ := diff_of hl hl2 hne
  rcases Nat.lt_or_gt_of_ne hd with h1 | h1
  · have := numK_less xs ys i hx hy (by omega) (by omega) hs h1
    omega
  · have := numK_less ys xs i hy hx (by omega) (by omega) (fun j hj => (hs j hj).symm) h1
    omega
def cmpZ (a b : Nat) : Int := if a < b then -1 else if b < a then 1 else 0
theorem cmpN_num {ds es : List Nat} (hB : IsB ds) (hB2 : IsB es) (hl : ds.length = 32) (hl2 : es.length = 32) : cmpN ds es = cmpZ (numK ds) (numK es) := by
  by_cases h : ds = es
  · subst h
    rw [cmpN_same]
    simp [cmpZ]
  · obtain ⟨i, hd⟩ := diff_of hl hl2 h
    have hi := hd.1
    rw [cmpN_diff hB hB2 hl hl2 hd]
    by_cases h1 : ds.getD i 0 < es.getD i 0
    · have := numK_less ds es i hB hB2 (by omega) (by omega) hd.2.1 h1
      rw [if_pos h1, cmpZ, if_pos this]
    · have h2 : es.getD i 0 < ds.getD i 0 := by have := hd.2.2; omega
      have := numK_less es ds i hB2 hB (by omega) (by omega) (fun j hj => (hd.2.1 j hj).symm) h2
      rw [if_neg h1, cmpZ, if_neg (by omega), if_pos this]
/-- Compare of two keys, the program's and the document's. -/
theorem compare_num (ds es : List Nat) (w : World) (hB : IsB ds) (hl : ds.length = 32) (hB2 : IsB es) (hl2 : es.length = 32) :
    Calls Try.prog 19 #[.agg (bvs ds).toArray, .agg (bvs es).toArray] w fun e w' => e = .returned (.int .i64 (cmpZ (numK ds) (numK es))) ∧ Below w.heap.size w w' := by
  rw [← cmpN_num hB hB2 hl hl2]
  exact compare_any ds es w hB hl hB2 hl2
theorem refcompare_num (ds es : List Nat) (w : World) (hB : IsB ds) (hl : ds.length = 32) (hB2 : IsB es) (hl2 : es.length = 32) :
    Calls Try.prog 80 #[.agg (bvs ds).toArray, .agg (bvs es).toArray] w fun e w' => e = .returned (.int .i64 (cmpZ (numK ds) (numK es))) ∧ Below w.heap.size w w' := by
  rw [← cmpN_num hB hB2 hl hl2]
  by_cases h : ds = es
  · subst h
    exact refcompare_any ds ds 32 _ w hB hl hB hl (Nat.le_refl _) (fun _ _ => rfl) (fun h => by omega) (fun _ => cmpN_same ds) (fun h => by omega)
  · obtain ⟨d, hd⟩ := diff_of hl hl2 h
    exact refcompare_any ds es d _ w hB hl hB2 hl2 (by have := hd.1; omega) hd.2.1 (fun _ => hd.2.2) (fun e => by have := hd.1; omega) (fun _ => cmpN_diff hB hB2 hl hl2 hd)
end Go.Proofs.Ytkpbeibcfaenhaa
