/- ledgerlaw3.BatchBack: the plain law. -/
import Derived.Test.YtkpbeibcfaenhaaParse
import Derived.Test.YtkpbeibcfaenhaaRight
import Derived.Test.YtkpbeibcfaenhaaBare
namespace Go.Proofs.Ytkpbeibcfaenhaa
open Go.RowKit
/-- A change that may be laid: its key and its value are bytes, its value is no longer than allowed. -/
structure ChOk (x : Chg) : Prop where
  kb : IsB x.key
  kl : x.key.length = 32
  vb : IsB x.val
  ok : long x = false
theorem ChOk.short {x : Chg} (h : ChOk x) (hd : x.del = false) : x.val.length ≤ 128 := by
  have := h.ok
  unfold long at this
  rw [hd] at this
  simpa using this
theorem take_chB {x : Chg} (h : ChOk x) (t : List Nat) : takeE (chB x ++ t) = 0 ∧ takeC (chB x ++ t) = bareC x ∧ takeR (chB x ++ t) = t := by
  obtain ⟨ky, dl, vl⟩ := x
  have hk : ky.length = 32 := h.kl
  cases dl
  · have hs : vl.length ≤ 128 := h.short rfl
    have e : chB ⟨ky, false, vl⟩ ++ t = 1 :: (ky ++ (vl.length % 256 :: vl.length / 256 % 256 :: (vl ++ t))) := by
      unfold chB
      simp
    have d33 : (1 :: (ky ++ (vl.length % 256 :: vl.length / 256 % 256 :: (vl ++ t)))).drop 33 = vl.length % 256 :: vl.length / 256 % 256 :: (vl ++ t) := by
      rw [List.drop_succ_cons, List.drop_left' hk]
    have d35 : (1 :: (ky ++ (vl.length % 256 :: vl.length / 256 % 256 :: (vl ++ t)))).drop 35 = vl ++ t := by
      rw [show (35 : Nat) = 33 + 2 from rfl, ← List.drop_drop, d33]
      rfl
    have hn : numN (vl.length % 256 :: vl.length / 256 % 256 :: (vl ++ t)) = vl.length := by
      unfold numN
      simp
      omega
    have hlen : (1 :: (ky ++ (vl.length % 256 :: vl.length / 256 % 256 :: (vl ++ t)))).length = 35 + vl.length + t.length := by simp [hk]; omega
    have hk1 : ((1 :: (ky ++ (vl.length % 256 :: vl.length / 256 % 256 :: (vl ++ t)))).drop 1).take 32 = ky := by
      rw [List.drop_succ_cons, List.drop_zero, List.take_left' hk]
    rw [e]
    refine ⟨?_, ?_, ?_⟩
    · unfold takeE
      rw [hlen, d33, hn, if_neg (by omega), if_neg (by simp), if_pos (by rfl), if_neg (by omega), if_neg (by omega), if_neg (by omega)]
    · unfold takeC
      rw [if_neg (by simp), hk1, d35, d33, hn, List.take_left' rfl]
      rfl
    · unfold takeR
      rw [if_neg (by simp), d35, d33, hn, List.drop_left' rfl]
  · have e : chB ⟨ky, true, vl⟩ ++ t = 2 :: (ky ++ t) := by
      unfold chB
      simp
    rw [e]
    refine ⟨?_, ?_, ?_⟩
    · unfold takeE
      rw [if_neg (by simp [hk]), if_pos (by rfl)]
    · unfold takeC
      rw [if_pos (by rfl), List.drop_succ_cons, List.drop_zero, List.take_left' hk]
      rfl
    · unfold takeR
      rw [if_pos (by rfl), List.drop_succ_cons, List.drop_left' hk]
/-- The bytes of the changes k .. k + j - 1. -/
def tl (X : Nat → Chg) : Nat → Nat → List Nat
  | _, 0 => []
  | k, j + 1 => chB (X k) ++ tl X (k + 1) j
theorem layF_tl (X : Nat → Chg) (k j : Nat) : layF X (k + j) = layF X k ++ tl X k j := by
  induction j generalizing k with
  | zero => simp [tl]
  | succ j ih =>
    rw [show k + (j + 1) = (k + 1) + j by omega, ih (k + 1), layF, tl, List.append_assoc]
theorem rest_tl {X : Nat → Chg} {n : Nat} (h : ∀ i, i < n → ChOk (X i)) {k : Nat} (hk : k ≤ n) : restK (layF X n) k = tl X k (n - k) ∧ failK (layF X n) k < 0 := by
  induction k with
  | zero =>
    have := layF_tl X 0 n
    rw [Nat.zero_add, layF, List.nil_append] at this
    exact ⟨by rw [restK, this, Nat.sub_zero], by simp [failK]⟩
  | succ k ih =>
    obtain ⟨h1, h2⟩ := ih (by omega)
    obtain ⟨j, hj⟩ : ∃ j, n - k = j + 1 := ⟨n - k - 1, by omega⟩
    have h3 := take_chB (h k (by omega)) (tl X (k + 1) j)
    rw [hj, tl] at h1
    refine ⟨by rw [restK, h1, h3.2.2, show n - (k + 1) = j by omega], failK_next h2 (by rw [h1]; exact h3.1)⟩
theorem parC_lay {X : Nat → Chg} {n : Nat} (h : ∀ i, i < n → ChOk (X i)) {k : Nat} (hk : k < n) : parC (layF X n) k = bareC (X k) := by
  obtain ⟨j, hj⟩ : ∃ j, n - k = j + 1 := ⟨n - k - 1, by omega⟩
  unfold parC
  rw [(rest_tl h (by omega)).1, hj, tl, (take_chB (h k hk) _).2.1]
theorem hasKey_congr {X Y : Nat → Chg} {key : List Nat} {n : Nat} (h : ∀ i, i < n → (X i).key = (Y i).key) : hasKey X key n = hasKey Y key n := by
  induction n with
  | zero => rfl
  | succ n ih => rw [hasKey, hasKey, ih (fun i hi => h i (by omega)), h n (by omega)]
theorem repN_congr {X Y : Nat → Chg} {n : Nat} (h : ∀ i, i < n → (X i).key = (Y i).key) : repN X n = repN Y n := by
  induction n with
  | zero => rfl
  | succ n ih => rw [repN, repN, ih (fun i hi => h i (by omega)), hasKey_congr (Y := Y) (fun i hi => h i (by omega)), h n (by omega)]
theorem bareC_key (x : Chg) : (bareC x).key = x.key := by
  unfold bareC
  split <;> rfl
theorem numN_lay {X : Nat → Chg} {n : Nat} (h : n ≤ 64) : numN (layN X n) = n := by
  unfold numN layN
  simp
  omega
theorem drop_lay (X : Nat → Chg) (n : Nat) : (layN X n).drop 2 = layF X n := rfl
theorem parse_lay {X : Nat → Chg} {n : Nat} (hn : n ≤ 64) (h : ∀ i, i < n → ChOk (X i)) (hr : repN X n < 0) : parseE (layN X n) = (0, 0) := by
  have h1 := rest_tl h (Nat.le_refl n)
  have h2 : repN (parC (layF X n)) n = repN X n := repN_congr fun i hi => by rw [parC_lay h hi, bareC_key]
  unfold parseE
  rw [numN_lay hn, drop_lay, if_neg (by simp [layN]), if_neg (by omega), if_neg (by omega), h1.1, Nat.sub_self, tl, if_neg (by simp), h2, if_neg (by omega)]
theorem chB_take {xs : List Nat} (h : takeE xs = 0) (hB : IsB xs) : chB (takeC xs) ++ takeR xs = xs ∧ long (takeC xs) = false := by
  have hl : 33 ≤ xs.length := by
    unfold takeE at h
    split at h
    · cases h
    · omega
  obtain ⟨x, r, rfl⟩ : ∃ x r, xs = x :: r := by
    cases xs with
    | nil => simp at hl
    | cons x r => exact ⟨x, r, rfl⟩
  simp only [List.length_cons] at hl
  by_cases h2 : x = 2
  · subst h2
    have hC : takeC (2 :: r) = ⟨r.take 32, true, []⟩ := by unfold takeC; rw [if_pos (by rfl)]; rfl
    have hR : takeR (2 :: r) = r.drop 32 := by unfold takeR; rw [if_pos (by rfl)]; rfl
    rw [hC, hR]
    refine ⟨?_, rfl⟩
    unfold chB
    rw [if_pos rfl, List.cons_append, List.take_append_drop]
  · unfold takeE at h
    simp only [List.getD_cons_zero, List.length_cons] at h
    rw [if_neg (by omega), if_neg h2] at h
    split at h
    · rename_i h1
      subst h1
      split at h
      · cases h
      · split at h
        · cases h
        · split at h
          · cases h
          · rename_i a1 a2 a3
            simp only [List.drop_succ_cons] at a2 a3
            obtain ⟨y0, y1, t, ht⟩ : ∃ y0 y1 t, r.drop 32 = y0 :: y1 :: t := by
              have : 2 ≤ (r.drop 32).length := by rw [List.length_drop]; omega
              cases hq : r.drop 32 with
              | nil => rw [hq] at this; simp at this
              | cons y0 s =>
                cases s with
                | nil => rw [hq] at this; simp at this
                | cons y1 t => exact ⟨y0, y1, t, rfl⟩
            have hnum : numN (r.drop 32) = y0 + 256 * y1 := by rw [ht]; rfl
            have hd34 : r.drop 34 = t := by rw [show (34 : Nat) = 32 + 2 from rfl, ← List.drop_drop, ht]; rfl
            have htl : t.length = r.length - 34 := by rw [← hd34, List.length_drop]
            have hy0 : y0 < 256 := hB y0 (List.mem_cons_of_mem _ (List.mem_of_mem_drop (i := 32) (by rw [ht]; simp)))
            have hy1 : y1 < 256 := hB y1 (List.mem_cons_of_mem _ (List.mem_of_mem_drop (i := 32) (by rw [ht]; simp)))
            have hvl : (t.take (y0 + 256 * y1)).length = y0 + 256 * y1 := by rw [List.length_take]; omega
            have hC : takeC (1 :: r) = ⟨r.take 32, false, t.take (y0 + 256 * y1)⟩ := by
              unfold takeC
              rw [if_neg (by simp)]
              simp only [List.drop_succ_cons, List.drop_zero, hnum, hd34]
            have hR : takeR (1 :: r) = t.drop (y0 + 256 * y1) := by
              unfold takeR
              rw [if_neg (by simp)]
              simp only [List.drop_succ_cons, hnum, hd34]
            rw [hC, hR]
            refine ⟨?_, ?_⟩
            · unfold chB
              rw [if_neg (by simp)]
              simp only [hvl]
              rw [show (y0 + 256 * y1) % 256 = y0 by omega, show (y0 + 256 * y1) / 256 % 256 = y1 by omega]
              simp only [List.cons_append, List.append_assoc, List.take_append_drop]
              rw [← ht, List.take_append_drop]
            · unfold long
              simp only [hvl]
              simp
              omega
    · cases h
theorem takeR_isB {xs : List Nat} (hB : IsB xs) : IsB (takeR xs) := by
  unfold takeR
  split
  · exact hB.drop _
  · exact (hB.drop _).drop _
theorem restK_isB {xs : List Nat} (hB : IsB xs) (k : Nat) : IsB (restK xs k) := by
  induction k with
  | zero => exact hB
  | succ k ih => exact takeR_isB ih
theorem failK_all {r : List Nat} {n k : Nat} (h : failK r n < 0) (hk : k < n) : takeE (restK r k) = 0 ∧ failK r k < 0 := by
  have h1 : failK r (k + 1) < 0 := by
    by_cases h0 : 0 ≤ failK r (k + 1)
    · have := failK_keep (show k + 1 ≤ n by omega) h0
      omega
    · omega
  have h2 : failK r k < 0 := by
    by_cases h0 : 0 ≤ failK r k
    · have := failK_keep (show k ≤ n by omega) h0
      omega
    · omega
  refine ⟨?_, h2⟩
  by_cases he : takeE (restK r k) = 0
  · exact he
  · rw [failK_here h2 he] at h1
    omega
/-- What is taken: its parts. -/
theorem parse_ok {raw : List Nat} (h : (parseE raw).1 = 0) : 2 ≤ raw.length ∧ numN raw ≤ 64 ∧ failK (raw.drop 2) (numN raw) < 0 ∧ restK (raw.drop 2) (numN raw) = [] ∧ repN (parC (raw.drop 2)) (numN raw) < 0 ∧ parseE raw = (0, 0) := by
  have h' := h
  unfold parseE at h
  split at h
  · cases h
  · split at h
    · cases h
    · split at h
      · rename_i a1 a2 a3
        exfalso
        have hk : ∃ k, failK (raw.drop 2) (numN raw) = (k : Nat) := ⟨(failK (raw.drop 2) (numN raw)).toNat, by omega⟩
        obtain ⟨k, hk⟩ := hk
        rw [hk, Int.toNat_natCast] at h
        have key : ∀ n k : Nat, failK (raw.drop 2) n = k → ¬ takeE (restK (raw.drop 2) k) = 0 := fun n => by
          induction n with
          | zero => intro k e; simp [failK] at e
          | succ n ih =>
            intro k e
            rw [failK] at e
            split at e
            · exact ih k e
            · split at e
              · omega
              · rename_i h3
                have : n = k := by omega
                rw [← this]
                exact h3
        exact key _ _ hk h
      · split at h
        · cases h
        · split at h
          · cases h
          · rename_i a1 a2 a3 a4 a5
            refine ⟨by omega, by omega, by omega, List.eq_nil_of_length_eq_zero (by omega), by omega, ?_⟩
            unfold parseE
            rw [if_neg a1, if_neg a2, if_neg a3, if_neg a4, if_neg a5]
theorem lay_parse {raw : List Nat} (h : (parseE raw).1 = 0) (hB : IsB raw) : layN (parC (raw.drop 2)) (numN raw) = raw ∧ rightB (parC (raw.drop 2)) (numN raw) 64 = true := by
  obtain ⟨h1, h2, h3, h4, h5, _⟩ := parse_ok h
  have each : ∀ k, k ≤ numN raw → layF (parC (raw.drop 2)) k ++ restK (raw.drop 2) k = raw.drop 2 := fun k => by
    induction k with
    | zero => intro _; rfl
    | succ k ih =>
      intro hk
      have ht := chB_take (failK_all h3 (show k < numN raw by omega)).1 (restK_isB (hB.drop 2) k)
      rw [layF, restK, List.append_assoc]
      unfold parC
      rw [ht.1]
      exact ih (by omega)
  have hlay : layF (parC (raw.drop 2)) (numN raw) = raw.drop 2 := by
    have := each _ (Nat.le_refl _)
    rwa [h4, List.append_nil] at this
  refine ⟨?_, rightB_iff.2 ⟨?_, h5⟩⟩
  · obtain ⟨y0, y1, t, rfl⟩ : ∃ y0 y1 t, raw = y0 :: y1 :: t := by
      cases raw with
      | nil => simp at h1
      | cons y0 s =>
        cases s with
        | nil => simp at h1
        | cons y1 t => exact ⟨y0, y1, t, rfl⟩
    have hy0 : y0 < 256 := hB y0 (by simp)
    have hy1 : y1 < 256 := hB y1 (by simp)
    unfold layN
    rw [hlay]
    show _ :: _ :: t = _
    have hn : numN (y0 :: y1 :: t) = y0 + 256 * y1 := rfl
    rw [hn, show (y0 + 256 * y1) % 256 = y0 by omega, show (y0 + 256 * y1) / 256 % 256 = y1 by omega]
  · unfold heldN
    rw [if_neg (by omega)]
    have : ∀ k, k ≤ numN raw → anyLong (parC (raw.drop 2)) k = false := fun k => by
      induction k with
      | zero => intro _; rfl
      | succ k ih =>
        intro hk
        rw [anyLong, ih (by omega), (show long (parC (raw.drop 2) k) = false from (chB_take (failK_all h3 (show k < numN raw by omega)).1 (restK_isB (hB.drop 2) k)).2)]
        rfl
    rw [this _ (Nat.le_refl _)]
    rfl
end Go.Proofs.Ytkpbeibcfaenhaa
