/- ledgerlaw3.BatchCuts: the plain law. -/
import Derived.Test.YtkpbeibcfaenhaaBackN
namespace Go.Proofs.Ytkpbeibcfaenhaa
open Go.RowKit
theorem cut_chB {x : Chg} (h : ChOk x) {q : Nat} (hq : q < (chB x).length) : takeE ((chB x).take q) = 30 := by
  obtain ⟨ky, dl, vl⟩ := x
  have hk : ky.length = 32 := h.kl
  by_cases h33 : q < 33
  · unfold takeE
    rw [if_pos (by rw [List.length_take]; omega)]
  cases dl
  · have hs : vl.length ≤ 128 := h.short rfl
    have e : chB ⟨ky, false, vl⟩ = 1 :: (ky ++ (vl.length % 256 :: vl.length / 256 % 256 :: vl)) := by
      unfold chB
      simp
    have hcl : (chB ⟨ky, false, vl⟩).length = 35 + vl.length := by rw [e]; simp [hk]; omega
    rw [hcl] at hq
    have hl : ((chB ⟨ky, false, vl⟩).take q).length = q := by rw [List.length_take, hcl]; omega
    have h0 : ((chB ⟨ky, false, vl⟩).take q).getD 0 0 = 1 := by
      obtain ⟨p, rfl⟩ : ∃ p, q = p + 1 := ⟨q - 1, by omega⟩
      rw [e, List.take_succ_cons]
      rfl
    unfold takeE
    rw [hl, h0, if_neg (by omega), if_neg (by omega), if_pos rfl]
    by_cases h35 : q < 35
    · rw [if_pos h35]
    · have hd : ((chB ⟨ky, false, vl⟩).take q).drop 33 = vl.length % 256 :: vl.length / 256 % 256 :: vl.take (q - 35) := by
        obtain ⟨p, rfl⟩ : ∃ p, q = p + 35 := ⟨q - 35, by omega⟩
        rw [List.drop_take, e, List.drop_succ_cons, List.drop_left' hk, show p + 35 - 33 = (p + 1) + 1 by omega, List.take_succ_cons, List.take_succ_cons]
        simp
      have hn : numN (((chB ⟨ky, false, vl⟩).take q).drop 33) = vl.length := by
        rw [hd]
        unfold numN
        simp
        omega
      rw [if_neg h35, hn, if_neg (by omega), if_pos (by omega)]
  · exfalso
    have : (chB ⟨ky, true, vl⟩).length = 33 := by unfold chB; simp [hk]
    omega
theorem rest_more {X : Nat → Chg} {n : Nat} (h : ∀ i, i < n → ChOk (X i)) (t : List Nat) {k : Nat} (hk : k ≤ n) : restK (layF X n ++ t) k = tl X k (n - k) ++ t ∧ failK (layF X n ++ t) k < 0 := by
  induction k with
  | zero =>
    have := layF_tl X 0 n
    rw [Nat.zero_add, layF, List.nil_append] at this
    exact ⟨by rw [restK, this, Nat.sub_zero], by simp [failK]⟩
  | succ k ih =>
    obtain ⟨h1, h2⟩ := ih (by omega)
    obtain ⟨j, hj⟩ : ∃ j, n - k = j + 1 := ⟨n - k - 1, by omega⟩
    have h3 := take_chB (h k (by omega)) (tl X (k + 1) j ++ t)
    rw [hj, tl, List.append_assoc] at h1
    refine ⟨by rw [restK, h1, h3.2.2, show n - (k + 1) = j by omega], failK_next h2 (by rw [h1]; exact h3.1)⟩
theorem rest_cut {X : Nat → Chg} {n i : Nat} (h : ∀ i, i < n → ChOk (X i)) (hi : i ≤ n) {q : Nat} {k : Nat} (hk : k ≤ i) :
    restK ((layF X n).take ((layF X i).length + q)) k = (tl X k (n - k)).take ((layF X i).length + q - (layF X k).length) ∧ failK ((layF X n).take ((layF X i).length + q)) k < 0 := by
  induction k with
  | zero =>
    have := layF_tl X 0 n
    rw [Nat.zero_add, layF, List.nil_append] at this
    exact ⟨by rw [restK, this, Nat.sub_zero]; rfl, by simp [failK]⟩
  | succ k ih =>
    obtain ⟨h1, h2⟩ := ih (by omega)
    obtain ⟨j, hj⟩ : ∃ j, n - k = j + 1 := ⟨n - k - 1, by omega⟩
    have hmono : ∀ a b, (layF X a).length ≤ (layF X (a + b)).length := fun a b => by rw [layF_tl, List.length_append]; omega
    have hle : (layF X (k + 1)).length ≤ (layF X i).length := by
      have := hmono (k + 1) (i - (k + 1))
      rwa [show k + 1 + (i - (k + 1)) = i by omega] at this
    have hs : (layF X (k + 1)).length = (layF X k).length + (chB (X k)).length := by rw [layF, List.length_append]
    rw [hj, tl, List.take_append, List.take_of_length_le (l := chB (X k)) (by omega)] at h1
    have h3 := take_chB (h k (by omega)) ((tl X (k + 1) j).take ((layF X i).length + q - (layF X k).length - (chB (X k)).length))
    refine ⟨?_, failK_next h2 (by rw [h1]; exact h3.1)⟩
    rw [restK, h1, h3.2.2, show n - (k + 1) = j by omega, hs]
    congr 1
    omega
/-- Cut behind the head: the change that is cut is told. -/
theorem parse_cut {X : Nat → Chg} {n i q : Nat} (hn : n ≤ 64) (h : ∀ i, i < n → ChOk (X i)) (hi : i < n) (hq : q < (chB (X i)).length) : parseE ((layN X n).take (2 + (layF X i).length + q)) = (30, (i : Int)) := by
  have he : (layN X n).take (2 + (layF X i).length + q) = n % 256 :: n / 256 % 256 :: (layF X n).take ((layF X i).length + q) := by
    unfold layN
    rw [show 2 + (layF X i).length + q = ((layF X i).length + q + 1) + 1 by omega, List.take_succ_cons, List.take_succ_cons]
  have hnum : numN ((layN X n).take (2 + (layF X i).length + q)) = n := by rw [he]; unfold numN; simp; omega
  have hd : ((layN X n).take (2 + (layF X i).length + q)).drop 2 = (layF X n).take ((layF X i).length + q) := by rw [he]; rfl
  obtain ⟨h1, h2⟩ := rest_cut (q := q) h (Nat.le_of_lt hi) (Nat.le_refl i)
  obtain ⟨j, hj⟩ : ∃ j, n - i = j + 1 := ⟨n - i - 1, by omega⟩
  rw [hj, tl, show (layF X i).length + q - (layF X i).length = q by omega, List.take_append_of_le_length (by omega)] at h1
  have h3 : takeE (restK ((layF X n).take ((layF X i).length + q)) i) = 30 := by rw [h1]; exact cut_chB (h i hi) hq
  have h4 := failK_here h2 (by rw [h3]; omega)
  have h5 : failK ((layF X n).take ((layF X i).length + q)) n = i := by rw [failK_keep (show i + 1 ≤ n by omega) (by rw [h4]; omega), h4]
  unfold parseE
  rw [hnum, hd, if_neg (by rw [he]; simp), if_neg (by omega), h5, if_pos (by omega), Int.toNat_natCast, h3]
theorem parse_head {raw : List Nat} (h : raw.length < 2) : parseE raw = (30, 0) := by
  unfold parseE
  rw [if_pos h]
theorem parse_more {X : Nat → Chg} {n : Nat} (hn : n ≤ 64) (h : ∀ i, i < n → ChOk (X i)) {t : List Nat} (ht : 0 < t.length) : parseE (layN X n ++ t) = (30, (n : Int)) := by
  obtain ⟨h1, h2⟩ := rest_more h t (Nat.le_refl n)
  have hnum : numN (layN X n ++ t) = n := by unfold numN layN; simp; omega
  have hd : (layN X n ++ t).drop 2 = layF X n ++ t := rfl
  unfold parseE
  rw [hnum, hd, if_neg (by simp [layN]), if_neg (by omega), if_neg (by omega), h1, Nat.sub_self, tl, if_pos (by simpa using ht)]
theorem chB_len {x : Chg} (hk : x.key.length = 32) : (chB x).length = if x.del then 33 else 35 + x.val.length := by
  unfold chB
  split
  · simp [hk]
  · simp [hk]; omega
theorem layF_mono (X : Nat → Chg) {a b : Nat} (h : a ≤ b) : (layF X a).length ≤ (layF X b).length := by
  have := layF_tl X a (b - a)
  rw [show a + (b - a) = b by omega] at this
  rw [this, List.length_append]
  omega
end Go.Proofs.Ytkpbeibcfaenhaa
