/- Normal and Fold of right lists, in the words of plain lists. -/
import Derived.Test.YtkpbeibcfaenhaaKeysOf
namespace Go.Proofs.Ytkpbeibcfaenhaa
open Go.RowKit
/-- A right list in memory; in order it is a. -/
structure Src (w : World) (A : Option Addr) (N : Nat) (X : Nat → Chg) (a : List Chg) : Prop where
  at_ : ChsAt w A N X
  nrm : nrm X N = a
  nice : Nice a
  ok : wrongN X N 4096 = 0
  few : N ≤ 4096
  len : ∀ k, k < N → (X k).val.length ≤ 140737488355328
section
variable {w w' : World} {A B : Option Addr} {N M : Nat} {X Y : Nat → Chg} {a b : List Chg}
theorem Src.below (h : Src w A N X a) (hb : Below w.heap.size w w') : Src w' A N X a := { h with at_ := h.at_.below hb }
theorem Src.length (h : Src w A N X a) : a.length = N := by rw [← h.nrm, nrm_length]
theorem Src.of (h : ChsAt w A N X) (hl : ∀ k, k < N → (X k).val.length ≤ 140737488355328) (hr : rightB X N 64 = true) : Src w A N X (Go.Proofs.Ytkpbeibcfaenhaa.nrm X N) := by
  obtain ⟨h1, h2⟩ := rightB_iff.1 hr
  have h3 := heldN_le h1
  have h4 : wrongN X N 4096 = 0 := by
    unfold wrongN heldN
    rw [if_neg (show ¬ 4096 < N by omega), h3.2, if_neg (show ¬ (false = true) by simp), if_pos rfl, if_neg (by omega)]
  exact { at_ := h, nrm := rfl, nice := nice_nrm (chsat_good h) h4, ok := h4, few := by omega, len := hl }
theorem Src.nil (w : World) : Src w none 0 (fun _ => default) [] :=
  { at_ := ⟨Nat.zero_le _, fun k hk => by omega⟩, nrm := by unfold Go.Proofs.Ytkpbeibcfaenhaa.nrm; simp [lst], nice := { ss := List.Pairwise.nil, good := (fun x hx => by cases hx), plain := (fun x hx => by cases hx) }, ok := by decide, few := Nat.zero_le _, len := fun k hk => by omega }
theorem Src.made {Z : Nat → Chg} {l : List Chg} (h : ChsAt w A l.length Z) (hl : lst Z l.length = l) (hn : Nice l) (hf : l.length ≤ 4096) : Src w A l.length Z l := by
  have hn' : Nice (lst Z l.length) := by rw [hl]; exact hn
  exact { at_ := h, nrm := (nice_is hn').trans hl, nice := hn, ok := nice_wrong hn' hf, few := hf, len := (fun k hk => by have := hn'.short (Z k) (mem_lst.2 ⟨k, hk, rfl⟩); omega) }
def FoldRet (l : List Chg) (w : World) (e : Ending) (w' : World) : Prop := ∃ A C Z, e = .returned (.tuple #[.slice A l.length C, .int .i64 0]) ∧ Src w' A l.length Z l ∧ lst Z l.length = l ∧ Below w.heap.size w w'
theorem fold_src (c d : Nat) (h : Src w A N X a) (k : Src w B M Y b) (hl : (foldL a b).length ≤ 64) : Calls Try.prog 33 #[.slice A N c, .slice B M d] w (FoldRet (foldL a b) w) := by
  have hE : foldE X N Y M = 0 := by rw [foldE_both h.ok k.ok, h.nrm, k.nrm, if_neg (by omega)]
  have hO : foldO X N Y M = foldL a b := by unfold foldO; rw [if_pos hE, h.nrm, k.nrm]
  refine (fold_any A B N M c d X Y w h.at_ k.at_ (by have := h.few; omega) (by have := k.few; omega) h.len k.len).mono ?_
  intro e w' hp
  obtain ⟨A', C', Z, he, hc, _, hz, hb⟩ := fold_form hp
  rw [hO] at he hc hz
  rw [hE] at he
  exact ⟨A', C', Z, he, Src.made hc hz (h.nice.fold k.nice) (by omega), hz, hb⟩
theorem norm_src (c : Nat) (h : Src w A N X a) : Calls Try.prog 30 #[.slice A N c] w (FoldRet a w) := by
  refine (normal_any A N c X w h.at_ (by have := h.few; omega) h.len).mono ?_
  intro e w' hp
  obtain ⟨A', C', Z, he, hc, _, hz, hb⟩ := norm_open hp (chsat_good h.at_)
  obtain ⟨hm, hz, _⟩ := hz h.ok
  have hln := h.length
  rw [h.ok] at he
  rw [hm, ← hln] at he hc
  rw [h.nrm, ← hln] at hz
  exact ⟨A', C', Z, he, Src.made hc hz h.nice (by rw [hln]; exact h.few), hz, hb⟩
theorem keys_src (c d : Nat) (h : Src w A N X a) (k : Src w B M Y b) : Calls Try.prog 34 #[.slice A N c, .slice B M d] w fun e w' => e = .returned (.int .i64 ((foldL a b).length : Nat)) ∧ ∃ q, w' = w.drewN q := by
  have h1 := keysOf_any A B N M c d X Y w h.at_ k.at_ h.few k.few
  have h2 := fold_count (X := X) (Y := Y) (N := N) (M := M) (by rw [h.nrm]; exact h.nice) (by rw [k.nrm]; exact k.nice)
  rw [h.nrm, k.nrm] at h2
  rw [h2]
  exact h1
theorem same_src (c d : Nat) {l : List Chg} {Z Z' : Nat → Chg} (h : ChsAt w A l.length Z) (k : ChsAt w B l.length Z') (hz : lst Z l.length = l) (hz' : lst Z' l.length = l) : Calls Try.prog 24 #[.slice A l.length c, .slice B l.length d] w fun e w' => e = .returned (.bool true) ∧ ∃ q, w' = w.drewN q :=
  sameC_true A B l.length c d Z Z' w h k (lst_inj (hz.trans hz'.symm))
end
end Go.Proofs.Ytkpbeibcfaenhaa
