/- The Book beside the lists that were asked for: the calls of put and held in these terms. -/
import Derived.Test.YtbjbpgbpefkbhaaDoorHeldB
import Derived.Test.YtbjbpgbpefkbhaaDoorAsk
namespace Go.Proofs.YtbjbpgbpefkbhaaDoor
open Go.RowKit
/-- a lists in the Book, b lists that were asked for; all their blocks lie below M. -/
def KSt (w0 w : World) (M gb a b : Nat) (va : Value) (zf : Nat → List Nat) : Prop :=
  ∃ Q H C ys, Book w gb w0.heap.size Q H C ∧ Q.length = a ∧ Asked w w0.heap.size va ys zf 0 H C ∧ ys.length = b ∧ Below w0.heap.size w0 w ∧
    (∀ B, H B ∨ C B → B < M) ∧ (∀ B, va.ownBlock = some B → B < M) ∧ (∀ (i : Nat) (y : Value) (B : Nat), ys[i]? = some y → y.ownBlock = some B → B < M) ∧ M ≤ w.heap.size ∧ w0.heap.size ≤ M
section
variable {w0 w w' : World} {M gb a b k : Nat} {va : Value} {zf : Nat → List Nat}
theorem KSt.keep (h : KSt w0 w M gb a b va zf) (hb : Below w.heap.size w w') : KSt w0 w' M gb a b va zf := by
  obtain ⟨Q, H, C, ys, h1, h2, h3, h4, h5, h6, h7, h8, h9, h10⟩ := h
  exact ⟨Q, H, C, ys, h1.below hb, h2, h3.below hb, h4, h5.trans (hb.mono h5.size), h6, h7, h8, Nat.le_trans h9 hb.size, h10⟩
theorem KSt.below (h : KSt w0 w M gb a b va zf) : Below w0.heap.size w0 w := by
  obtain ⟨Q, H, C, ys, h1, h2, h3, h4, h5, h6⟩ := h
  exact h5
theorem KSt.le (h : KSt w0 w M gb a b va zf) : M ≤ w.heap.size := by
  obtain ⟨Q, H, C, ys, h1, h2, h3, h4, h5, h6, h7, h8, h9, h10⟩ := h
  exact h9
theorem KSt.ge (h : KSt w0 w M gb a b va zf) : w0.heap.size ≤ M := by
  obtain ⟨Q, H, C, ys, h1, h2, h3, h4, h5, h6, h7, h8, h9, h10⟩ := h
  exact h10
theorem put_K (l : Value) (xs : List Nat) (h : KSt w0 w M gb a b va zf) (hl : OwnU w w0.heap.size l xs) (hM : ∀ B, l.ownBlock = some B → M ≤ B) (hn : xs.length ≤ 1073741824) (ha : a ≤ 1073741824) :
    Calls Tryd.prog 25 #[.pointer (some ⟨gb, 0, none⟩), l] w fun e w' => e = .returned (.tuple #[]) ∧ KSt w0 w' w'.heap.size gb (a + 1) b va zf ∧ Touch (fun B => B < M ∨ l.ownBlock = some B) w w' := by
  obtain ⟨Q, H, C, ys, h1, h2, h3, h4, h5, h6, h7, h8, h9, h10⟩ := h
  refine (bookPut_any gb w0.heap.size Q H C l xs w h1 hl (fun B hB => ?_) hn (by omega) h5.size).mono ?_
  · have := hM B hB
    exact ⟨fun e => by have := h6 B (.inl e); omega, fun e => by have := h6 B (.inr e); omega⟩
  · rintro e w' ⟨rfl, q, H', C', k1, k2, k3⟩
    have hs := k3.size
    have hHC : ∀ B, H' B ∨ C' B → B < w'.heap.size := k1.bound
    refine ⟨rfl, ⟨Q ++ [q], H', C', ys, k1, by simp [h2], h3.step k3 (fun B hB hU => ?_) (fun i y B _ hy hB hU => ?_) (Nat.le_refl _) (fun B hB => ?_), h4, k3.toBelow h5 h5.size (fun B hU => ?_), hHC, fun B hB => ?_, fun i y B hy hB => ?_, Nat.le_refl _, Nat.le_trans h5.size hs⟩, k3.mono fun B _ hU => hU.imp (fun e => h6 B (.inl e)) id⟩
    · rcases hU with hU | hU
      · exact (h3.rowOut B hB).1 hU
      · have := h7 B hB
        have := hM B hU
        omega
    · rcases hU with hU | hU
      · exact (h3.out i y B (Nat.zero_le _) hy hB).1 hU
      · have := h8 i y B hy hB
        have := hM B hU
        omega
    · rcases k2 B hB with e | e | e | e
      · exact .inl e
      · exact .inr (.inl e)
      · exact .inr (.inr (.inl (.inr e)))
      · exact .inr (.inr (.inr e.1))
    · rcases hU with hU | hU
      · exact h1.boundLow B (.inl hU)
      · exact (hl.lt B hU).1
    · have := h7 B hB
      omega
    · have := h8 i y B hy hB
      omega
theorem held_K (h : KSt w0 w M gb a b va zf) (ha : a ≤ 1073741824) :
    Calls Tryd.prog 23 #[.pointer (some ⟨gb, 0, none⟩)] w fun e w' => e = .returned (.bool true) ∧ w' = w := by
  obtain ⟨Q, H, C, ys, h1, h2, _⟩ := h
  exact held_any gb w0.heap.size Q H C w h1 (by omega)
/-- The Book while the lists that were asked for, from the k-th on, go into it. -/
def K3 (w0 w : World) (gb a k : Nat) (va : Value) (ys : List Value) (zf : Nat → List Nat) : Prop :=
  ∃ Q H C, Book w gb w0.heap.size Q H C ∧ Q.length = a + k ∧ Asked w w0.heap.size va ys zf k H C ∧ Below w0.heap.size w0 w
theorem KSt.three (h : KSt w0 w M gb a b va zf) : ∃ ys, ys.length = b ∧ K3 w0 w gb a 0 va ys zf := by
  obtain ⟨Q, H, C, ys, h1, h2, h3, h4, h5, h6⟩ := h
  exact ⟨ys, h4, Q, H, C, h1, by omega, h3, h5⟩
theorem K3.keep {ys : List Value} (h : K3 w0 w gb a k va ys zf) (hb : Below w.heap.size w w') : K3 w0 w' gb a k va ys zf := by
  obtain ⟨Q, H, C, h1, h2, h3, h4⟩ := h
  exact ⟨Q, H, C, h1.below hb, h2, h3.below hb, h4.trans (hb.mono h4.size)⟩
theorem K3.below {ys : List Value} (h : K3 w0 w gb a k va ys zf) : Below w0.heap.size w0 w := by
  obtain ⟨Q, H, C, h1, h2, h3, h4⟩ := h
  exact h4
/-- The k-th list, as the walk reads it. -/
theorem K3.at_ {ys : List Value} {i : Nat} (h : K3 w0 w gb a k va ys zf) (hi : i < ys.length) (hk : k ≤ i) : ∃ g c A d, va = .slice (some ⟨g, 0, none⟩) ys.length c ∧ w.cell? ⟨g, i, none⟩ = some (.slice A (zf i).length d) ∧ ys[i]? = some (.slice A (zf i).length d) ∧ OwnU w w0.heap.size (.slice A (zf i).length d) (zf i) := by
  obtain ⟨Q, H, C, h1, h2, h3, h4⟩ := h
  obtain ⟨g, c, e1, e2⟩ := row_at h3.row hi
  have hy : ys[i]? = some ys[i] := List.getElem?_eq_getElem hi
  have ho := h3.own i _ hk hy
  obtain ⟨A, d, e3, _⟩ := ho.form
  rw [hy] at e2
  rw [e3] at e2 hy ho
  exact ⟨g, c, A, d, e1, e2, hy, ho⟩
theorem K3.form {ys : List Value} {Aa : Option Addr} {n ca i : Nat} (h : K3 w0 w gb a k (.slice Aa n ca) ys zf) (hi : i < ys.length) (hk : k ≤ i) : ∃ g A d, Aa = some ⟨g, 0, none⟩ ∧ w.cell? ⟨g, i, none⟩ = some (.slice A (zf i).length d) ∧ ys[i]? = some (.slice A (zf i).length d) ∧ OwnU w w0.heap.size (.slice A (zf i).length d) (zf i) := by
  obtain ⟨g, c, A, d, e1, e2, e3, e4⟩ := h.at_ hi hk
  injection e1 with a1 _ _
  exact ⟨g, A, d, a1, e2, e3, e4⟩
theorem put_3 {ys : List Value} (y : Value) (h : K3 w0 w gb a k va ys zf) (hy : ys[k]? = some y) (hn : (zf k).length ≤ 1073741824) (ha : a + k ≤ 1073741824) :
    Calls Tryd.prog 25 #[.pointer (some ⟨gb, 0, none⟩), y] w fun e w' => e = .returned (.tuple #[]) ∧ K3 w0 w' gb a (k + 1) va ys zf := by
  obtain ⟨Q, H, C, h1, h2, h3, h4⟩ := h
  have hl := h3.own k y (Nat.le_refl _) hy
  refine (bookPut_any gb w0.heap.size Q H C y (zf k) w h1 hl (fun B hB => h3.out k y B (Nat.le_refl _) hy hB) hn (by omega) h4.size).mono ?_
  rintro e w' ⟨rfl, q, H', C', k1, k2, k3⟩
  refine ⟨rfl, Q ++ [q], H', C', k1, by simp [h2]; omega, h3.step k3 (fun B hB hU => ?_) (fun i z B hi hz hB hU => ?_) (Nat.le_succ _) (fun B hB => ?_), k3.toBelow h4 h4.size (fun B hU => ?_)⟩
  · rcases hU with hU | hU
    · exact (h3.rowOut B hB).1 hU
    · exact h3.rowApart k y (Nat.le_refl _) hy B hB hU
  · rcases hU with hU | hU
    · exact (h3.out i z B (by omega) hz hB).1 hU
    · exact h3.apart k i y z (Nat.le_refl _) (by omega) (by omega) hy hz B hU hB
  · rcases k2 B hB with e | e | e | e
    · exact .inl e
    · exact .inr (.inl e)
    · exact .inr (.inr (.inl (.inr e)))
    · exact .inr (.inr (.inr e.1))
  · rcases hU with hU | hU
    · exact h1.boundLow B (.inl hU)
    · exact (hl.lt B hU).1
theorem held_3 {ys : List Value} (h : K3 w0 w gb a k va ys zf) (ha : a + k ≤ 1073741824) :
    Calls Tryd.prog 23 #[.pointer (some ⟨gb, 0, none⟩)] w fun e w' => e = .returned (.bool true) ∧ w' = w := by
  obtain ⟨Q, H, C, h1, h2, _⟩ := h
  exact held_any gb w0.heap.size Q H C w h1 (by omega)
theorem row_len {w : World} {base : Nat} {v : Value} {xs : List Value} (h : RowB w base v xs) : ∃ A c, v = .slice A xs.length c := by
  rcases h.2 with ⟨e, e2⟩ | ⟨g, cap, cur, e, _⟩
  · rw [e2] at *
    exact ⟨none, 0, e⟩
  · exact ⟨_, _, e⟩
theorem KSt.len (h : KSt w0 w M gb a b va zf) : ∃ A c, va = .slice A b c := by
  obtain ⟨Q, H, C, ys, h1, h2, h3, h4, h5, h6⟩ := h
  rw [← h4]
  exact row_len h3.row
/-- Two lists more. -/
theorem KSt.push {va' y1 y2 : Value} {N1 : Nat} {ys : List Value} {Q : List Quad} {H C : Nat → Prop} (h1 : Book w gb w0.heap.size Q H C) (h2 : Q.length = a) (h3 : Asked w w0.heap.size va ys zf 0 H C) (h4 : ys.length = b) (h5 : Below w0.heap.size w0 w)
    (h6 : ∀ B, H B ∨ C B → B < M) (h7 : ∀ B, va.ownBlock = some B → B < M) (h8 : ∀ (i : Nat) (y : Value) (B : Nat), ys[i]? = some y → y.ownBlock = some B → B < M)
    (o1 : OwnU w w0.heap.size y1 (zf b)) (o2 : OwnU w w0.heap.size y2 (zf (b + 1))) (b1 : ∀ B, y1.ownBlock = some B → M ≤ B ∧ B < N1) (b2 : ∀ B, y2.ownBlock = some B → N1 ≤ B) (hMN : M ≤ N1)
    (hr : RowB w' w0.heap.size va' (ys ++ [y1, y2])) (hg : w.grownBy w' va.ownBlock) (hl : Lies w va va') : KSt w0 w' w'.heap.size gb a (b + 2) va' zf := by
  have hs := hg.size
  have two : ∀ (i : Nat) (y : Value), [y1, y2][i]? = some y → i = 0 ∧ y = y1 ∨ i = 1 ∧ y = y2 := fun i y hy => by
    match i, hy with
    | 0, hy => exact .inl ⟨rfl, by simpa using hy.symm⟩
    | 1, hy => exact .inr ⟨rfl, by simpa using hy.symm⟩
    | n + 2, hy => simp at hy
  have low : ∀ (i : Nat) (y : Value) (B : Nat), [y1, y2][i]? = some y → y.ownBlock = some B → M ≤ B := fun i y B hy hB => by
    rcases two i y hy with ⟨rfl, rfl⟩ | ⟨rfl, rfl⟩
    · exact (b1 B hB).1
    · have := b2 B hB
      omega
  have hA := h3.push (us := [y1, y2]) (w' := w') (va' := va') (fun i y hy => by
      rcases two i y hy with ⟨rfl, rfl⟩ | ⟨rfl, rfl⟩
      · rw [h4]; exact o1
      · rw [h4]; exact o2) (fun i j y z hij hy hz => by
      rcases two i y hy with ⟨rfl, rfl⟩ | ⟨rfl, rfl⟩
      · rcases two j z hz with ⟨rfl, rfl⟩ | ⟨rfl, rfl⟩
        · exact absurd rfl hij
        · intro B hB hB'
          have := (b1 B hB).2
          have := b2 B hB'
          omega
      · rcases two j z hz with ⟨rfl, rfl⟩ | ⟨rfl, rfl⟩
        · intro B hB hB'
          have := (b1 B hB').2
          have := b2 B hB
          omega
        · exact absurd rfl hij) (fun i y B hy hB => by
      have hlow := low i y B hy hB
      exact ⟨fun e => by have := h6 B (.inl e); omega, fun e => by have := h6 B (.inr e); omega, fun e => by have := h7 B e; omega, fun j x hx e => by have := h8 j x B hx e; omega⟩) hg hr hl fun B hB => h1.bound B hB
  have hbk : Book w' gb w0.heap.size Q H C := h1.touch (Touch.grown hg) fun B hB e => by
    have hB' : va.ownBlock = some B := e.symm
    have := h3.rowOut B hB'
    rcases hB with hB | hB
    · exact this.1 hB
    · exact this.2 hB
  refine ⟨Q, H, C, ys ++ [y1, y2], hbk, h2, hA, by simp [h4], h5.grown hg h5.size (fun B hB => (h3.row.lt B hB).1), fun B hB => hbk.bound B hB, fun B hB => (hA.row.lt B hB).2, fun i y B hy hB => (hA.lt (Nat.zero_le _) hy hB).2, Nat.le_refl _, Nat.le_trans h5.size hs⟩
end
end Go.Proofs.YtbjbpgbpefkbhaaDoor
