/- The Book beside the lists that were asked for and the lists that were wanted: the call of put in these terms. -/
import Derived.Test.YtbjbpgbpefkbhaaDoorKept
namespace Go.Proofs.YtbjbpgbpefkbhaaDoor
open Go.RowKit
/-- a lists in the Book, b lists that were asked for; all their blocks lie below M; none is in Z, save what the lists that were asked for hold. -/
def KZ (w0 w : World) (M gb a b : Nat) (va : Value) (zf : Nat → List Nat) (Z : Nat → Prop) : Prop :=
  ∃ Q H C ys, Book w gb w0.heap.size Q H C ∧ Q.length = a ∧ Asked w w0.heap.size va ys zf 0 H C ∧ ys.length = b ∧ Below w0.heap.size w0 w ∧
    (∀ B, H B ∨ C B → B < M) ∧ (∀ B, va.ownBlock = some B → B < M) ∧ (∀ (i : Nat) (y : Value) (B : Nat), ys[i]? = some y → y.ownBlock = some B → B < M) ∧ M ≤ w.heap.size ∧ w0.heap.size ≤ M ∧
    (∀ B, Z B → ¬ H B ∧ ¬ C B ∧ va.ownBlock ≠ some B ∧ B < M) ∧ (∀ (i : Nat) (y : Value) (B : Nat), ys[i]? = some y → y.ownBlock = some B → ¬ Z B)
/-- The same, the lists that were asked for named. -/
def KZr (w0 w : World) (M gb a b : Nat) (va : Value) (zf : Nat → List Nat) (Z : Nat → Prop) (ys : List Value) : Prop :=
  ∃ Q H C, Book w gb w0.heap.size Q H C ∧ Q.length = a ∧ Asked w w0.heap.size va ys zf 0 H C ∧ ys.length = b ∧ Below w0.heap.size w0 w ∧
    (∀ B, H B ∨ C B → B < M) ∧ (∀ B, va.ownBlock = some B → B < M) ∧ (∀ (i : Nat) (y : Value) (B : Nat), ys[i]? = some y → y.ownBlock = some B → B < M) ∧ M ≤ w.heap.size ∧ w0.heap.size ≤ M ∧
    (∀ B, Z B → ¬ H B ∧ ¬ C B ∧ va.ownBlock ≠ some B ∧ B < M) ∧ (∀ (i : Nat) (y : Value) (B : Nat), ys[i]? = some y → y.ownBlock = some B → ¬ Z B)
theorem KZ.named {w0 w : World} {M gb a b : Nat} {va : Value} {zf : Nat → List Nat} {Z : Nat → Prop} (h : KZ w0 w M gb a b va zf Z) : ∃ ys, KZr w0 w M gb a b va zf Z ys ∧ ys.length = b ∧ RowB w w0.heap.size va ys := by
  obtain ⟨Q, H, C, ys, h1, h2, h3, h4, h5⟩ := h
  exact ⟨ys, ⟨Q, H, C, h1, h2, h3, h4, h5⟩, h4, h3.row⟩
section
variable {w0 w w' : World} {M gb a b k : Nat} {va : Value} {zf : Nat → List Nat} {Z : Nat → Prop}
theorem KZ.of (h : KSt w0 w M gb a b va zf) : KZ w0 w M gb a b va zf (fun _ => False) := by
  obtain ⟨Q, H, C, ys, h1, h2, h3, h4, h5, h6, h7, h8, h9, h10⟩ := h
  exact ⟨Q, H, C, ys, h1, h2, h3, h4, h5, h6, h7, h8, h9, h10, fun _ h => h.elim, fun _ _ _ _ _ h => h⟩
theorem KZ.st (h : KZ w0 w M gb a b va zf Z) : KSt w0 w M gb a b va zf := by
  obtain ⟨Q, H, C, ys, h1, h2, h3, h4, h5, h6, h7, h8, h9, h10, _⟩ := h
  exact ⟨Q, H, C, ys, h1, h2, h3, h4, h5, h6, h7, h8, h9, h10⟩
theorem KZ.keep (h : KZ w0 w M gb a b va zf Z) (hb : Below w.heap.size w w') : KZ w0 w' M gb a b va zf Z := by
  obtain ⟨Q, H, C, ys, h1, h2, h3, h4, h5, h6, h7, h8, h9, h10, h11, h12⟩ := h
  exact ⟨Q, H, C, ys, h1.below hb, h2, h3.below hb, h4, h5.trans (hb.mono h5.size), h6, h7, h8, Nat.le_trans h9 hb.size, h10, h11, h12⟩
theorem KZ.raise (h : KZ w0 w M gb a b va zf Z) {M' : Nat} (h1 : M ≤ M') (h2 : M' ≤ w.heap.size) : KZ w0 w M' gb a b va zf Z := by
  obtain ⟨Q, H, C, ys, k1, k2, k3, k4, k5, k6, k7, k8, k9, k10, k11, k12⟩ := h
  refine ⟨Q, H, C, ys, k1, k2, k3, k4, k5, fun B hB => ?_, fun B hB => ?_, fun i y B hy hB => ?_, h2, by omega, fun B hB => ?_, k12⟩
  · have := k6 B hB; omega
  · have := k7 B hB; omega
  · have := k8 i y B hy hB; omega
  · obtain ⟨x1, x2, x3, x4⟩ := k11 B hB
    exact ⟨x1, x2, x3, by omega⟩
/-- More that is kept: new memory. -/
theorem KZ.more (h : KZ w0 w M gb a b va zf Z) {Z' : Nat → Prop} (hz : ∀ B, Z' B → Z B ∨ M ≤ B ∧ B < w.heap.size) : KZ w0 w w.heap.size gb a b va zf Z' := by
  obtain ⟨Q, H, C, ys, k1, k2, k3, k4, k5, k6, k7, k8, k9, k10, k11, k12⟩ := h
  refine ⟨Q, H, C, ys, k1, k2, k3, k4, k5, fun B hB => ?_, fun B hB => ?_, fun i y B hy hB => ?_, Nat.le_refl _, by omega, fun B hB => ?_, fun i y B hy hB hz' => ?_⟩
  · have := k6 B hB; omega
  · have := k7 B hB; omega
  · have := k8 i y B hy hB; omega
  · rcases hz B hB with e | e
    · obtain ⟨x1, x2, x3, x4⟩ := k11 B e
      exact ⟨x1, x2, x3, by omega⟩
    · exact ⟨fun x => by have := k6 B (.inl x); omega, fun x => by have := k6 B (.inr x); omega, fun x => by have := k7 B x; omega, e.2⟩
  · rcases hz B hz' with e | e
    · exact k12 i y B hy hB e
    · have := k8 i y B hy hB; omega
theorem put_Z (l : Value) (xs : List Nat) (h : KZ w0 w M gb a b va zf Z) (hl : OwnU w w0.heap.size l xs) (hM : ∀ B, l.ownBlock = some B → M ≤ B) (hn : xs.length ≤ 1073741824) (ha : a ≤ 1073741824) :
    Calls Tryd.prog 25 #[.pointer (some ⟨gb, 0, none⟩), l] w fun e w' => e = .returned (.tuple #[]) ∧ KZ w0 w' w'.heap.size gb (a + 1) b va zf Z ∧ Touch (fun B => ¬ Z B ∧ B < M ∨ l.ownBlock = some B) w w' := by
  obtain ⟨Q, H, C, ys, h1, h2, h3, h4, h5, h6, h7, h8, h9, h10, h11, h12⟩ := h
  refine (bookPut_any gb w0.heap.size Q H C l xs w h1 hl (fun B hB => ?_) hn (by omega) h5.size).mono ?_
  · have := hM B hB
    exact ⟨fun e => by have := h6 B (.inl e); omega, fun e => by have := h6 B (.inr e); omega⟩
  · rintro e w' ⟨rfl, q, H', C', k1, k2, k3⟩
    have hs := k3.size
    have hHC : ∀ B, H' B ∨ C' B → B < w'.heap.size := k1.bound
    refine ⟨rfl, ⟨Q ++ [q], H', C', ys, k1, by simp [h2], h3.step k3 (fun B hB hU => ?_) (fun i y B _ hy hB hU => ?_) (Nat.le_refl _) (fun B hB => ?_), h4, k3.toBelow h5 h5.size (fun B hU => ?_), hHC, fun B hB => ?_, fun i y B hy hB => ?_, Nat.le_refl _, Nat.le_trans h5.size hs, fun B hB => ?_, h12⟩, k3.mono fun B _ hU => hU.imp (fun e => ⟨fun z => (h11 B z).1 e, h6 B (.inl e)⟩) id⟩
    · rcases hU with hU | hU
      · exact (h3.rowOut B hB).1 hU
      · have := h7 B hB
        have := hM B hU
        omega
    · rcases hU with hU | hU
      · exact (h3.out i y B (Nat.zero_le _) hy hB).1 hU
      · have := h8 i y B hy hB
        have := hM B hU
        omega
    · rcases k2 B hB with e | e | e | e
      · exact .inl e
      · exact .inr (.inl e)
      · exact .inr (.inr (.inl (.inr e)))
      · exact .inr (.inr (.inr e.1))
    · rcases hU with hU | hU
      · exact h1.boundLow B (.inl hU)
      · exact (hl.lt B hU).1
    · have := h7 B hB
      omega
    · have := h8 i y B hy hB
      omega
    · obtain ⟨x1, x2, x3, x4⟩ := h11 B hB
      have key : ¬ (H' B ∨ C' B) := fun hc => by
        rcases k2 B hc with e | e | e | e
        · exact x1 e
        · exact x2 e
        · have := hM B e; omega
        · omega
      exact ⟨fun x => key (.inl x), fun x => key (.inr x), x3, by omega⟩
/-- What lies in Z changes: all else stands. -/
theorem KZ.wtouch {U : Nat → Prop} (h : KZ w0 w M gb a b va zf Z) (ht : Touch U w w') (hu : ∀ B, U B → Z B) (hl : ∀ B, U B → w0.heap.size ≤ B) : KZ w0 w' M gb a b va zf Z := by
  obtain ⟨Q, H, C, ys, h1, h2, h3, h4, h5, h6, h7, h8, h9, h10, h11, h12⟩ := h
  refine ⟨Q, H, C, ys, h1.touch ht fun B hB hU => ?_, h2, h3.step ht (fun B hB hU => (h11 B (hu B hU)).2.2.1 hB) (fun i y B _ hy hB hU => h12 i y B hy hB (hu B hU)) (Nat.le_refl _) (fun B hB => hB.elim .inl fun a => .inr (.inl a)), h4, ht.toBelow h5 h5.size hl, h6, h7, h8, Nat.le_trans h9 ht.size, h10, h11, h12⟩
  have := h11 B (hu B hU)
  rcases hB with hB | hB
  · exact this.1 hB
  · exact this.2.1 hB
/-- Two lists more that were asked for, and more that is kept. -/
theorem KZ.push {va' y1 y2 : Value} {N1 : Nat} {Y : Nat → Prop} {ys : List Value} (h : KZr w0 w M gb a b va zf Z ys) (o1 : OwnU w w0.heap.size y1 (zf b)) (o2 : OwnU w w0.heap.size y2 (zf (b + 1))) (b1 : ∀ B, y1.ownBlock = some B → M ≤ B ∧ B < N1) (b2 : ∀ B, y2.ownBlock = some B → N1 ≤ B) (hMN : M ≤ N1)
    (hY : ∀ B, Y B → M ≤ B ∧ B < w.heap.size ∧ y1.ownBlock ≠ some B ∧ y2.ownBlock ≠ some B) (hg : w.grownBy w' va.ownBlock) (hl : Lies w va va')
    (hr : RowB w' w0.heap.size va' (ys ++ [y1, y2])) : KZ w0 w' w'.heap.size gb a (b + 2) va' zf (fun B => Z B ∨ Y B) := by
  obtain ⟨Q, H, C, h1, h2, h3, h4, h5, h6, h7, h8, h9, h10, h11, h12⟩ := h
  have hs := hg.size
  have two : ∀ (i : Nat) (y : Value), [y1, y2][i]? = some y → i = 0 ∧ y = y1 ∨ i = 1 ∧ y = y2 := fun i y hy => by
    match i, hy with
    | 0, hy => exact .inl ⟨rfl, by simpa using hy.symm⟩
    | 1, hy => exact .inr ⟨rfl, by simpa using hy.symm⟩
    | n + 2, hy => simp at hy
  have low : ∀ (i : Nat) (y : Value) (B : Nat), [y1, y2][i]? = some y → y.ownBlock = some B → M ≤ B := fun i y B hy hB => by
    rcases two i y hy with ⟨rfl, rfl⟩ | ⟨rfl, rfl⟩
    · exact (b1 B hB).1
    · have := b2 B hB
      omega
  have hA := h3.push (us := [y1, y2]) (w' := w') (va' := va') (fun i y hy => by
      rcases two i y hy with ⟨rfl, rfl⟩ | ⟨rfl, rfl⟩
      · rw [h4]; exact o1
      · rw [h4]; exact o2) (fun i j y z hij hy hz => by
      rcases two i y hy with ⟨rfl, rfl⟩ | ⟨rfl, rfl⟩
      · rcases two j z hz with ⟨rfl, rfl⟩ | ⟨rfl, rfl⟩
        · exact absurd rfl hij
        · intro B hB hB'
          have := (b1 B hB).2
          have := b2 B hB'
          omega
      · rcases two j z hz with ⟨rfl, rfl⟩ | ⟨rfl, rfl⟩
        · intro B hB hB'
          have := (b1 B hB').2
          have := b2 B hB
          omega
        · exact absurd rfl hij) (fun i y B hy hB => by
      have hlow := low i y B hy hB
      exact ⟨fun e => by have := h6 B (.inl e); omega, fun e => by have := h6 B (.inr e); omega, fun e => by have := h7 B e; omega, fun j x hx e => by have := h8 j x B hx e; omega⟩) hg hr hl fun B hB => h1.bound B hB
  have hbk : Book w' gb w0.heap.size Q H C := h1.touch (Touch.grown hg) fun B hB e => by
    have hB' : va.ownBlock = some B := e.symm
    have := h3.rowOut B hB'
    rcases hB with hB | hB
    · exact this.1 hB
    · exact this.2 hB
  refine ⟨Q, H, C, ys ++ [y1, y2], hbk, h2, hA, by simp [h4], h5.grown hg h5.size (fun B hB => (h3.row.lt B hB).1), fun B hB => hbk.bound B hB, fun B hB => (hA.row.lt B hB).2, fun i y B hy hB => (hA.lt (Nat.zero_le _) hy hB).2, Nat.le_refl _, Nat.le_trans h5.size hs, fun B hB => ?_, fun i y B hy hB hZ => ?_⟩
  · have key : ¬ H B ∧ ¬ C B ∧ va.ownBlock ≠ some B ∧ B < w.heap.size := by
      rcases hB with hB | hB
      · obtain ⟨x1, x2, x3, x4⟩ := h11 B hB
        exact ⟨x1, x2, x3, by omega⟩
      · have := hY B hB
        exact ⟨fun e => by have := h6 B (.inl e); omega, fun e => by have := h6 B (.inr e); omega, fun e => by have := h7 B e; omega, this.2.1⟩
    refine ⟨key.1, key.2.1, fun e => ?_, by omega⟩
    rcases hl B e with e | e
    · exact key.2.2.1 e
    · omega
  · by_cases hi : i < ys.length
    · rw [List.getElem?_append_left hi] at hy
      rcases hZ with hZ | hZ
      · exact h12 i y B hy hB hZ
      · have := (hY B hZ).1
        have := h8 i y B hy hB
        omega
    · rw [List.getElem?_append_right (by omega)] at hy
      rcases hZ with hZ | hZ
      · have := low _ y B hy hB
        have := (h11 B hZ).2.2.2
        omega
      · rcases two _ y hy with ⟨_, rfl⟩ | ⟨_, rfl⟩
        · exact (hY B hZ).2.2.1 hB
        · exact (hY B hZ).2.2.2 hB
/-- Lists that were wanted, in blocks of Z. -/
structure Wants (w : World) (base : Nat) (vw : Value) (ms : List Value) (zf : Nat → List Nat) (Z : Nat → Prop) : Prop where
  row : RowB w base vw ms
  own : ∀ (i : Nat) (m : Value), ms[i]? = some m → OwnU w base m (zf i)
  apart : ∀ (i : Nat) (m : Value), ms[i]? = some m → Apart vw m
  inZ : ∀ B, (vw.ownBlock = some B ∨ ∃ (i : Nat) (m : Value), ms[i]? = some m ∧ m.ownBlock = some B) → Z B
theorem Wants.nil (w : World) (base : Nat) (zf : Nat → List Nat) (Z : Nat → Prop) : Wants w base (.slice none 0 0) [] zf Z :=
  ⟨World.ownsRow_nil _ _ _ _, fun i y h => by simp at h, fun i y h => by simp at h, fun B h => by
    rcases h with h | ⟨i, m, h, _⟩
    · cases h
    · simp at h⟩
theorem Wants.touch {base : Nat} {vw : Value} {ms : List Value} {U : Nat → Prop} (h : Wants w base vw ms zf Z) (ht : Touch U w w') (hu : ∀ B, Z B → ¬ U B) : Wants w' base vw ms zf Z :=
  ⟨ht.row h.row fun B hB => hu B (h.inZ B (.inl hB)), fun i m hm => ht.own (h.own i m hm) fun B hB => hu B (h.inZ B (.inr ⟨i, m, hm, hB⟩)), h.apart, h.inZ⟩
theorem Wants.below {base : Nat} {vw : Value} {ms : List Value} (h : Wants w base vw ms zf Z) (hb : Below w.heap.size w w') : Wants w' base vw ms zf Z := h.touch (Touch.ofBelow hb) fun _ _ h => h
theorem Wants.push {base : Nat} {vw vw' m : Value} {ms : List Value} (h : Wants w base vw ms zf Z) (h0 : OwnU w base m (zf ms.length)) (h1 : OwnU w base m (zf (ms.length + 1))) (hm : ∀ B, m.ownBlock = some B → vw.ownBlock ≠ some B)
    (hg : w.grownBy w' vw.ownBlock) (hr : RowB w' base vw' (ms ++ [m, m])) (hl : Lies w vw vw') : Wants w' base vw' (ms ++ [m, m]) zf (fun B => Z B ∨ m.ownBlock = some B ∨ w.heap.size ≤ B ∧ B < w'.heap.size) := by
  have ht := Touch.grown hg
  have two : ∀ (i : Nat) (y : Value), [m, m][i]? = some y → (i = 0 ∨ i = 1) ∧ y = m := fun i y hy => by
    match i, hy with
    | 0, hy => exact ⟨.inl rfl, by simpa using hy.symm⟩
    | 1, hy => exact ⟨.inr rfl, by simpa using hy.symm⟩
    | n + 2, hy => simp at hy
  have part : ∀ (i : Nat) (y : Value), (ms ++ [m, m])[i]? = some y → ms[i]? = some y ∨ ((i = ms.length ∨ i = ms.length + 1) ∧ y = m) := fun i y hy => by
    by_cases hi : i < ms.length
    · rw [List.getElem?_append_left hi] at hy
      exact .inl hy
    · rw [List.getElem?_append_right (by omega)] at hy
      obtain ⟨a, b⟩ := two _ _ hy
      exact .inr ⟨by omega, b⟩
  have hml : ∀ B, m.ownBlock = some B → B < w.heap.size := fun B hB => (h0.lt B hB).2
  refine ⟨hr, fun i y hy => ?_, fun i y hy => ?_, fun B hB => ?_⟩
  · rcases part i y hy with e | ⟨e, rfl⟩
    · exact ht.own (h.own i y e) fun B hB x => h.apart i y e B x.symm hB
    · rcases e with rfl | rfl
      · exact ht.own h0 fun B hB x => hm B hB x.symm
      · exact ht.own h1 fun B hB x => hm B hB x.symm
  · rcases part i y hy with e | ⟨e, rfl⟩
    · exact apart_step (h.apart i y e) hl fun B hB => ((h.own i y e).lt B hB).2
    · exact apart_step (fun B hB hB' => hm B hB' hB) hl hml
  · rcases hB with hB | ⟨i, y, hy, hB⟩
    · rcases hl B hB with e | e
      · exact .inl (h.inZ B (.inl e))
      · exact .inr (.inr ⟨e, (hr.lt B hB).2⟩)
    · rcases part i y hy with e | ⟨_, rfl⟩
      · exact .inl (h.inZ B (.inr ⟨i, y, e, hB⟩))
      · exact .inr (.inl hB)
end
end Go.Proofs.YtbjbpgbpefkbhaaDoor
