/- Lists that were asked for, kept beside the Book. No function of the program is named here. -/
import Derived.Test.YtbjbpgbpefkbhaaDoorBookS
namespace Go.Proofs.YtbjbpgbpefkbhaaDoor
open Go.RowKit
section
variable {P : Program}
/-- 'append(l, u, ..)' of a list of lists. -/
theorem appendVals {t e : TypeId} (ht : P.underlying t = some (.slice e)) (hinfo : (P.info? e).map (fun i => (i.zero, i.size, i.bytes)) = some (some (.slice none 0 0), 1, 24))
    {ops : Array Oper} {rest : List Oper} {o : Oper} {a : Act} {Q : Exit → Act → World → Prop} (w : World) (hgd : o.guard = none) (s x : Operand)
    (ho : o.op = .call { callee := .builtin .append, args := #[s, x], argTypes := #[t, t] })
    (base : Nat) (v : Value) (xs : List Value) (hown : w.ownsRow base e 1 v xs.length xs) (us : List Value) (hu : ∀ u ∈ us, u.oneCell' = true) (cs : Array Value) (hcs : cs = us.toArray) (j : Nat) (hj : us.length = j) (hj0 : 0 < j) (hs : a.eval s = v) (k : Nat) (hk : k = w.heap.size) (hx : a.eval x = .slice (some ⟨k, 0, none⟩) j j)
    (hlen : xs.length + j ≤ 1073741825) (hbase : base ≤ w.heap.size)
    (h : ∀ v' w', w'.ownsRow base e 1 v' (xs ++ us).length (xs ++ us) → w.grownBy w' v.ownBlock → Lies w v v' → wpList P ops Q rest (a.put o.dst v') w') :
    wpList P ops Q (o :: rest) a (w.alloc (.cells cs e)) := by
  subst hk hcs hj
  obtain ⟨i, hi, hz0, hz1, hz2⟩ := info_parts hinfo
  have hnews : ∀ (q : Nat) (u : Value), us[q]? = some u → (w.alloc (.cells us.toArray e)).cell? ((⟨w.heap.size, 0, none⟩ : Addr).add q) = some u := fun q u hq => by
    rw [add_lit, Nat.zero_add, BlkIs.cell (BlkIs.new w e us.toArray), List.getElem?_toArray]
    exact hq
  refine wpList_append_own_at (w.alloc (.cells us.toArray e)) hgd s x t ho base e i (.slice none 0 0) 1 24 ht hi hz0 hz1 hz2 rfl (by decide) v xs.length xs hs (hown.alloc _)
    ⟨w.heap.size, 0, none⟩ us.length us.length us hx (by omega) hnews hu (by unfold maxLen; omega) (by omega) (by simp; omega) ?_
  intro v' w' h1 h2 _ h4
  refine h v' w' (by rw [List.length_append]; exact h1) (grown_trans (World.grownBy_alloc _ _ _) h2) ?_
  intro k hk
  rcases h4 with h4 | h4
  · rw [h4] at hk
    exact .inl hk
  · rw [h4] at hk
    injection hk with hk
    simp at hk
    exact .inr (by omega)
end
/-- Lists that were asked for: those from the k-th on are whole, apart from one another and from the Book's blocks. -/
structure Asked (w : World) (base : Nat) (va : Value) (ys : List Value) (zf : Nat → List Nat) (k : Nat) (H C : Nat → Prop) : Prop where
  row : RowB w base va ys
  own : ∀ (i : Nat) (y : Value), k ≤ i → ys[i]? = some y → OwnU w base y (zf i)
  apart : ∀ (i j : Nat) (y z : Value), k ≤ i → k ≤ j → i ≠ j → ys[i]? = some y → ys[j]? = some z → Apart y z
  rowApart : ∀ (i : Nat) (y : Value), k ≤ i → ys[i]? = some y → Apart va y
  out : ∀ (i : Nat) (y : Value) (B : Nat), k ≤ i → ys[i]? = some y → y.ownBlock = some B → ¬ H B ∧ ¬ C B
  rowOut : ∀ B, va.ownBlock = some B → ¬ H B ∧ ¬ C B
section
variable {w w' : World} {base k : Nat} {va va' : Value} {ys us : List Value} {zf : Nat → List Nat} {H C H' C' U : Nat → Prop}
theorem Asked.nil (w : World) (base : Nat) (zf : Nat → List Nat) (H C : Nat → Prop) : Asked w base (.slice none 0 0) [] zf 0 H C :=
  ⟨World.ownsRow_nil _ _ _ _, fun i y _ h => by simp at h, fun i j y z _ _ _ h => by simp at h, fun i y _ h => by simp at h, fun i y B _ h => by simp at h, fun B h => by cases h⟩
theorem Asked.lt (h : Asked w base va ys zf k H C) {i B : Nat} {y : Value} (hi : k ≤ i) (hy : ys[i]? = some y) (hB : y.ownBlock = some B) : base ≤ B ∧ B < w.heap.size := (h.own i y hi hy).lt B hB
theorem Asked.step {k' : Nat} (h : Asked w base va ys zf k H C) (ht : Touch U w w') (hr : ∀ B, va.ownBlock = some B → ¬ U B) (hu : ∀ (i : Nat) (y : Value) (B : Nat), k' ≤ i → ys[i]? = some y → y.ownBlock = some B → ¬ U B) (hk : k ≤ k')
    (hHC : ∀ B, H' B ∨ C' B → H B ∨ C B ∨ U B ∨ w.heap.size ≤ B) : Asked w' base va ys zf k' H' C' := by
  refine ⟨ht.row h.row hr, fun i y hi hy => ht.own (h.own i y (Nat.le_trans hk hi) hy) fun B hB => hu i y B hi hy hB, fun i j y z hi hj => h.apart i j y z (Nat.le_trans hk hi) (Nat.le_trans hk hj), fun i y hi => h.rowApart i y (Nat.le_trans hk hi), fun i y B hi hy hB => ?_, fun B hB => ?_⟩
  · have hlt := (h.lt (Nat.le_trans hk hi) hy hB).2
    have ho := h.out i y B (Nat.le_trans hk hi) hy hB
    have hn := hu i y B hi hy hB
    have key : ¬ (H' B ∨ C' B) := fun hc => by
      rcases hHC B hc with a | a | a | a
      · exact ho.1 a
      · exact ho.2 a
      · exact hn a
      · omega
    exact ⟨fun a => key (.inl a), fun a => key (.inr a)⟩
  · have hlt := (h.row.lt B hB).2
    have ho := h.rowOut B hB
    have hn := hr B hB
    have key : ¬ (H' B ∨ C' B) := fun hc => by
      rcases hHC B hc with a | a | a | a
      · exact ho.1 a
      · exact ho.2 a
      · exact hn a
      · omega
    exact ⟨fun a => key (.inl a), fun a => key (.inr a)⟩
theorem Asked.below (h : Asked w base va ys zf k H C) (hb : Below w.heap.size w w') : Asked w' base va ys zf k H C :=
  h.step (Touch.ofBelow hb) (fun _ _ h => h) (fun _ _ _ _ _ _ h => h) (Nat.le_refl _) fun _ hB => hB.elim .inl fun a => .inr (.inl a)
theorem Asked.push (h : Asked w base va ys zf 0 H C) (ho : ∀ (i : Nat) (y : Value), us[i]? = some y → OwnU w base y (zf (ys.length + i)))
    (ha : ∀ (i j : Nat) (y z : Value), i ≠ j → us[i]? = some y → us[j]? = some z → Apart y z)
    (hn : ∀ (i : Nat) (y : Value) (B : Nat), us[i]? = some y → y.ownBlock = some B → ¬ H B ∧ ¬ C B ∧ va.ownBlock ≠ some B ∧ ∀ (j : Nat) (x : Value), ys[j]? = some x → x.ownBlock ≠ some B)
    (hg : w.grownBy w' va.ownBlock) (hr : RowB w' base va' (ys ++ us)) (hlies : Lies w va va') (hH : ∀ B, H B ∨ C B → B < w.heap.size) :
    Asked w' base va' (ys ++ us) zf 0 H C := by
  have ht := Touch.grown hg
  have old : ∀ (i : Nat) (y : Value), i < ys.length → (ys ++ us)[i]? = some y → ys[i]? = some y := fun i y hi hy => by rwa [List.getElem?_append_left hi] at hy
  have new : ∀ (i : Nat) (y : Value), ¬ i < ys.length → (ys ++ us)[i]? = some y → us[i - ys.length]? = some y := fun i y hi hy => by rwa [List.getElem?_append_right (by omega)] at hy
  have nap : ∀ (i : Nat) (y : Value), us[i]? = some y → Apart va y := fun i y hy B hB hy' => (hn i y B hy hy').2.2.1 hB
  have nlt : ∀ (i : Nat) (y : Value) (B : Nat), us[i]? = some y → y.ownBlock = some B → B < w.heap.size := fun i y B hy hB => ((ho i y hy).lt B hB).2
  refine ⟨hr, fun i y _ hy => ?_, fun i j y z _ _ hij hy hz => ?_, fun i y _ hy => ?_, fun i y B _ hy hB => ?_, fun B hB => ?_⟩
  · by_cases hi : i < ys.length
    · have hy' := old i y hi hy
      exact ht.own (h.own i y (Nat.zero_le _) hy') fun B hB e => h.rowApart i y (Nat.zero_le _) hy' B e.symm hB
    · have hy' := new i y hi hy
      have h1 := ho _ y hy'
      rw [show ys.length + (i - ys.length) = i by omega] at h1
      exact ht.own h1 fun B hB e => nap _ y hy' B e.symm hB
  · by_cases hi : i < ys.length
    · by_cases hj : j < ys.length
      · exact h.apart i j y z (Nat.zero_le _) (Nat.zero_le _) hij (old i y hi hy) (old j z hj hz)
      · exact fun B hB hB' => (hn _ z B (new j z hj hz) hB').2.2.2 i y (old i y hi hy) hB
    · by_cases hj : j < ys.length
      · exact fun B hB hB' => (hn _ y B (new i y hi hy) hB).2.2.2 j z (old j z hj hz) hB'
      · exact ha _ _ y z (by omega) (new i y hi hy) (new j z hj hz)
  · by_cases hi : i < ys.length
    · exact apart_step (h.rowApart i y (Nat.zero_le _) (old i y hi hy)) hlies fun B hB => (h.lt (Nat.zero_le _) (old i y hi hy) hB).2
    · exact apart_step (nap _ y (new i y hi hy)) hlies fun B hB => nlt _ y B (new i y hi hy) hB
  · by_cases hi : i < ys.length
    · exact h.out i y B (Nat.zero_le _) (old i y hi hy) hB
    · have := hn _ y B (new i y hi hy) hB
      exact ⟨this.1, this.2.1⟩
  · rcases hlies B hB with hB' | hB'
    · exact h.rowOut B hB'
    · exact ⟨fun a => by have := hH B (.inl a); omega, fun a => by have := hH B (.inr a); omega⟩
theorem Book.bound {w : World} {gb base : Nat} {Q : List Quad} {H C : Nat → Prop} (h : Book w gb base Q H C) : ∀ B, H B ∨ C B → B < w.heap.size := fun B hB => by
  obtain ⟨_, _, _, _, hh⟩ := h.heads
  rcases hB with hB | hB
  · exact (hh.bnd B hB).2
  · exact (h.bndC B hB).2
theorem Book.boundLow {w : World} {gb base : Nat} {Q : List Quad} {H C : Nat → Prop} (h : Book w gb base Q H C) : ∀ B, H B ∨ C B → base ≤ B := fun B hB => by
  obtain ⟨_, _, _, _, hh⟩ := h.heads
  rcases hB with hB | hB
  · exact (hh.bnd B hB).1
  · exact (h.bndC B hB).1
end
end Go.Proofs.YtbjbpgbpefkbhaaDoor
