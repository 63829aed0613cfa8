/- ledgerlaw5.Book: one list more. No function of the program is named here. -/
import Derived.Test.YtbjbpgbpefkbhaaDoorBook
namespace Go.Proofs.YtbjbpgbpefkbhaaDoor
open Go.RowKit
section
variable {P : Program}
/-- 'append(l, u)' of a list of lists. -/
theorem appendRow {t e : TypeId} (ht : P.underlying t = some (.slice e)) (hinfo : (P.info? e).map (fun i => (i.zero, i.size, i.bytes)) = some (some (.slice none 0 0), 1, 24))
    {ops : Array Oper} {rest : List Oper} {o : Oper} {a : Act} {Q : Exit → Act → World → Prop} (w : World) (hgd : o.guard = none) (s x : Operand)
    (ho : o.op = .call { callee := .builtin .append, args := #[s, x], argTypes := #[t, t] })
    (base : Nat) (v : Value) (xs : List Value) (hown : w.ownsRow base e 1 v xs.length xs) (u : Value) (hu : u.oneCell' = true) (hs : a.eval s = v) (k : Nat) (hk : k = w.heap.size) (hx : a.eval x = .slice (some ⟨k, 0, none⟩) 1 1)
    (hlen : xs.length ≤ 1073741824) (hbase : base ≤ w.heap.size)
    (h : ∀ v' w', w'.ownsRow base e 1 v' (xs ++ [u]).length (xs ++ [u]) → w.grownBy w' v.ownBlock → Lies w v v' → wpList P ops Q rest (a.put o.dst v') w') :
    wpList P ops Q (o :: rest) a (w.alloc (.cells #[u] e)) := by
  subst hk
  obtain ⟨i, hi, hz0, hz1, hz2⟩ := info_parts hinfo
  refine wpList_append_own_at (w.alloc (.cells #[u] e)) hgd s x t ho base e i (.slice none 0 0) 1 24 ht hi hz0 hz1 hz2 rfl (by decide) v xs.length xs hs (hown.alloc _)
    ⟨w.heap.size, 0, none⟩ 1 1 [u] hx rfl (cell_one_new w u e) ?_ (by unfold maxLen; omega) (by omega) (by simp; omega) ?_
  · intro z hz
    rcases List.mem_singleton.1 hz with rfl
    exact hu
  · intro v' w' h1 h2 _ h4
    refine h v' w' (by rw [List.length_append]; exact h1) (grown_trans (World.grownBy_alloc _ _ _) h2) ?_
    intro k hk
    rcases h4 with h4 | h4
    · rw [h4] at hk
      exact .inl hk
    · rw [h4] at hk
      injection hk with hk
      simp at hk
      exact .inr (by omega)
end
theorem row_lt {w : World} {base : Nat} {v : Value} {xs : List Value} (h : RowB w base v xs) : ∀ k, v.ownBlock = some k → k < w.heap.size := fun k hk => (h.lt k hk).2
section
variable {w w1 : World} {gb base : Nat} {v0 v1 v2 v3 v' : Value} {x0 x1 x2 x3 xs : List Value} {H : Nat → Prop}
theorem Heads.step0 (h : Heads w gb base v0 v1 v2 v3 x0 x1 x2 x3 H) (hg : w.grownBy w1 v0.ownBlock) (hr : RowB w1 base v' xs) (hl : Lies w v0 v') :
    Heads (w1.setCell ⟨gb, 0, none⟩ v') gb base v' v1 v2 v3 xs x1 x2 x3 (fun B => H B ∨ w.heap.size ≤ B ∧ B < w1.heap.size) ∧ Touch H w (w1.setCell ⟨gb, 0, none⟩ v') ∧ BlkIs w1 gb 49 #[v0, v1, v2, v3] := by
  have ht := Touch.grown hg
  have hs := Touch.grown (grown_setCell w1 (g := gb) 0 v')
  have hgb := h.blk.lt
  have hne : v'.ownBlock ≠ some gb := fun e => by
    rcases hl gb e with k | k
    · exact h.ne.1 k
    · omega
  have q1 : RowB (w1.setCell ⟨gb, 0, none⟩ v') base v1 x1 := hs.row (ht.row h.r1 fun k hk e => h.a01.symm' k hk e.symm) fun k hk e => h.ne.2.1 (by rw [hk]; exact e)
  have q2 : RowB (w1.setCell ⟨gb, 0, none⟩ v') base v2 x2 := hs.row (ht.row h.r2 fun k hk e => h.a02.symm' k hk e.symm) fun k hk e => h.ne.2.2.1 (by rw [hk]; exact e)
  have q3 : RowB (w1.setCell ⟨gb, 0, none⟩ v') base v3 x3 := hs.row (ht.row h.r3 fun k hk e => h.a03.symm' k hk e.symm) fun k hk e => h.ne.2.2.2 (by rw [hk]; exact e)
  have q0 : RowB (w1.setCell ⟨gb, 0, none⟩ v') base v' xs := hs.row hr fun k hk e => hne (by rw [hk]; exact e)
  have hb : BlkIs (w1.setCell ⟨gb, 0, none⟩ v') gb 49 #[v', v1, v2, v3] := (ht.blk h.blk fun e => h.ne.1 e.symm).stored 0 v'
  have hsz : (w1.setCell ⟨gb, 0, none⟩ v').heap.size = w1.heap.size := by simp [World.setCell]
  have hin : ∀ B, v'.ownBlock = some B ∨ v1.ownBlock = some B ∨ v2.ownBlock = some B ∨ v3.ownBlock = some B → H B ∨ w.heap.size ≤ B ∧ B < w1.heap.size := by
    intro B hB
    rcases hB with hk | hk | hk | hk
    · rcases hl B hk with hk' | hk'
      · exact .inl (h.inH.2 B (.inl hk'))
      · exact .inr ⟨hk', row_lt hr B hk⟩
    · exact .inl (h.inH.2 B (.inr (.inl hk)))
    · exact .inl (h.inH.2 B (.inr (.inr (.inl hk))))
    · exact .inl (h.inH.2 B (.inr (.inr (.inr hk))))
  refine ⟨⟨hb, q0, q1, q2, q3, apart_step h.a01 hl (row_lt h.r1), apart_step h.a02 hl (row_lt h.r2), apart_step h.a03 hl (row_lt h.r3), h.a12, h.a13, h.a23, ⟨hne, h.ne.2.1, h.ne.2.2.1, h.ne.2.2.2⟩, ⟨.inl h.inH.1, hin⟩, fun B hB => ?_⟩, ?_, ht.blk h.blk fun e => h.ne.1 e.symm⟩
  · rw [hsz]
    have h1 := h.bnd gb h.inH.1
    rcases hB with hB | hB
    · have h2 := h.bnd B hB
      exact ⟨h2.1, Nat.lt_of_lt_of_le h2.2 hg.size⟩
    · exact ⟨by omega, hB.2⟩
  · refine (ht.mono fun k _ hk => h.inH.2 k (.inl hk.symm)).trans (hs.mono fun k _ hk => ?_)
    injection hk with hk
    rw [hk]
    exact h.inH.1
theorem Heads.step1 (h : Heads w gb base v0 v1 v2 v3 x0 x1 x2 x3 H) (hg : w.grownBy w1 v1.ownBlock) (hr : RowB w1 base v' xs) (hl : Lies w v1 v') :
    Heads (w1.setCell ⟨gb, 1, none⟩ v') gb base v0 v' v2 v3 x0 xs x2 x3 (fun B => H B ∨ w.heap.size ≤ B ∧ B < w1.heap.size) ∧ Touch H w (w1.setCell ⟨gb, 1, none⟩ v') ∧ BlkIs w1 gb 49 #[v0, v1, v2, v3] := by
  have ht := Touch.grown hg
  have hs := Touch.grown (grown_setCell w1 (g := gb) 1 v')
  have hgb := h.blk.lt
  have hne : v'.ownBlock ≠ some gb := fun e => by
    rcases hl gb e with k | k
    · exact h.ne.2.1 k
    · omega
  have q0 : RowB (w1.setCell ⟨gb, 1, none⟩ v') base v0 x0 := hs.row (ht.row h.r0 fun k hk e => h.a01 k hk e.symm) fun k hk e => h.ne.1 (by rw [hk]; exact e)
  have q2 : RowB (w1.setCell ⟨gb, 1, none⟩ v') base v2 x2 := hs.row (ht.row h.r2 fun k hk e => h.a12.symm' k hk e.symm) fun k hk e => h.ne.2.2.1 (by rw [hk]; exact e)
  have q3 : RowB (w1.setCell ⟨gb, 1, none⟩ v') base v3 x3 := hs.row (ht.row h.r3 fun k hk e => h.a13.symm' k hk e.symm) fun k hk e => h.ne.2.2.2 (by rw [hk]; exact e)
  have q1 : RowB (w1.setCell ⟨gb, 1, none⟩ v') base v' xs := hs.row hr fun k hk e => hne (by rw [hk]; exact e)
  have hb : BlkIs (w1.setCell ⟨gb, 1, none⟩ v') gb 49 #[v0, v', v2, v3] := (ht.blk h.blk fun e => h.ne.2.1 e.symm).stored 1 v'
  have hsz : (w1.setCell ⟨gb, 1, none⟩ v').heap.size = w1.heap.size := by simp [World.setCell]
  have hin : ∀ B, v0.ownBlock = some B ∨ v'.ownBlock = some B ∨ v2.ownBlock = some B ∨ v3.ownBlock = some B → H B ∨ w.heap.size ≤ B ∧ B < w1.heap.size := by
    intro B hB
    rcases hB with hk | hk | hk | hk
    · exact .inl (h.inH.2 B (.inl hk))
    · rcases hl B hk with hk' | hk'
      · exact .inl (h.inH.2 B (.inr (.inl hk')))
      · exact .inr ⟨hk', row_lt hr B hk⟩
    · exact .inl (h.inH.2 B (.inr (.inr (.inl hk))))
    · exact .inl (h.inH.2 B (.inr (.inr (.inr hk))))
  refine ⟨⟨hb, q0, q1, q2, q3, (apart_step h.a01.symm' hl (row_lt h.r0)).symm', h.a02, h.a03, apart_step h.a12 hl (row_lt h.r2), apart_step h.a13 hl (row_lt h.r3), h.a23, ⟨h.ne.1, hne, h.ne.2.2.1, h.ne.2.2.2⟩, ⟨.inl h.inH.1, hin⟩, fun B hB => ?_⟩, ?_, ht.blk h.blk fun e => h.ne.2.1 e.symm⟩
  · rw [hsz]
    have h1 := h.bnd gb h.inH.1
    rcases hB with hB | hB
    · have h2 := h.bnd B hB
      exact ⟨h2.1, Nat.lt_of_lt_of_le h2.2 hg.size⟩
    · exact ⟨by omega, hB.2⟩
  · refine (ht.mono fun k _ hk => h.inH.2 k (.inr (.inl hk.symm))).trans (hs.mono fun k _ hk => ?_)
    injection hk with hk
    rw [hk]
    exact h.inH.1
theorem Heads.step2 (h : Heads w gb base v0 v1 v2 v3 x0 x1 x2 x3 H) (hg : w.grownBy w1 v2.ownBlock) (hr : RowB w1 base v' xs) (hl : Lies w v2 v') :
    Heads (w1.setCell ⟨gb, 2, none⟩ v') gb base v0 v1 v' v3 x0 x1 xs x3 (fun B => H B ∨ w.heap.size ≤ B ∧ B < w1.heap.size) ∧ Touch H w (w1.setCell ⟨gb, 2, none⟩ v') ∧ BlkIs w1 gb 49 #[v0, v1, v2, v3] := by
  have ht := Touch.grown hg
  have hs := Touch.grown (grown_setCell w1 (g := gb) 2 v')
  have hgb := h.blk.lt
  have hne : v'.ownBlock ≠ some gb := fun e => by
    rcases hl gb e with k | k
    · exact h.ne.2.2.1 k
    · omega
  have q0 : RowB (w1.setCell ⟨gb, 2, none⟩ v') base v0 x0 := hs.row (ht.row h.r0 fun k hk e => h.a02 k hk e.symm) fun k hk e => h.ne.1 (by rw [hk]; exact e)
  have q1 : RowB (w1.setCell ⟨gb, 2, none⟩ v') base v1 x1 := hs.row (ht.row h.r1 fun k hk e => h.a12 k hk e.symm) fun k hk e => h.ne.2.1 (by rw [hk]; exact e)
  have q3 : RowB (w1.setCell ⟨gb, 2, none⟩ v') base v3 x3 := hs.row (ht.row h.r3 fun k hk e => h.a23.symm' k hk e.symm) fun k hk e => h.ne.2.2.2 (by rw [hk]; exact e)
  have q2 : RowB (w1.setCell ⟨gb, 2, none⟩ v') base v' xs := hs.row hr fun k hk e => hne (by rw [hk]; exact e)
  have hb : BlkIs (w1.setCell ⟨gb, 2, none⟩ v') gb 49 #[v0, v1, v', v3] := (ht.blk h.blk fun e => h.ne.2.2.1 e.symm).stored 2 v'
  have hsz : (w1.setCell ⟨gb, 2, none⟩ v').heap.size = w1.heap.size := by simp [World.setCell]
  have hin : ∀ B, v0.ownBlock = some B ∨ v1.ownBlock = some B ∨ v'.ownBlock = some B ∨ v3.ownBlock = some B → H B ∨ w.heap.size ≤ B ∧ B < w1.heap.size := by
    intro B hB
    rcases hB with hk | hk | hk | hk
    · exact .inl (h.inH.2 B (.inl hk))
    · exact .inl (h.inH.2 B (.inr (.inl hk)))
    · rcases hl B hk with hk' | hk'
      · exact .inl (h.inH.2 B (.inr (.inr (.inl hk'))))
      · exact .inr ⟨hk', row_lt hr B hk⟩
    · exact .inl (h.inH.2 B (.inr (.inr (.inr hk))))
  refine ⟨⟨hb, q0, q1, q2, q3, h.a01, (apart_step h.a02.symm' hl (row_lt h.r0)).symm', h.a03, (apart_step h.a12.symm' hl (row_lt h.r1)).symm', h.a13, apart_step h.a23 hl (row_lt h.r3), ⟨h.ne.1, h.ne.2.1, hne, h.ne.2.2.2⟩, ⟨.inl h.inH.1, hin⟩, fun B hB => ?_⟩, ?_, ht.blk h.blk fun e => h.ne.2.2.1 e.symm⟩
  · rw [hsz]
    have h1 := h.bnd gb h.inH.1
    rcases hB with hB | hB
    · have h2 := h.bnd B hB
      exact ⟨h2.1, Nat.lt_of_lt_of_le h2.2 hg.size⟩
    · exact ⟨by omega, hB.2⟩
  · refine (ht.mono fun k _ hk => h.inH.2 k (.inr (.inr (.inl hk.symm)))).trans (hs.mono fun k _ hk => ?_)
    injection hk with hk
    rw [hk]
    exact h.inH.1
theorem Heads.step3 (h : Heads w gb base v0 v1 v2 v3 x0 x1 x2 x3 H) (hg : w.grownBy w1 v3.ownBlock) (hr : RowB w1 base v' xs) (hl : Lies w v3 v') :
    Heads (w1.setCell ⟨gb, 3, none⟩ v') gb base v0 v1 v2 v' x0 x1 x2 xs (fun B => H B ∨ w.heap.size ≤ B ∧ B < w1.heap.size) ∧ Touch H w (w1.setCell ⟨gb, 3, none⟩ v') ∧ BlkIs w1 gb 49 #[v0, v1, v2, v3] := by
  have ht := Touch.grown hg
  have hs := Touch.grown (grown_setCell w1 (g := gb) 3 v')
  have hgb := h.blk.lt
  have hne : v'.ownBlock ≠ some gb := fun e => by
    rcases hl gb e with k | k
    · exact h.ne.2.2.2 k
    · omega
  have q0 : RowB (w1.setCell ⟨gb, 3, none⟩ v') base v0 x0 := hs.row (ht.row h.r0 fun k hk e => h.a03 k hk e.symm) fun k hk e => h.ne.1 (by rw [hk]; exact e)
  have q1 : RowB (w1.setCell ⟨gb, 3, none⟩ v') base v1 x1 := hs.row (ht.row h.r1 fun k hk e => h.a13 k hk e.symm) fun k hk e => h.ne.2.1 (by rw [hk]; exact e)
  have q2 : RowB (w1.setCell ⟨gb, 3, none⟩ v') base v2 x2 := hs.row (ht.row h.r2 fun k hk e => h.a23 k hk e.symm) fun k hk e => h.ne.2.2.1 (by rw [hk]; exact e)
  have q3 : RowB (w1.setCell ⟨gb, 3, none⟩ v') base v' xs := hs.row hr fun k hk e => hne (by rw [hk]; exact e)
  have hb : BlkIs (w1.setCell ⟨gb, 3, none⟩ v') gb 49 #[v0, v1, v2, v'] := (ht.blk h.blk fun e => h.ne.2.2.2 e.symm).stored 3 v'
  have hsz : (w1.setCell ⟨gb, 3, none⟩ v').heap.size = w1.heap.size := by simp [World.setCell]
  have hin : ∀ B, v0.ownBlock = some B ∨ v1.ownBlock = some B ∨ v2.ownBlock = some B ∨ v'.ownBlock = some B → H B ∨ w.heap.size ≤ B ∧ B < w1.heap.size := by
    intro B hB
    rcases hB with hk | hk | hk | hk
    · exact .inl (h.inH.2 B (.inl hk))
    · exact .inl (h.inH.2 B (.inr (.inl hk)))
    · exact .inl (h.inH.2 B (.inr (.inr (.inl hk))))
    · rcases hl B hk with hk' | hk'
      · exact .inl (h.inH.2 B (.inr (.inr (.inr hk'))))
      · exact .inr ⟨hk', row_lt hr B hk⟩
  refine ⟨⟨hb, q0, q1, q2, q3, h.a01, h.a02, (apart_step h.a03.symm' hl (row_lt h.r0)).symm', h.a12, (apart_step h.a13.symm' hl (row_lt h.r1)).symm', (apart_step h.a23.symm' hl (row_lt h.r2)).symm', ⟨h.ne.1, h.ne.2.1, h.ne.2.2.1, hne⟩, ⟨.inl h.inH.1, hin⟩, fun B hB => ?_⟩, ?_, ht.blk h.blk fun e => h.ne.2.2.2 e.symm⟩
  · rw [hsz]
    have h1 := h.bnd gb h.inH.1
    rcases hB with hB | hB
    · have h2 := h.bnd B hB
      exact ⟨h2.1, Nat.lt_of_lt_of_le h2.2 hg.size⟩
    · exact ⟨by omega, hB.2⟩
  · refine (ht.mono fun k _ hk => h.inH.2 k (.inr (.inr (.inr hk.symm)))).trans (hs.mono fun k _ hk => ?_)
    injection hk with hk
    rw [hk]
    exact h.inH.1
end
end Go.Proofs.YtbjbpgbpefkbhaaDoor
