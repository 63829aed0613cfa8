/- 'l = append(l, x)' of one byte where several lists grow side by side. No program is named here. -/
import Derived.Test.YtbjbpgbpefkbhaaDoorLib2
import Derived.Maps.AppendAt
namespace Go.Proofs.YtbjbpgbpefkbhaaDoor
open Go.RowKit
/-- Two values do not hold one block. -/
def Apart (v u : Value) : Prop := ∀ k, v.ownBlock = some k → u.ownBlock ≠ some k
theorem Apart.symm' {v u : Value} (h : Apart v u) : Apart u v := fun k hk hv => h k hv hk
theorem apart_nil (c n : Nat) (u : Value) : Apart (.slice none n c) u := fun k hk => by cases hk
/-- Where a grown list lies: where it lay, or in new memory. -/
def Lies (w : World) (v v' : Value) : Prop := ∀ k, v'.ownBlock = some k → v.ownBlock = some k ∨ w.heap.size ≤ k
theorem apart_step {w : World} {v v' u : Value} (h : Apart v u) (hl : Lies w v v') (hu : ∀ k, u.ownBlock = some k → k < w.heap.size) : Apart v' u := by
  intro k hk hu'
  rcases hl k hk with h1 | h1
  · exact h k h1 hu'
  · have := hu k hu'
    omega
theorem kept_apart {e : TypeId} {w w' : World} {base : Nat} {v u : Value} {xs : List Nat} (h : Own e w base u xs) (hg : w.grownBy w' v.ownBlock) (ha : Apart v u) : Own e w' base u xs := by
  refine h.kept hg ?_
  rcases hb : u.ownBlock with _ | k
  · exact .inl rfl
  · exact .inr fun e => ha k e.symm hb
section
variable {P : Program}
theorem append1At {t e : TypeId} (ht : P.underlying t = some (.slice e)) (hinfo : (P.info? e).map (fun i => (i.zero, i.size, i.bytes)) = some (some (.int .u8 0), 1, 1))
    {ops : Array Oper} {rest : List Oper} {o : Oper} {a : Act} {Q : Exit → Act → World → Prop} (w : World) (hgd : o.guard = none) (s x : Operand)
    (ho : o.op = .call { callee := .builtin .append, args := #[s, x], argTypes := #[t, t] })
    (base : Nat) (v : Value) (xs : List Nat) (hown : Own e w base v xs) (b : Nat) (hb : b < 256) (hs : a.eval s = v) (hx : a.eval x = .slice (some ⟨w.heap.size, 0, none⟩) 1 1)
    (hlen : xs.length + 1 ≤ 140737488355328) (hbase : base ≤ w.heap.size)
    (h : ∀ v' w', Own e w' base v' (xs ++ [b]) → w.grownBy w' v.ownBlock → Lies w v v' → wpList P ops Q rest (a.put o.dst v') w') :
    wpList P ops Q (o :: rest) a (w.alloc (.cells #[.int .u8 (b : Int)] e)) := by
  obtain ⟨i, hi, hz0, hz1, hz2⟩ := info_parts hinfo
  refine wpList_append_own_at (w.alloc (.cells #[.int .u8 (b : Int)] e)) hgd s x t ho base e i (.int .u8 0) 1 1 ht hi hz0 hz1 hz2 rfl (by decide) v xs.length (bvs xs) hs (hown.1.alloc _)
    ⟨w.heap.size, 0, none⟩ 1 1 (bvs [b]) hx rfl (cell_one_new w (.int .u8 (b : Int)) e) ?_ (by unfold maxLen; omega) (by omega) (by simp; omega) ?_
  · intro u hu
    simp [bvs, bv] at hu
    subst hu
    rfl
  · intro v' w' h1 h2 _ h4
    refine h v' w' ⟨by simpa [bvs] using h1, hown.2.app (IsB.one hb)⟩ (grown_trans (World.grownBy_alloc _ _ _) h2) ?_
    intro k hk
    rcases h4 with h4 | h4
    · rw [h4] at hk
      exact .inl hk
    · rw [h4] at hk
      injection hk with hk
      simp at hk
      exact .inr (by omega)
end
end Go.Proofs.YtbjbpgbpefkbhaaDoor
