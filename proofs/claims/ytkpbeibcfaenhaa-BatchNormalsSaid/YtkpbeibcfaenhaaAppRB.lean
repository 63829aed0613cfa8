/- 'l = append(l, src...)' where several lists grow side by side. No program is named here. -/
import Derived.Test.YtkpbeibcfaenhaaApp
namespace Go.Proofs.Ytkpbeibcfaenhaa
open Go.RowKit
section
variable {P : Program}
theorem Lies.refl (w : World) (v : Value) : Lies w v v := fun _ h => .inl h
theorem appendRBAt {t e : TypeId} (ht : P.underlying t = some (.slice e)) (hinfo : (P.info? e).map (fun i => (i.zero, i.size, i.bytes)) = some (some (.int .u8 0), 1, 1))
    {ops : Array Oper} {rest : List Oper} {o : Oper} {a : Act} {Q : Exit → Act → World → Prop} (w : World) (hgd : o.guard = none) (s x : Operand)
    (ho : o.op = .call { callee := .builtin .append, args := #[s, x], argTypes := #[t, t] })
    (base : Nat) (v : Value) (xs : List Nat) (hown : Own e w base v xs) (A : Option Addr) (m c : Nat) (ys : List Nat) (hr : RB w A m ys) (hA : A = none → c = 0)
    (hs : a.eval s = v) (hx : a.eval x = .slice A m c)
    (hlen : xs.length + m ≤ 140737488355328) (hbase : base ≤ w.heap.size)
    (h : ∀ v' w', Own e w' base v' (xs ++ ys) → w.grownBy w' v.ownBlock → Lies w v v' → wpList P ops Q rest (a.put o.dst v') w') :
    wpList P ops Q (o :: rest) a w := by
  obtain ⟨i, hi, hz0, hz1, hz2⟩ := info_parts hinfo
  rcases A with _ | ad
  · obtain rfl := hA rfl
    have hm : m = 0 := by
      rcases Nat.eq_zero_or_pos m with h0 | h0
      · exact h0
      · obtain ⟨ad, e', _⟩ := hr.2.2 h0
        cases e'
    subst hm
    have hys : ys = [] := List.eq_nil_of_length_eq_zero hr.1
    subst hys
    refine wpList_append_own_none hgd s x t ho base e i 1 ht hi v xs.length (bvs xs) hs hown.1 hx ?_
    exact h v w (by simpa using hown) (World.grownBy.refl w _) (Lies.refl w v)
  · refine wpList_append_own_at w hgd s x t ho base e i (.int .u8 0) 1 1 ht hi hz0 hz1 hz2 rfl (by decide) v xs.length (bvs xs) hs hown.1
      ad m c (bvs ys) hx (by simp [bvs, hr.1]) ?_ (bvs_oneCell ys) (by unfold maxLen; omega) (by omega) hbase ?_
    · intro j u hj
      simp only [bvs, List.getElem?_map, Option.map_eq_some_iff] at hj
      obtain ⟨x, hx, rfl⟩ := hj
      have hjm : j < ys.length := by
        rcases Nat.lt_or_ge j ys.length with h | h
        · exact h
        · rw [List.getElem?_eq_none h] at hx; cases hx
      obtain ⟨ad', e', _, hc⟩ := hr.2.2 (by have := hr.1; omega)
      injection e' with e'
      subst e'
      exact hc j x hx
    · intro v' w' h1 h2 _ h4
      refine h v' w' ⟨by rw [List.length_append, hr.1]; simpa [bvs] using h1, hown.2.app hr.2.1⟩ h2 ?_
      intro k hk
      rcases h4 with h4 | h4
      · rw [h4] at hk
        exact .inl hk
      · rw [h4] at hk
        injection hk with hk
        exact .inr (by omega)
end
end Go.Proofs.Ytkpbeibcfaenhaa
