/- Lists of keys in memory; more keys behind a list of one's own. -/
import Derived.Test.YtfnlhfaihoojfaaDoorFr
namespace Go.Proofs.YtfnlhfaihoojfaaDoor
open Go.RowKit
/-- The list at P holds n keys. -/
def KBs (w : World) (P : Option Addr) (n : Nat) (X : Nat → List Nat) : Prop :=
  ∀ k, k < n → IsB (X k) ∧ (X k).length = 32 ∧ ∃ b o, P = some ⟨b, o, none⟩ ∧ RB w (some ⟨b, o + k * 32, none⟩) 32 (X k)
theorem KBs.below {w w' : World} {P : Option Addr} {n : Nat} {X : Nat → List Nat} (h : KBs w P n X) (hb : Below w.heap.size w w') : KBs w' P n X := fun k hk => by
  obtain ⟨h1, h2, b, o, h3, h4⟩ := h k hk
  exact ⟨h1, h2, b, o, h3, h4.below hb⟩
/-- Keys one behind the other. -/
def flatK (X : Nat → List Nat) : Nat → List Nat
  | 0 => []
  | n + 1 => flatK X n ++ X n
theorem flatK_length {X : Nat → List Nat} {n : Nat} (h : ∀ k, k < n → (X k).length = 32) : (flatK X n).length = n * 32 := by
  induction n with
  | zero => rfl
  | succ n ih => rw [flatK, List.length_append, ih fun k hk => h k (by omega), h n (by omega)]; omega
theorem flatK_at {X : Nat → List Nat} {n k j : Nat} (h : ∀ k, k < n → (X k).length = 32) (hk : k < n) (hj : j < 32) : (flatK X n)[k * 32 + j]? = (X k)[j]? := by
  induction n with
  | zero => omega
  | succ n ih =>
    have hl := flatK_length (X := X) (n := n) fun k hk => h k (by omega)
    rw [flatK]
    rcases Nat.lt_or_ge k n with h1 | h1
    · rw [List.getElem?_append_left (by omega), ih (fun k hk => h k (by omega)) h1]
    · obtain rfl : k = n := by omega
      rw [List.getElem?_append_right (by omega), hl, Nat.add_sub_cancel_left]
theorem KBs.cells {w : World} {b o n : Nat} {X : Nat → List Nat} (h : KBs w (some ⟨b, o, none⟩) n X) : ∀ j u, (bvs (flatK X n))[j]? = some u → w.cell? ((⟨b, o, none⟩ : Addr).add j) = some u := fun j u hj => by
  have hl := flatK_length (X := X) (n := n) fun k hk => (h k hk).2.1
  have hjl : j < n * 32 := by
    have := (List.getElem?_eq_some_iff.1 hj).1
    simpa [bvs, hl] using this
  have hk : j / 32 < n := by omega
  obtain ⟨h1, h2, b', o', e, hr⟩ := h (j / 32) hk
  injection e with e
  injection e with e1 e2 e3
  subst e1 e2
  obtain ⟨ad, e, _, hc⟩ := hr.2.2 (by omega)
  injection e with e
  subst e
  have h3 := flatK_at (X := X) (n := n) (fun k hk => (h k hk).2.1) hk (show j % 32 < 32 by omega)
  rw [show j / 32 * 32 + j % 32 = j by omega] at h3
  simp only [bvs, List.getElem?_map, Option.map_eq_some_iff] at hj
  obtain ⟨y, hy, rfl⟩ := hj
  rw [h3] at hy
  have h4 := hc (j % 32) y hy
  rw [add_lit] at h4 ⊢
  rw [show o + j / 32 * 32 + j % 32 = o + j by omega] at h4
  exact h4
theorem und_kyl : Tryd.prog.underlying 34 = some (.slice 31) := by kernel_rfl
theorem info_key3 : (Tryd.prog.info? 31).map (fun i => (i.zero, i.size, i.bytes)) = some (some (.agg (zarr 32)), 32, 32) := by kernel_rfl
theorem info_key2 : (Tryd.prog.info? 31).map (fun i => (i.zero, i.size)) = some (some (.agg (zarr 32)), 32) := by kernel_rfl
/-- 'append(l, keys...)'. -/
theorem appendK {ops : Array Oper} {rest : List Oper} {o : Oper} {a : Act} {Q : Exit → Act → World → Prop} (w : World) (hgd : o.guard = none) (s x : Operand) (ho : o.op = .call { callee := .builtin .append, args := #[s, x], argTypes := #[34, 34] })
    (base : Nat) (v : Value) (n : Nat) (xs : List Value) (hown : w.ownsRow base 31 32 v n xs) (A : Option Addr) (m c : Nat) (X : Nat → List Nat) (hr : KBs w A m X) (hA : A = none → m = 0 ∧ c = 0)
    (hs : a.eval s = v) (hx : a.eval x = .slice A m c) (hlen : (n + m) * 32 ≤ 140737488355328) (hm : n + m ≤ 140737488355328) (hbase : base ≤ w.heap.size)
    (h : ∀ v' w', w'.ownsRow base 31 32 v' (n + m) (xs ++ bvs (flatK X m)) → w.grownBy w' v.ownBlock → wpList Tryd.prog ops Q rest (a.put o.dst v') w') :
    wpList Tryd.prog ops Q (o :: rest) a w := by
  obtain ⟨i, hi, hz0, hz1, hz2⟩ := info_parts info_key3
  rcases A with _ | ad
  · obtain ⟨rfl, rfl⟩ := hA rfl
    refine wpList_append_own_none hgd s x _ ho base _ i 32 und_kyl hi v n xs hs hown hx ?_
    exact h v w (by simpa [flatK, bvs] using hown) (World.grownBy.refl w _)
  · refine wpList_append_own w hgd s x _ ho base _ i (.agg (zarr 32)) 32 32 und_kyl hi hz0 hz1 hz2 rfl (by decide) v n xs hs hown
      ad m c (bvs (flatK X m)) hx (by simp [bvs, flatK_length fun k hk => (hr k hk).2.1]) ?_ (bvs_oneCell _) (by unfold maxLen; omega) hlen hbase ?_
    · rcases Nat.eq_zero_or_pos m with h0 | h0
      · subst h0
        intro j u hj
        simp [flatK, bvs] at hj
      · obtain ⟨_, _, b, p, e, _⟩ := hr 0 h0
        injection e with e
        subst e
        exact hr.cells
    · intro v' w' h1 h2 _
      exact h v' w' h1 h2
end Go.Proofs.YtfnlhfaihoojfaaDoor
