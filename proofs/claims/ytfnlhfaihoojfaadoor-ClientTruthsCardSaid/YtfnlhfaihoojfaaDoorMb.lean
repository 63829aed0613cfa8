/- App, AppRB, CliN, Node, Node2 (merged) -/
import Derived.Test.YtfnlhfaihoojfaaDoorMa
import Derived.Maps.AppendAt
import Derived.Test.YtfnlhfaihoojfaaDoorCut
import Derived.Test.YtfnlhfaihoojfaaDoorPathN
import Derived.Test.YtfnlhfaihoojfaaDoorDSum
import Derived.Test.YtfnlhfaihoojfaaDoorRefDig
import Derived.Test.YtfnlhfaihoojfaaDoorKeys
import Derived.LoopN
/- 'l = append(l, x)' of one byte where several lists grow side by side. No program is named here. -/
namespace Go.Proofs.YtfnlhfaihoojfaaDoor
open Go.RowKit
/-- Two values do not hold one block. -/
def Apart (v u : Value) : Prop := ∀ k, v.ownBlock = some k → u.ownBlock ≠ some k
theorem Apart.symm' {v u : Value} (h : Apart v u) : Apart u v := fun k hk hv => h k hv hk
theorem apart_nil (c n : Nat) (u : Value) : Apart (.slice none n c) u := fun k hk => by cases hk
/-- Where a grown list lies: where it lay, or in new memory. -/
def Lies (w : World) (v v' : Value) : Prop := ∀ k, v'.ownBlock = some k → v.ownBlock = some k ∨ w.heap.size ≤ k
theorem apart_step {w : World} {v v' u : Value} (h : Apart v u) (hl : Lies w v v') (hu : ∀ k, u.ownBlock = some k → k < w.heap.size) : Apart v' u := by
  intro k hk hu'
  rcases hl k hk with h1 | h1
  · exact h k h1 hu'
  · have := hu k hu'
    omega
theorem kept_apart {e : TypeId} {w w' : World} {base : Nat} {v u : Value} {xs : List Nat} (h : Own e w base u xs) (hg : w.grownBy w' v.ownBlock) (ha : Apart v u) : Own e w' base u xs := by
  refine h.kept hg ?_
  rcases hb : u.ownBlock with _ | k
  · exact .inl rfl
  · exact .inr fun e => ha k e.symm hb
section
variable {P : Program}
theorem append1At {t e : TypeId} (ht : P.underlying t = some (.slice e)) (hinfo : (P.info? e).map (fun i => (i.zero, i.size, i.bytes)) = some (some (.int .u8 0), 1, 1))
    {ops : Array Oper} {rest : List Oper} {o : Oper} {a : Act} {Q : Exit → Act → World → Prop} (w : World) (hgd : o.guard = none) (s x : Operand)
    (ho : o.op = .call { callee := .builtin .append, args := #[s, x], argTypes := #[t, t] })
    (base : Nat) (v : Value) (xs : List Nat) (hown : Own e w base v xs) (b : Nat) (hb : b < 256) (hs : a.eval s = v) (hx : a.eval x = .slice (some ⟨w.heap.size, 0, none⟩) 1 1)
    (hlen : xs.length + 1 ≤ 140737488355328) (hbase : base ≤ w.heap.size)
    (h : ∀ v' w', Own e w' base v' (xs ++ [b]) → w.grownBy w' v.ownBlock → Lies w v v' → wpList P ops Q rest (a.put o.dst v') w') :
    wpList P ops Q (o :: rest) a (w.alloc (.cells #[.int .u8 (b : Int)] e)) := by
  obtain ⟨i, hi, hz0, hz1, hz2⟩ := info_parts hinfo
  refine wpList_append_own_at (w.alloc (.cells #[.int .u8 (b : Int)] e)) hgd s x t ho base e i (.int .u8 0) 1 1 ht hi hz0 hz1 hz2 rfl (by decide) v xs.length (bvs xs) hs (hown.1.alloc _)
    ⟨w.heap.size, 0, none⟩ 1 1 (bvs [b]) hx rfl (cell_one_new w (.int .u8 (b : Int)) e) ?_ (by unfold maxLen; omega) (by omega) (by simp; omega) ?_
  · intro u hu
    simp [bvs, bv] at hu
    subst hu
    rfl
  · intro v' w' h1 h2 _ h4
    refine h v' w' ⟨by simpa [bvs] using h1, hown.2.app (IsB.one hb)⟩ (grown_trans (World.grownBy_alloc _ _ _) h2) ?_
    intro k hk
    rcases h4 with h4 | h4
    · rw [h4] at hk
      exact .inl hk
    · rw [h4] at hk
      injection hk with hk
      simp at hk
      exact .inr (by omega)
end
end Go.Proofs.YtfnlhfaihoojfaaDoor

/- 'l = append(l, src...)' where several lists grow side by side. No program is named here. -/
namespace Go.Proofs.YtfnlhfaihoojfaaDoor
open Go.RowKit
section
variable {P : Program}
theorem Lies.refl (w : World) (v : Value) : Lies w v v := fun _ h => .inl h
theorem appendRBAt {t e : TypeId} (ht : P.underlying t = some (.slice e)) (hinfo : (P.info? e).map (fun i => (i.zero, i.size, i.bytes)) = some (some (.int .u8 0), 1, 1))
    {ops : Array Oper} {rest : List Oper} {o : Oper} {a : Act} {Q : Exit → Act → World → Prop} (w : World) (hgd : o.guard = none) (s x : Operand)
    (ho : o.op = .call { callee := .builtin .append, args := #[s, x], argTypes := #[t, t] })
    (base : Nat) (v : Value) (xs : List Nat) (hown : Own e w base v xs) (A : Option Addr) (m c : Nat) (ys : List Nat) (hr : RB w A m ys) (hA : A = none → c = 0)
    (hs : a.eval s = v) (hx : a.eval x = .slice A m c)
    (hlen : xs.length + m ≤ 140737488355328) (hbase : base ≤ w.heap.size)
    (h : ∀ v' w', Own e w' base v' (xs ++ ys) → w.grownBy w' v.ownBlock → Lies w v v' → wpList P ops Q rest (a.put o.dst v') w') :
    wpList P ops Q (o :: rest) a w := by
  obtain ⟨i, hi, hz0, hz1, hz2⟩ := info_parts hinfo
  rcases A with _ | ad
  · obtain rfl := hA rfl
    have hm : m = 0 := by
      rcases Nat.eq_zero_or_pos m with h0 | h0
      · exact h0
      · obtain ⟨ad, e', _⟩ := hr.2.2 h0
        cases e'
    subst hm
    have hys : ys = [] := List.eq_nil_of_length_eq_zero hr.1
    subst hys
    refine wpList_append_own_none hgd s x t ho base e i 1 ht hi v xs.length (bvs xs) hs hown.1 hx ?_
    exact h v w (by simpa using hown) (World.grownBy.refl w _) (Lies.refl w v)
  · refine wpList_append_own_at w hgd s x t ho base e i (.int .u8 0) 1 1 ht hi hz0 hz1 hz2 rfl (by decide) v xs.length (bvs xs) hs hown.1
      ad m c (bvs ys) hx (by simp [bvs, hr.1]) ?_ (bvs_oneCell ys) (by unfold maxLen; omega) (by omega) hbase ?_
    · intro j u hj
      simp only [bvs, List.getElem?_map, Option.map_eq_some_iff] at hj
      obtain ⟨x, hx, rfl⟩ := hj
      have hjm : j < ys.length := by
        rcases Nat.lt_or_ge j ys.length with h | h
        · exact h
        · rw [List.getElem?_eq_none h] at hx; cases hx
      obtain ⟨ad', e', _, hc⟩ := hr.2.2 (by have := hr.1; omega)
      injection e' with e'
      subst e'
      exact hc j x hx
    · intro v' w' h1 h2 _ h4
      refine h v' w' ⟨by rw [List.length_append, hr.1]; simpa [bvs] using h1, hown.2.app hr.2.1⟩ h2 ?_
      intro k hk
      rcases h4 with h4 | h4
      · rw [h4] at hk
        exact .inl hk
      · rw [h4] at hk
        injection hk with hk
        exact .inr (by omega)
end
end Go.Proofs.YtfnlhfaihoojfaaDoor

/- Proofs that are checked without a store, plain: no function of the program is named here. -/
namespace Go.Proofs.YtfnlhfaihoojfaaDoor
def leafT (k v : List Nat) : List Nat := 0 :: (k ++ v)
def branchT (w : Int) (l r : List Nat) : List Nat := 1 :: (l.take (cutK w) ++ r.take (cutK w))
/-- The digest of a text, cut to the width. -/
def nodeD (w : Int) (t : List Nat) : List Nat := cutN (shaN t) w
def emptyD (w : Int) : Nat → List Nat
  | 0 => nodeD w [2]
  | h + 1 => nodeD w (branchT w (emptyD w h) (emptyD w h))
/-- What a proof's bytes say. -/
structure Pr where
  found : Bool
  val : List Nat
  bits : List Nat
  sums : List (List Nat)
def bitP (bits : List Nat) (h : Nat) : Bool := decide (bits.getD (h / 8) 0 / 2 ^ (h % 8) % 2 = 1)
/-- How many of the first h bits are set. -/
def cntP (bits : List Nat) : Nat → Nat
  | 0 => 0
  | h + 1 => cntP bits h + if bitP bits h then 1 else 0
def nearP (w : Int) (p : Pr) (h : Nat) : List Nat := if bitP p.bits h then p.sums.getD (cntP p.bits h) (zs 32) else emptyD w h
/-- No byte at or beyond the width is other than zero. -/
def tidyB (w : Int) (d : List Nat) : Bool := decide (∀ b ∈ d.drop (cutK w), b = 0)
def badP (w : Int) (p : Pr) (h : Nat) : Nat :=
  if bitP p.bits h then (if tidyB w (nearP w p h) then (if nearP w p h = emptyD w h then 130 else 0) else 120) else 0
/-- The first thing that is wrong with the first n heights. -/
def formP (w : Int) (p : Pr) : Nat → Nat
  | 0 => 0
  | n + 1 => if formP w p n = 0 then badP w p n else formP w p n
def sidesN (k : List Nat) (h : Nat) (d n : List Nat) : List Nat × List Nat := if bitK k (255 - h) = 0 then (d, n) else (n, d)
def upT (w : Int) (k : List Nat) (h : Nat) (d n : List Nat) : List Nat := branchT w (sidesN k h d n).1 (sidesN k h d n).2
/-- The path from a digest of height 0 on. -/
def pathD (w : Int) (k d0 : List Nat) (near : Nat → List Nat) : Nat → List Nat
  | 0 => d0
  | h + 1 => nodeD w (upT w k h (pathD w k d0 near h) (near h))
def startT (k : List Nat) (found : Bool) (val : List Nat) : List Nat := if found then leafT k val else [2]
def pathP (w : Int) (k : List Nat) (p : Pr) (h : Nat) : List Nat := pathD w k (nodeD w (startT k p.found p.val)) (nearP w p) h
def textP (w : Int) (k : List Nat) (p : Pr) : Nat → List Nat
  | 0 => startT k p.found p.val
  | h + 1 => upT w k h (pathP w k p h) (nearP w p h)
theorem pathP_text (w : Int) (k : List Nat) (p : Pr) (h : Nat) : pathP w k p h = nodeD w (textP w k p h) := by
  cases h with
  | zero => rfl
  | succ h => rfl
def ones8 (x : Nat) : Nat := x % 2 + x / 2 % 2 + x / 4 % 2 + x / 8 % 2 + x / 16 % 2 + x / 32 % 2 + x / 64 % 2 + x / 128 % 2
def onesN (bits : List Nat) : Nat := (bits.map ones8).sum
def chunksN : Nat → List Nat → List (List Nat)
  | 0, _ => []
  | n + 1, xs => xs.take 32 :: chunksN n (xs.drop 32)
/-- What a proof's first bytes say of the key; what stands behind them. -/
def headN (raw : List Nat) : Option (Bool × List Nat × List Nat) :=
  if raw.length = 0 then none
  else if raw.getD 0 0 = 0 then some (false, [], raw.drop 1)
  else if raw.getD 0 0 = 1 ∧ 3 ≤ raw.length ∧ raw.getD 1 0 + 256 * raw.getD 2 0 ≤ 128 ∧ 3 + (raw.getD 1 0 + 256 * raw.getD 2 0) ≤ raw.length then
    some (true, (raw.drop 3).take (raw.getD 1 0 + 256 * raw.getD 2 0), raw.drop (3 + (raw.getD 1 0 + 256 * raw.getD 2 0)))
  else none
def tailN (f : Bool) (v r : List Nat) : Option Pr :=
  if 32 ≤ r.length ∧ r.length = 32 + 32 * onesN (r.take 32) then some ⟨f, v, r.take 32, chunksN (onesN (r.take 32)) (r.drop 32)⟩ else none
def decN (raw : List Nat) : Option Pr :=
  match headN raw with
  | none => none
  | some (f, v, r) => tailN f v r
def encN (p : Pr) : List Nat := (if p.found then 1 :: p.val.length % 256 :: p.val.length / 256 :: p.val else [0]) ++ (p.bits ++ p.sums.flatten)
/-- What every proof that was read has. -/
structure Pr.Ok (p : Pr) : Prop where
  vB : IsB p.val
  vl : p.val.length ≤ 128
  vn : p.found = false → p.val = []
  bB : IsB p.bits
  bl : p.bits.length = 32
  sB : ∀ s ∈ p.sums, IsB s ∧ s.length = 32
  sl : p.sums.length = onesN p.bits
theorem chunksN_length (n : Nat) (xs : List Nat) : (chunksN n xs).length = n := by
  induction n generalizing xs with
  | zero => rfl
  | succ n ih => simp [chunksN, ih]
theorem chunksN_flat {n : Nat} {xs : List Nat} (h : xs.length = 32 * n) : (chunksN n xs).flatten = xs := by
  induction n generalizing xs with
  | zero => simp [chunksN, List.eq_nil_of_length_eq_zero (show xs.length = 0 by omega)]
  | succ n ih =>
    rw [chunksN, List.flatten_cons, ih (by rw [List.length_drop]; omega), List.take_append_drop]
theorem chunksN_mem {n : Nat} {xs : List Nat} (h : xs.length = 32 * n) (hB : IsB xs) : ∀ s ∈ chunksN n xs, IsB s ∧ s.length = 32 := by
  induction n generalizing xs with
  | zero => intro s hs; cases hs
  | succ n ih =>
    intro s hs
    rw [chunksN] at hs
    rcases List.mem_cons.1 hs with rfl | hs
    · exact ⟨hB.take _, by rw [List.length_take]; omega⟩
    · exact ih (by rw [List.length_drop]; omega) (hB.drop _) s hs
theorem chunksN_getD {n : Nat} {xs : List Nat} (h : xs.length = 32 * n) {i : Nat} (hi : i < n) (d : List Nat) : (chunksN n xs).getD i d = (xs.drop (32 * i)).take 32 := by
  induction n generalizing xs i with
  | zero => omega
  | succ n ih =>
    rw [chunksN]
    cases i with
    | zero => simp
    | succ i =>
      rw [List.getD_cons_succ, ih (by rw [List.length_drop]; omega) (by omega), List.drop_drop]
      congr 2
      omega
theorem headN_some {raw : List Nat} {f : Bool} {v r : List Nat} (hB : IsB raw) (h : headN raw = some (f, v, r)) :
    IsB v ∧ v.length ≤ 128 ∧ (f = false → v = []) ∧ IsB r ∧ raw = (if f then 1 :: v.length % 256 :: v.length / 256 :: v else [0]) ++ r := by
  unfold headN at h
  by_cases h0 : raw.length = 0
  · rw [if_pos h0] at h; cases h
  · rw [if_neg h0] at h
    by_cases h1 : raw.getD 0 0 = 0
    · rw [if_pos h1] at h
      injection h with h
      injection h with e1 h
      injection h with e2 e3
      subst e1 e2 e3
      refine ⟨IsB.nil, by simp, fun _ => rfl, hB.drop _, ?_⟩
      cases raw with
      | nil => simp at h0
      | cons x t =>
        simp at h1
        simp [h1]
    · rw [if_neg h1] at h
      by_cases h2 : raw.getD 0 0 = 1 ∧ 3 ≤ raw.length ∧ raw.getD 1 0 + 256 * raw.getD 2 0 ≤ 128 ∧ 3 + (raw.getD 1 0 + 256 * raw.getD 2 0) ≤ raw.length
      · rw [if_pos h2] at h
        injection h with h
        injection h with e1 h
        injection h with e2 e3
        obtain ⟨a0, a1, a2, a3⟩ := h2
        have hl : v.length = raw.getD 1 0 + 256 * raw.getD 2 0 := by
          rw [← e2, List.length_take, List.length_drop]; omega
        have hb1 : raw.getD 1 0 < 256 := hB _ (getD_mem (by omega))
        have hb2 : raw.getD 2 0 < 256 := hB _ (getD_mem (by omega))
        subst e1
        refine ⟨by rw [← e2]; exact (hB.drop _).take _, by omega, fun e => (by cases e), by rw [← e3]; exact hB.drop _, ?_⟩
        rw [if_pos rfl]
        have q1 : v.length % 256 = raw.getD 1 0 := by omega
        have q2 : v.length / 256 = raw.getD 2 0 := by omega
        rw [q1, q2, ← e3, ← e2]
        cases raw with
        | nil => simp at h0
        | cons x t =>
          cases t with
          | nil => simp at a1
          | cons y t =>
            cases t with
            | nil => simp at a1
            | cons z t =>
              simp at a0
              simp only [List.getD_cons_zero, List.getD_cons_succ, List.drop_succ_cons, List.drop_zero, List.cons_append, a0]
              rw [show 3 + (y + 256 * z) = (y + 256 * z) + 3 by omega]
              simp only [List.drop_succ_cons, List.take_append_drop]
      · rw [if_neg h2] at h; cases h
theorem decN_some {raw : List Nat} {p : Pr} (hB : IsB raw) (h : decN raw = some p) : p.Ok ∧ raw = encN p := by
  unfold decN at h
  cases hh : headN raw with
  | none => rw [hh] at h; cases h
  | some x =>
    obtain ⟨f, v, r⟩ := x
    rw [hh] at h
    obtain ⟨h1, h2, h3, h4, h5⟩ := headN_some hB hh
    change tailN f v r = some p at h
    unfold tailN at h
    by_cases hc : 32 ≤ r.length ∧ r.length = 32 + 32 * onesN (r.take 32)
    · rw [if_pos hc] at h
      injection h with h
      subst h
      have hl : (r.drop 32).length = 32 * onesN (r.take 32) := by rw [List.length_drop]; omega
      refine ⟨⟨h1, h2, h3, h4.take _, by rw [List.length_take]; omega, chunksN_mem hl (h4.drop _), chunksN_length _ _⟩, ?_⟩
      show raw = _ ++ (r.take 32 ++ (chunksN (onesN (r.take 32)) (r.drop 32)).flatten)
      rw [chunksN_flat hl, List.take_append_drop]
      exact h5
    · rw [if_neg hc] at h; cases h
theorem cutK_pos {w : Int} (h : 1 ≤ w) (h2 : w ≤ 32) : ((cutK w : Nat) : Int) = w := by unfold cutK; omega
theorem nodeD_length (w : Int) (t : List Nat) : (nodeD w t).length = 32 := cutN_length (shaN_length t) w
theorem nodeD_isB (w : Int) (t : List Nat) : IsB (nodeD w t) := cutN_isB (shaN_isB t) w
theorem nodeD_tidy (w : Int) (t : List Nat) : tidyB w (nodeD w t) = true := by
  unfold tidyB nodeD cutN
  rw [decide_eq_true_eq]
  intro b hb
  have hc := cutK_le w
  have hl : ((shaN t).take (cutK w)).length = cutK w := by rw [List.length_take, shaN_length]; omega
  have e : ((shaN t).take (cutK w) ++ zs (32 - cutK w)).drop (cutK w) = zs (32 - cutK w) := by
    have h1 := List.drop_left (l₁ := (shaN t).take (cutK w)) (l₂ := zs (32 - cutK w))
    rwa [hl] at h1
  rw [e] at hb
  exact zs_all _ b hb
theorem emptyD_length (w : Int) (h : Nat) : (emptyD w h).length = 32 := by cases h <;> exact nodeD_length _ _
theorem emptyD_isB (w : Int) (h : Nat) : IsB (emptyD w h) := by cases h <;> exact nodeD_isB _ _
theorem emptyD_tidy (w : Int) (h : Nat) : tidyB w (emptyD w h) = true := by cases h <;> exact nodeD_tidy _ _
theorem tidy_ext {w : Int} {d e : List Nat} (hd : d.length = 32) (he : e.length = 32) (h1 : tidyB w d = true) (h2 : tidyB w e = true) (h : d.take (cutK w) = e.take (cutK w)) : d = e := by
  unfold tidyB at h1 h2
  rw [decide_eq_true_eq] at h1 h2
  have q1 := zs_of h1
  have q2 := zs_of h2
  rw [List.length_drop, hd] at q1
  rw [List.length_drop, he] at q2
  rw [← List.take_append_drop (cutK w) d, ← List.take_append_drop (cutK w) e, q1, q2, h]
theorem branchT_inj {w : Int} {l r l' r' : List Nat} (h1 : l.length = 32) (h2 : l'.length = 32) (h : branchT w l r = branchT w l' r') : l.take (cutK w) = l'.take (cutK w) ∧ r.take (cutK w) = r'.take (cutK w) := by
  unfold branchT at h
  injection h with _ h
  exact List.append_inj h (by rw [List.length_take, List.length_take, h1, h2])
theorem upT_inj {w : Int} {k : List Nat} {h : Nat} {d n d' n' : List Nat} (hd : d.length = 32) (hn : n.length = 32) (hd' : d'.length = 32) (hn' : n'.length = 32) (td : tidyB w d = true) (tn : tidyB w n = true) (td' : tidyB w d' = true) (tn' : tidyB w n' = true)
    (e : upT w k h d n = upT w k h d' n') : d = d' ∧ n = n' := by
  unfold upT sidesN at e
  by_cases hb : bitK k (255 - h) = 0
  · rw [if_pos hb, if_pos hb] at e
    obtain ⟨a, b⟩ := branchT_inj hd hd' e
    exact ⟨tidy_ext hd hd' td td' a, tidy_ext hn hn' tn tn' b⟩
  · rw [if_neg hb, if_neg hb] at e
    obtain ⟨a, b⟩ := branchT_inj hn hn' e
    exact ⟨tidy_ext hd hd' td td' b, tidy_ext hn hn' tn tn' a⟩
theorem formP_zero {w : Int} {p : Pr} {n : Nat} (h : formP w p n = 0) : ∀ j, j < n → badP w p j = 0 := by
  induction n with
  | zero => intro j hj; omega
  | succ n ih =>
    unfold formP at h
    by_cases h0 : formP w p n = 0
    · rw [if_pos h0] at h
      intro j hj
      rcases Nat.lt_or_ge j n with h1 | h1
      · exact ih h0 j h1
      · obtain rfl : j = n := by omega
        exact h
    · rw [if_neg h0] at h
      exact absurd h h0
theorem formP_of {w : Int} {p : Pr} {n : Nat} (h : ∀ j, j < n → badP w p j = 0) : formP w p n = 0 := by
  induction n with
  | zero => rfl
  | succ n ih =>
    unfold formP
    rw [if_pos (ih fun j hj => h j (by omega))]
    exact h n (by omega)
theorem formP_stop {w : Int} {p : Pr} {n m : Nat} (h : formP w p n ≠ 0) (hm : n ≤ m) : formP w p m = formP w p n := by
  induction m with
  | zero => obtain rfl : n = 0 := by omega
            rfl
  | succ m ih =>
    rcases Nat.lt_or_ge m n with h1 | h1
    · obtain rfl : n = m + 1 := by omega
      rfl
    · have e := ih h1
      rw [formP, if_neg (by rw [e]; exact h), e]
theorem cntP_le (bits : List Nat) {a b : Nat} (h : a ≤ b) : cntP bits a ≤ cntP bits b := by
  induction b with
  | zero => obtain rfl : a = 0 := by omega
            exact Nat.le_refl _
  | succ b ih =>
    rcases Nat.lt_or_ge b a with h1 | h1
    · obtain rfl : a = b + 1 := by omega
      exact Nat.le_refl _
    · have := ih h1
      rw [cntP]
      omega
theorem cntP_lt {bits : List Nat} {h n : Nat} (hb : bitP bits h = true) (hn : h < n) : cntP bits h < cntP bits n := by
  have h1 := cntP_le bits (show h + 1 ≤ n by omega)
  rw [cntP, if_pos hb] at h1
  omega
theorem bit_add (x q : Nat) : (if decide (x / q % 2 = 1) = true then 1 else 0) = x / q % 2 := by
  by_cases h : x / q % 2 = 1
  · rw [if_pos (by simpa using h), h]
  · rw [if_neg (by simpa using h)]
    omega
theorem cntP_eight (bits : List Nat) (m : Nat) : cntP bits (8 * m + 8) = cntP bits (8 * m) + ones8 (bits.getD m 0) := by
  have e : ∀ j, j < 8 → bitP bits (8 * m + j) = decide (bits.getD m 0 / 2 ^ j % 2 = 1) := fun j hj => by
    unfold bitP
    rw [show (8 * m + j) / 8 = m by omega, show (8 * m + j) % 8 = j by omega]
  have f : ∀ j, j < 8 → cntP bits (8 * m + j + 1) = cntP bits (8 * m + j) + bits.getD m 0 / 2 ^ j % 2 := fun j hj => by
    rw [cntP, e j hj, bit_add]
  rw [show 8 * m + 8 = 8 * m + 7 + 1 by omega, f 7 (by omega), f 6 (by omega), f 5 (by omega), f 4 (by omega), f 3 (by omega), f 2 (by omega), f 1 (by omega)]
  rw [show cntP bits (8 * m + 1) = cntP bits (8 * m + 0 + 1) from rfl, f 0 (by omega)]
  unfold ones8
  generalize bits.getD m 0 = x
  rw [show 8 * m + 0 = 8 * m by omega, show x / 2 ^ 0 = x by simp, show 2 ^ 1 = 2 from rfl, show 2 ^ 2 = 4 from rfl, show 2 ^ 3 = 8 from rfl, show 2 ^ 4 = 16 from rfl, show 2 ^ 5 = 32 from rfl, show 2 ^ 6 = 64 from rfl, show 2 ^ 7 = 128 from rfl]
  omega
theorem cntP_take (bits : List Nat) {m : Nat} (h : m ≤ bits.length) : cntP bits (8 * m) = onesN (bits.take m) := by
  induction m with
  | zero => rfl
  | succ m ih =>
    rw [show 8 * (m + 1) = 8 * m + 8 by omega, cntP_eight, ih (by omega), take_succ_getD (by omega)]
    unfold onesN
    rw [List.map_append, List.sum_append]
    simp
theorem onesN_cnt {bits : List Nat} (h : bits.length = 32) : onesN bits = cntP bits 256 := by
  have h1 := cntP_take bits (m := 32) (by omega)
  rw [show 8 * 32 = 256 from rfl, List.take_of_length_le (by omega)] at h1
  exact h1.symm
theorem getD_idx {α : Type} (l : List α) (d : α) {i : Nat} (h : i < l.length) : l.getD i d = l[i] := by simp [List.getD, h]
theorem nearP_facts {w : Int} {p : Pr} (hp : p.Ok) {h : Nat} (hh : h < 256) : (nearP w p h).length = 32 ∧ IsB (nearP w p h) := by
  unfold nearP
  by_cases hb : bitP p.bits h = true
  · rw [if_pos hb]
    have hlt : cntP p.bits h < p.sums.length := by
      rw [hp.sl, onesN_cnt hp.bl]
      exact cntP_lt hb hh
    have hm : p.sums.getD (cntP p.bits h) (zs 32) ∈ p.sums := by
      rw [getD_idx _ _ hlt]
      exact List.getElem_mem hlt
    exact ⟨(hp.sB _ hm).2, (hp.sB _ hm).1⟩
  · rw [if_neg hb]
    exact ⟨emptyD_length _ _, emptyD_isB _ _⟩
theorem nearP_tidy {w : Int} {p : Pr} (hf : formP w p 256 = 0) {h : Nat} (hh : h < 256) : tidyB w (nearP w p h) = true := by
  have h1 := formP_zero hf h hh
  unfold badP at h1
  by_cases hb : bitP p.bits h = true
  · rw [if_pos hb] at h1
    by_cases ht : tidyB w (nearP w p h) = true
    · exact ht
    · rw [if_neg ht] at h1; cases h1
  · unfold nearP
    rw [if_neg hb]
    exact emptyD_tidy _ _
theorem nearP_bit {w : Int} {p : Pr} (hf : formP w p 256 = 0) {h : Nat} (hh : h < 256) : bitP p.bits h = decide (nearP w p h ≠ emptyD w h) := by
  have h1 := formP_zero hf h hh
  unfold badP at h1
  by_cases hb : bitP p.bits h = true
  · rw [if_pos hb] at h1
    by_cases ht : tidyB w (nearP w p h) = true
    · rw [if_pos ht] at h1
      by_cases he : nearP w p h = emptyD w h
      · rw [if_pos he] at h1; cases h1
      · rw [hb]; exact (decide_eq_true he).symm
    · rw [if_neg ht] at h1; cases h1
  · have e : nearP w p h = emptyD w h := by unfold nearP; rw [if_neg hb]
    rw [Bool.eq_false_iff.2 hb]
    simp [e]
theorem cntP_surj {bits : List Nat} {n i : Nat} (h : i < cntP bits n) : ∃ k, k < n ∧ bitP bits k = true ∧ cntP bits k = i := by
  induction n with
  | zero => simp [cntP] at h
  | succ n ih =>
    rw [cntP] at h
    by_cases h1 : i < cntP bits n
    · obtain ⟨k, a, b, c⟩ := ih h1
      exact ⟨k, by omega, b, c⟩
    · by_cases hb : bitP bits n = true
      · rw [if_pos hb] at h
        exact ⟨n, by omega, hb, by omega⟩
      · rw [if_neg hb] at h
        omega
theorem bits_ext {xs ys : List Nat} (h1 : xs.length = 32) (h2 : ys.length = 32) (b1 : IsB xs) (b2 : IsB ys) (h : ∀ j, j < 256 → bitP xs j = bitP ys j) : xs = ys := by
  apply List.ext_getElem (by omega)
  intro i hi1 hi2
  have x1 : xs.getD i 0 = xs[i] := by simp [List.getD, hi1]
  have y1 : ys.getD i 0 = ys[i] := by simp [List.getD, hi2]
  rw [← x1, ← y1]
  have bx := b1 _ (getD_mem hi1)
  have by' := b2 _ (getD_mem hi2)
  apply Nat.eq_of_testBit_eq
  intro j
  rcases Nat.lt_or_ge j 8 with hj | hj
  · have hk := h (8 * i + j) (by omega)
    unfold bitP at hk
    rw [show (8 * i + j) / 8 = i by omega, show (8 * i + j) % 8 = j by omega] at hk
    rw [Nat.testBit_eq_decide_div_mod_eq, Nat.testBit_eq_decide_div_mod_eq]
    exact hk
  · have hp : 2 ^ 8 ≤ 2 ^ j := Nat.pow_le_pow_right (by decide) hj
    rw [Nat.testBit_lt_two_pow (by omega), Nat.testBit_lt_two_pow (by omega)]
theorem cntP_congr {xs ys : List Nat} {n : Nat} (h : ∀ j, j < n → bitP xs j = bitP ys j) : cntP xs n = cntP ys n := by
  induction n with
  | zero => rfl
  | succ n ih => rw [cntP, cntP, ih fun j hj => h j (by omega), h n (by omega)]
/-- What a proof says of the key and of its neighbours is all that it holds. -/
theorem pr_ext {w : Int} {p q : Pr} (hp : p.Ok) (hq : q.Ok) (fp : formP w p 256 = 0) (fq : formP w q 256 = 0) (h1 : p.found = q.found) (h2 : p.val = q.val) (h3 : ∀ h, h < 256 → nearP w p h = nearP w q h) : p = q := by
  have hb : ∀ h, h < 256 → bitP p.bits h = bitP q.bits h := fun h hh => by rw [nearP_bit fp hh, nearP_bit fq hh, h3 h hh]
  have e1 : p.bits = q.bits := bits_ext hp.bl hq.bl hp.bB hq.bB hb
  have e2 : p.sums = q.sums := by
    apply List.ext_getElem
    · rw [hp.sl, hq.sl, e1]
    · intro i hi1 hi2
      have hi : i < cntP p.bits 256 := by rw [← onesN_cnt hp.bl, ← hp.sl]; exact hi1
      obtain ⟨k, a, b, c⟩ := cntP_surj hi
      have h := h3 k a
      unfold nearP at h
      rw [if_pos b, if_pos (by rw [← hb k a]; exact b), cntP_congr (xs := q.bits) (ys := p.bits) (fun j hj => (hb j (by omega)).symm), c, getD_idx _ _ hi1, getD_idx _ _ hi2] at h
      exact h
  obtain ⟨pf, pv, pb, ps⟩ := p
  obtain ⟨qf, qv, qb, qs⟩ := q
  simp only at h1 h2 e1 e2
  subst h1 h2 e1 e2
  rfl
theorem pathP_facts (w : Int) (k : List Nat) (p : Pr) (h : Nat) : (pathP w k p h).length = 32 ∧ tidyB w (pathP w k p h) = true := by
  rw [pathP_text]
  exact ⟨nodeD_length _ _, nodeD_tidy _ _⟩
/-- Where two proofs lead to one root: at the highest unlike texts the digests are alike. -/
theorem texts_meet {w : Int} {k : List Nat} {p q : Pr} (hp : p.Ok) (hq : q.Ok) (fp : formP w p 256 = 0) (fq : formP w q 256 = 0) (hr : pathP w k p 256 = pathP w k q 256) {h : Nat} (hh : h ≤ 256) (hu : ∀ j, h < j → j ≤ 256 → textP w k p j = textP w k q j) : pathP w k p h = pathP w k q h := by
  rcases Nat.lt_or_ge h 256 with h1 | h1
  · have e := hu (h + 1) (by omega) (by omega)
    exact (upT_inj (pathP_facts w k p h).1 (nearP_facts hp h1).1 (pathP_facts w k q h).1 (nearP_facts hq h1).1 (pathP_facts w k p h).2 (nearP_tidy fp h1) (pathP_facts w k q h).2 (nearP_tidy fq h1) e).1
  · obtain rfl : h = 256 := by omega
    exact hr
theorem texts_all {w : Int} {k : List Nat} {p q : Pr} (hp : p.Ok) (hq : q.Ok) (fp : formP w p 256 = 0) (fq : formP w q 256 = 0) (hu : ∀ j, j ≤ 256 → textP w k p j = textP w k q j) : p = q := by
  have h0 := hu 0 (by omega)
  have hfv : p.found = q.found ∧ p.val = q.val := by
    change startT k p.found p.val = startT k q.found q.val at h0
    unfold startT leafT at h0
    cases h1 : p.found with
    | false =>
      cases h2 : q.found with
      | false => exact ⟨rfl, by rw [hp.vn h1, hq.vn h2]⟩
      | true => rw [h1, h2] at h0; simp at h0
    | true =>
      cases h2 : q.found with
      | false => rw [h1, h2] at h0; simp at h0
      | true =>
        rw [h1, h2] at h0
        simp at h0
        exact ⟨rfl, h0⟩
  refine pr_ext hp hq fp fq hfv.1 hfv.2 fun h hh => ?_
  have e := hu (h + 1) (by omega)
  exact (upT_inj (pathP_facts w k p h).1 (nearP_facts hp hh).1 (pathP_facts w k q h).1 (nearP_facts hq hh).1 (pathP_facts w k p h).2 (nearP_tidy fp hh) (pathP_facts w k q h).2 (nearP_tidy fq hh) e).2
/-- The error of a check. -/
def errP (w : Int) (root k raw : List Nat) : Nat :=
  if w < 1 ∨ 32 < w then 1 else
  match decN raw with
  | none => 120
  | some p => if formP w p 256 = 0 then (if pathP w k p 256 = root then 0 else 131) else formP w p 256
theorem errP_ok {w : Int} {root k raw : List Nat} (h : errP w root k raw = 0) : 1 ≤ w ∧ w ≤ 32 ∧ ∃ p, decN raw = some p ∧ formP w p 256 = 0 ∧ pathP w k p 256 = root := by
  unfold errP at h
  by_cases hw : w < 1 ∨ 32 < w
  · rw [if_pos hw] at h; cases h
  · rw [if_neg hw] at h
    cases hd : decN raw with
    | none => rw [hd] at h; cases h
    | some p =>
      rw [hd] at h
      dsimp only at h
      by_cases hf : formP w p 256 = 0
      · rw [if_pos hf] at h
        by_cases hr : pathP w k p 256 = root
        · exact ⟨by omega, by omega, p, rfl, hf, hr⟩
        · rw [if_neg hr] at h; cases h
      · rw [if_neg hf] at h
        exact absurd h hf
end Go.Proofs.YtfnlhfaihoojfaaDoor

/- node.within, LeafText, BranchText, Leaf, Branch, Empty. -/
namespace Go.Proofs.YtfnlhfaihoojfaaDoor
open Go.RowKit
section
variable {P : Program}
/-- 'append(l, src...)' as one step of a region that draws its order. -/
theorem wpOp_appendRB {t e : TypeId} (ht : P.underlying t = some (.slice e)) (hinfo : (P.info? e).map (fun i => (i.zero, i.size, i.bytes)) = some (some (.int .u8 0), 1, 1))
    {ops : Array Oper} {Q : Exit → Act → World → Prop} {K : Act → World → Prop} {o : Oper} {a : Act} (hw : Region.wanted o (yielded ops a.tmps) = true) (w : World) (s x : Operand) (ho : o.op = .call { callee := .builtin .append, args := #[s, x], argTypes := #[t, t] })
    (base : Nat) (v : Value) (xs : List Nat) (hown : Own e w base v xs) (ad : Addr) (m c : Nat) (ys : List Nat) (hr : RB w (some ad) m ys) (hs : a.eval s = v) (hx : a.eval x = .slice (some ad) m c)
    (hlen : xs.length + m ≤ 140737488355328) (hbase : base ≤ w.heap.size)
    (h : ∀ v' w', Own e w' base v' (xs ++ ys) → w.grownBy w' v.ownBlock → K (a.put o.dst v') w') :
    if Region.wanted o (yielded ops a.tmps) = true then o.wp P a w K Q else K (a.put o.dst undef) w := by
  obtain ⟨i, hi, hz0, hz1, hz2⟩ := info_parts hinfo
  have hnews : ∀ (q : Nat) (u : Value), (bvs ys)[q]? = some u → w.cell? (ad.add q) = some u := fun j u hj => by
    simp only [bvs, List.getElem?_map, Option.map_eq_some_iff] at hj
    obtain ⟨x, hx, rfl⟩ := hj
    have hjm : j < ys.length := by
      rcases Nat.lt_or_ge j ys.length with h | h
      · exact h
      · rw [List.getElem?_eq_none h] at hx; cases hx
    obtain ⟨ad', e', _, hc⟩ := hr.2.2 (by have := hr.1; omega)
    injection e' with e'
    subst e'
    exact hc j x hx
  obtain ⟨v', w', hrun, q1, q2, _, _⟩ := run_append_own_at (P := P) w base t o.type e i (.int .u8 0) 1 1 ht hi hz0 hz1 hz2 rfl (by decide) v xs.length _ hown.1 ad m c _ (by simp [bvs, hr.1]) hnews (bvs_oneCell ys) (by unfold maxLen; omega) (by omega) hbase
  rw [if_pos hw]
  unfold Oper.wp execOp
  simp only [ho, resolve, invoke, builtin, Sem.run_bind, Sem.run_pure, Result.andThen_ok, List.map_toArray, List.map_cons, List.map_nil, hs, hx, hrun]
  refine h v' w' ⟨?_, hown.2.app hr.2.1⟩ q2
  rw [List.length_append, hr.1]
  simpa [bvs] using q1
end
theorem within32 (n : Int) (w : World) : Calls Tryd.prog 81 #[.int .i64 n, .int .i64 0, .int .i64 32] w fun e w' => e = .returned (.int .i64 (cutK n : Nat)) ∧ w' = w := by
  have HK : Hid (((cutK n : Nat) : Int) = min (max n 0) 32) := by
    show ((cutK n : Nat) : Int) = _
    unfold cutK
    omega
  go_enter Tryd.func81, Tryd.ntmps81
  go_wp2_with fail
  all_goals
    go_ret
    exact ⟨ret_int (by rw [HK.out]; first | omega | (simp; omega)), rfl⟩
set_option maxRecDepth 100000 in
set_option maxHeartbeats 1000000 in
theorem leafText_any (ks : List Nat) (A : Option Addr) (n c : Nat) (xs : List Nat) (w : World) (hk : IsB ks) (hkl : ks.length = 32) (hx : RB w A n xs) (hA : A = none → c = 0) (hn : n ≤ 1073741824) :
    Calls Tryd.prog 60 #[.agg (bvs ks).toArray, .slice A n c] w fun e w' => ∃ v, e = .returned v ∧ OwnU w' w.heap.size v (leafT ks xs) ∧ Below w.heap.size w w' := by
  obtain ⟨i0, hi, hz0, hz1, hz2⟩ := info_parts info_byte
  have HI := Lib.hid (And.intro hi (And.intro hz0 (And.intro hz1 hz2)))
  obtain ⟨w1, hw1⟩ : ∃ w1, w1 = w.alloc (.cells (bvs ks).toArray 31) := ⟨_, rfl⟩
  have HW := Lib.hid hw1
  have HB1 : Hid (Below w.heap.size w w1) := by
    rw [hw1]
    exact (Below.refl _ _).alloc (Nat.le_refl _) _
  have HK1 : Hid (BlkB w1 w.heap.size 31 ks) := by
    rw [hw1]
    exact BlkIs.new w _ _
  have HX1 := Lib.hid (hx.below HB1.out)
  have HKB := Lib.hid hk
  have HKL := Lib.hid hkl
  have HA := Lib.hid hA
  have hn2 : (n : Int) ≤ 1073741824 := by omega
  clear hw1 hk hkl hx hA hi hz0 hz1 hz2 hn
  go_enter Tryd.func60, Tryd.ntmps60
  go_wp2_with (with_reducible refine stopAt (o := ⟨some 9, _, _, _, _, _⟩) ?_)
  rw [← HW.out]
  refine Lib.hid ?_
  refine wpList_make_own w1 (o := ⟨some 9, _, _, _, _, _⟩) rfl _ _ _ rfl w1.heap.size 5 i0 (.int .u8 0) 1 und_bytes HI.out.1 HI.out.2.1 HI.out.2.2.1 .i64 .i64 _ (33 + n) rfl rfl (by simp) (by rw [HI.out.2.2.2]; omega) (by unfold maxLen; omega) (Nat.le_refl _) ?_
  intro w2 hown2 hg2
  have HO2 : Hid (OwnU w2 w1.heap.size (.slice (some ⟨w1.heap.size, 0, none⟩) 0 (33 + n)) []) := ⟨hown2, IsB.nil⟩
  have HB2 := Lib.hid ((Below.refl w1.heap.size w1).grown hg2 (Nat.le_refl _) (fun k hk => by cases hk))
  clear hown2 hg2 HW
  go_wp2_with (first
    | (at_builtin; refine appendRB (o := ⟨some 11, _, _, _, _, _⟩) und_bytes info_byte (w2.alloc _) rfl (.tmp 9) (.tmp 10) rfl w1.heap.size _ [] (HO2.out.below ((Below.refl _ _).alloc (Nat.le_refl _) _)) _ _ _ [0] (RB_new w2 5 #[.int .u8 0] (0, 0) [0] (IsB.one (by decide)) rfl) (fun h => by cases h) rfl rfl (by simp) (by have := HB2.out.size; simp; omega) ?_; intro v3 w3 hown3 hg3; have HO3 : Hid (OwnU w3 w1.heap.size v3 [0]) := hown3; have HB3 := Lib.hid ((HB2.out.alloc HB2.out.size _).grown hg3 (by have := HB2.out.size; simp; omega) HO2.out.ge); clear hown3 hg3)
    | (at_builtin; refine appendRB (o := ⟨some 14, _, _, _, _, _⟩) und_bytes info_byte w3 rfl (.tmp 12) (.tmp 13) rfl w1.heap.size _ [0] HO3.out _ 32 32 ks (BlkB.whole (BlkIs.below HK1.out HB3.out) HKB.out HKL.out) (fun h => by cases h) rfl rfl (by simp) HB3.out.size ?_; intro v4 w4 hown4 hg4; have HO4 : Hid (OwnU w4 w1.heap.size v4 ([0] ++ ks)) := hown4; have HB4 := Lib.hid (HB3.out.grown hg4 HB3.out.size HO3.out.ge); clear hown4 hg4)
    | (at_builtin; refine appendRB (o := ⟨some 16, _, _, _, _, _⟩) und_bytes info_byte w4 rfl (.tmp 14) (.tmp 15) rfl w1.heap.size _ ([0] ++ ks) HO4.out A n c xs (HX1.out.below HB4.out) HA.out rfl rfl (by have := HKL.out; simp; omega) HB4.out.size ?_; intro v5 w5 hown5 hg5; have HO5 : Hid (OwnU w5 w1.heap.size v5 ([0] ++ ks ++ xs)) := hown5; have HB5 := Lib.hid (HB4.out.grown hg5 HB4.out.size HO4.out.ge); clear hown5 hg5))
  go_ret
  refine ⟨_, rfl, ?_, HB1.out.trans (HB5.out.mono HB1.out.size)⟩
  have h := HO5.out.mono HB1.out.size
  rwa [show [0] ++ ks ++ xs = leafT ks xs by simp [leafT]] at h
set_option maxRecDepth 100000 in
theorem branchText_any (wd : Int) (ls rs : List Nat) (w : World) (hl : IsB ls) (hll : ls.length = 32) (hr : IsB rs) (hrl : rs.length = 32) :
    Calls Tryd.prog 62 #[.int .i64 wd, .agg (bvs ls).toArray, .agg (bvs rs).toArray] w fun e w' => ∃ v, e = .returned v ∧ OwnU w' w.heap.size v (branchT wd ls rs) ∧ Below w.heap.size w w' := by
  obtain ⟨i0, hi, hz0, hz1, hz2⟩ := info_parts info_byte
  have HI := Lib.hid (And.intro hi (And.intro hz0 (And.intro hz1 hz2)))
  obtain ⟨w1, hw1⟩ : ∃ w1, w1 = (w.alloc (.cells (bvs ls).toArray 29)).alloc (.cells (bvs rs).toArray 29) := ⟨_, rfl⟩
  have HW := Lib.hid hw1
  have HB1 : Hid (Below w.heap.size w w1) := by
    rw [hw1]
    exact ((Below.refl _ _).alloc (Nat.le_refl _) _).alloc (by simp) _
  have HL1 : Hid (BlkB w1 w.heap.size 29 ls) := by
    rw [hw1]
    exact (BlkIs.new w _ _).alloc _
  have HR1 : Hid (BlkB w1 (w.heap.size + 1) 29 rs) := by
    rw [hw1]
    have h := BlkIs.new (w.alloc (.cells (bvs ls).toArray 29)) 29 (bvs rs).toArray
    rwa [show (w.alloc (.cells (bvs ls).toArray 29)).heap.size = w.heap.size + 1 by simp] at h
  have HLB := Lib.hid (And.intro hl hll)
  have HRB := Lib.hid (And.intro hr hrl)
  have HT : Hid (branchT wd ls rs = [1] ++ ls.take (cutK wd) ++ rs.take (cutK wd)) := by
    show branchT wd ls rs = _
    simp [branchT]
  have hc := cutK_le wd
  have HWI := Lib.hid (fun W => within32 wd W)
  clear hw1 hl hll hr hrl hi hz0 hz1 hz2
  generalize cutK wd = c at *
  have hc2 : (c : Int) ≤ 32 := by omega
  go_enter Tryd.func62, Tryd.ntmps62
  go_wp2_with fail
  rw [← HW.out]
  refine (HWI.out w1).mono ?_
  rintro e w' ⟨rfl, rfl⟩
  clear HWI HW
  go_wp2_with (first
    | (at_make; refine wpList_make_own w' (o := ⟨some 14, _, _, _, _, _⟩) rfl _ _ _ rfl w'.heap.size 5 i0 (.int .u8 0) 1 und_bytes HI.out.1 HI.out.2.1 HI.out.2.2.1 .i64 .i64 _ (1 + 2 * c) rfl rfl (by simp) (by rw [HI.out.2.2.2]; omega) (by unfold maxLen; omega) (Nat.le_refl _) ?_; intro w2 hown2 hg2; have HO2 : Hid (OwnU w2 w'.heap.size (.slice (some ⟨w'.heap.size, 0, none⟩) 0 (1 + 2 * c)) []) := ⟨hown2, IsB.nil⟩; have HB2 := Lib.hid ((Below.refl w'.heap.size w').grown hg2 (Nat.le_refl _) (fun k hk => by cases hk)); clear hown2 hg2)
    | (at_builtin; refine appendRB (o := ⟨some 16, _, _, _, _, _⟩) und_bytes info_byte (w2.alloc _) rfl (.tmp 14) (.tmp 15) rfl w'.heap.size _ [] (HO2.out.below ((Below.refl _ _).alloc (Nat.le_refl _) _)) _ _ _ [1] (RB_new w2 5 #[.int .u8 1] (0, 0) [1] (IsB.one (by decide)) rfl) (fun h => by cases h) rfl rfl (by simp) (by have := HB2.out.size; simp; omega) ?_; intro v3 w3 hown3 hg3; have HO3 : Hid (OwnU w3 w'.heap.size v3 [1]) := hown3; have HB3 := Lib.hid ((HB2.out.alloc HB2.out.size _).grown hg3 (by have := HB2.out.size; simp; omega) HO2.out.ge); clear hown3 hg3))
  rename_i KK hKK
  have HKK := Lib.hid hKK
  clear hKK
  refine wp_region_held_drew (S := fun _ => True) (by kernel_rfl) trivial fun hH => ?_
  replace HO3 : Hid (OwnU w3.drew w'.heap.size v3 [1]) := HO3.out.below (drewN_below (Below.refl _ _) 1)
  replace HB3 : Hid (Below w'.heap.size w' w3.drew) := drewN_below HB3.out 1
  generalize w3.drew = w3 at *
  refine wpAnyH_take (i := 0) (oi := ⟨some 17, _, _, _, _, _⟩) rfl (by kernel_rfl) (by kernel_rfl) (by kernel_rfl) (fun _ _ _ h => h) (Or.inl ⟨by rfl, fun w hw => by (try dsimp only at hw); go_simp; with_reducible rfl⟩) (by assumption) ?_
  try simp only [Act.put, List.setIfInBounds_toArray, List.set_cons_zero, List.set_cons_succ]
  refine wpAnyH_take (i := 1) (oi := ⟨some 18, _, _, _, _, _⟩) rfl (by kernel_rfl) (by kernel_rfl) (by kernel_rfl) (fun _ _ _ h => h) (Or.inl ⟨by rfl, fun w hw => by (try dsimp only at hw); go_simp; with_reducible rfl⟩) (by assumption) ?_
  try simp only [Act.put, List.setIfInBounds_toArray, List.set_cons_zero, List.set_cons_succ]
  refine wpAnyH_take (i := 2) (oi := ⟨some 19, _, _, _, _, _⟩) rfl (by kernel_rfl) (by kernel_rfl) (by kernel_rfl) (fun _ _ _ h => h) (Or.inl ⟨by rfl, fun w hw => by (try dsimp only at hw); go_simp; with_reducible rfl⟩) (by assumption) ?_
  try simp only [Act.put, List.setIfInBounds_toArray, List.set_cons_zero, List.set_cons_succ]
  refine wpAnyH_take (i := 4) (oi := ⟨some 21, _, _, _, _, _⟩) rfl (by kernel_rfl) (by kernel_rfl) (by kernel_rfl) (fun _ _ _ h => h) (Or.inl ⟨by rfl, fun w hw => by (try dsimp only at hw); go_simp; with_reducible rfl⟩) (by assumption) ?_
  try simp only [Act.put, List.setIfInBounds_toArray, List.set_cons_zero, List.set_cons_succ]
  refine wpAnyH_take (i := 5) (oi := ⟨some 22, _, _, _, _, _⟩) rfl (by kernel_rfl) (by kernel_rfl) (by kernel_rfl) (fun _ _ _ h => h) (Or.inl ⟨by rfl, fun w hw => by (try dsimp only at hw); go_simp; with_reducible rfl⟩) (by assumption) ?_
  try simp only [Act.put, List.setIfInBounds_toArray, List.set_cons_zero, List.set_cons_succ]
  refine wpAnyH_ready (rs := [3]) (by kernel_rfl) (by simp) ?_
  refine AllReadyH.cons (o := ⟨some 20, _, _, _, _, _⟩) rfl (fun K hK => ?_) (AllReadyH.nil)
  refine wpOp_appendRB (o := ⟨some 20, _, _, _, _, _⟩) und_bytes info_byte (by kernel_rfl) w3 (.tmp 17) (.tmp 19) rfl w'.heap.size _ [1] HO3.out _ c 32 (ls.take c) ((BlkB.whole (BlkIs.below HL1.out HB3.out) HLB.out.1 HLB.out.2).take (by omega)) rfl rfl (by simp; omega) HB3.out.size ?_
  intro v4 w4 hown4 hg4
  have HO4 : Hid (OwnU w4 w'.heap.size v4 ([1] ++ ls.take c)) := hown4
  have HB4 := Lib.hid (HB3.out.grown hg4 HB3.out.size HO3.out.ge)
  refine hK.out _ _ trivial (fun hH4 => ?_)
  clear hK hown4 hg4 hH
  refine wpAnyH_ready (rs := [6]) (by kernel_rfl) (by simp) ?_
  refine AllReadyH.cons (o := ⟨some 23, _, _, _, _, _⟩) rfl (fun K hK => ?_) (AllReadyH.nil)
  refine wpOp_appendRB (o := ⟨some 23, _, _, _, _, _⟩) und_bytes info_byte (by kernel_rfl) w4 (.tmp 20) (.tmp 22) rfl w'.heap.size _ ([1] ++ ls.take c) HO4.out _ c 32 (rs.take c) ((BlkB.whole (BlkIs.below HR1.out HB4.out) HRB.out.1 HRB.out.2).take (by omega)) rfl rfl (by simp; omega) HB4.out.size ?_
  intro v5 w5 hown5 hg5
  have HO5 : Hid (OwnU w5 w'.heap.size v5 ([1] ++ ls.take c ++ rs.take c)) := hown5
  have HB5 := Lib.hid (HB4.out.grown hg5 HB4.out.size HO4.out.ge)
  refine hK.out _ _ trivial (fun hH5 => ?_)
  clear hK hown5 hg5 hH4
  refine wpAnyH_take (i := 7) (oi := ⟨some 6, _, _, _, _, _⟩) rfl (by kernel_rfl) (by kernel_rfl) (by kernel_rfl) (fun _ _ _ h => h) (Or.inl ⟨by rfl, fun w hw => by (try dsimp only at hw); go_simp; with_reducible rfl⟩) (by assumption) ?_
  try simp only [Act.put, List.setIfInBounds_toArray, List.set_cons_zero, List.set_cons_succ]
  refine wpAnyH_done (by kernel_rfl) ?_ _
  change KK _ _
  refine HKK.out _ _ ?_
  go_wp2_with fail
  go_ret
  refine ⟨_, rfl, ?_, HB1.out.trans (HB5.out.mono HB1.out.size)⟩
  rw [HT.out]
  exact HO5.out.mono HB1.out.size
end Go.Proofs.YtfnlhfaihoojfaaDoor

/- node.Branch, Leaf, Empty: digests. -/
namespace Go.Proofs.YtfnlhfaihoojfaaDoor
open Go.RowKit
set_option maxRecDepth 100000 in
set_option maxHeartbeats 1000000 in
theorem branch_any (wd : Int) (ls rs : List Nat) (w : World) (hl : IsB ls) (hll : ls.length = 32) (hr : IsB rs) (hrl : rs.length = 32) (ht : Tabs w) :
    Calls Tryd.prog 57 #[.int .i64 wd, .agg (bvs ls).toArray, .agg (bvs rs).toArray] w fun e w' => e = .returned (.agg (bvs (nodeD wd (branchT wd ls rs))).toArray) ∧ Below w.heap.size w w' := by
  have HLB := Lib.hid (And.intro hl hll)
  have HRB := Lib.hid (And.intro hr hrl)
  have HT := Lib.hid ht
  have HTX := Lib.hid (fun W => branchText_any wd ls rs W hl hll hr hrl)
  have HTL : Hid ((branchT wd ls rs).length ≤ 65) := by
    have := cutK_le wd
    show (branchT wd ls rs).length ≤ 65
    simp [branchT]
    omega
  obtain ⟨tx, HE⟩ : ∃ tx, Hid (branchT wd ls rs = tx) := ⟨_, rfl⟩
  rw [HE.out] at HTX HTL
  have HND : Hid (nodeD wd (branchT wd ls rs) = cutN (shaN tx) wd) := by
    show nodeD wd _ = _
    rw [HE.out]
    rfl
  have HSL := Lib.hid (And.intro (shaN_isB tx) (shaN_length tx))
  obtain ⟨sx, HSX⟩ : ∃ sx, Hid (shaN tx = sx) := ⟨_, rfl⟩
  rw [HSX.out] at HND HSL
  have HCL := Lib.hid (And.intro (cutN_isB HSL.out.1 wd) (cutN_length HSL.out.2 wd))
  have HCU := Lib.hid (fun W => cut_any sx wd W HSL.out.1 HSL.out.2)
  obtain ⟨cx, HCX⟩ : ∃ cx, Hid (cutN sx wd = cx) := ⟨_, rfl⟩
  rw [HCX.out] at HND HCL HCU
  clear hl hll hr hrl ht HE HCX
  go_enter Tryd.func57, Tryd.ntmps57
  go_wp2_with (with_reducible refine stopAt (o := ⟨some 8, _, _, _, _, _⟩) ?_)
  refine start3 (G := fun w2 => Hid (wpList _ _ _ _ _ w2)) fun w2 HL0 HR0 HO0 HW HS => ?_
  have HL2 : Hid (BlkB w2 w.heap.size 29 ls) := HL0
  have HR2 : Hid (BlkB w2 (w.heap.size + 1) 29 rs) := HR0
  have HO2 : Hid (BlkB w2 (w.heap.size + 1 + 1) 29 (zs 32)) := HO0
  have HT2 := Lib.hid (HT.out.below HW.out)
  clear HL0 HR0 HO0 HS HT
  refine Lib.hid ?_
  go_wp2_with (first
    | (refine wpList_load_arr (o := ⟨some 8, _, _, _, _, _⟩) (by rfl) 29 (.tmp 4) rfl ⟨w.heap.size, 0, none⟩ 32 ls rfl (HL2.out.whole HLB.out.1 HLB.out.2) (by omega) row_dig size_dig ?_)
    | (refine wpList_load_arr (o := ⟨some 9, _, _, _, _, _⟩) (by rfl) 29 (.tmp 5) rfl ⟨w.heap.size + 1, 0, none⟩ 32 rs rfl (HR2.out.whole HRB.out.1 HRB.out.2) (by omega) row_dig size_dig ?_)
    | (go_at_call 62; ((refine (HTX.out w2).mono ?_); rintro e w3 ⟨v, rfl, ho, hb⟩; obtain ⟨A, c, rfl, hrd, _, _, hcap⟩ := ho.form; have HX3 := Lib.hid hrd; have HB3 := Lib.hid (HW.out.trans (hb.mono HW.out.size)); have HO3 := Lib.hid (BlkIs.below HO2.out hb); have HT3 := Lib.hid (HT2.out.below hb); have HCP := Lib.hid hcap; clear ho hb hrd hcap))
    | (go_at_call 18; ((refine (dsum_any A _ c tx w3 HX3.out HCP.out (by have := HTL.out; omega) HT3.out).mono ?_); rintro e w4 ⟨rfl, hb⟩; rw [HSX.out]; have HB4 := Lib.hid (HB3.out.trans (hb.mono HB3.out.size)); have HO4 := Lib.hid (BlkIs.below HO3.out hb); clear hb))
    | (go_at_call 17; ((refine (HCU.out w4).mono ?_); rintro e w5 ⟨rfl, hb⟩; have HB5 := Lib.hid (HB4.out.trans (hb.mono HB4.out.size)); have HO5 : Hid (BlkB w5 (w.heap.size + 1 + 1) 29 (zs 32)) := (BlkIs.below HO4.out hb); clear hb))
    | (refine storeA (o := ⟨none, _, _, _, _, _⟩) (by rfl) 29 (.tmp 6) (.tmp 13) rfl (w.heap.size + 1 + 1) 32 cx (zs 32) 29 rfl rfl HO5.out size_dig HCL.out.2 (zs_length 32) w.heap.size w HB5.out (by omega) ?_; intro wf HRf HBf))
  exact arr_ret (g := w.heap.size + 1 + 1) (n := 32) rfl rfl HRf.out HCL.out.2 row_dig size_dig rfl ⟨by rw [HND.out], HBf⟩
set_option maxRecDepth 100000 in
set_option maxHeartbeats 1000000 in
theorem leaf_any (wd : Int) (ks : List Nat) (A : Option Addr) (n c : Nat) (xs : List Nat) (w : World) (hk : IsB ks) (hkl : ks.length = 32) (hx : RB w A n xs) (hA : A = none → c = 0) (hn : n ≤ 1073741824) (ht : Tabs w) :
    Calls Tryd.prog 58 #[.int .i64 wd, .agg (bvs ks).toArray, .slice A n c] w fun e w' => e = .returned (.agg (bvs (nodeD wd (leafT ks xs))).toArray) ∧ Below w.heap.size w w' := by
  have HKB := Lib.hid (And.intro hk hkl)
  have HT := Lib.hid ht
  have HX := Lib.hid hx
  have HTX := Lib.hid (fun W h => leafText_any ks A n c xs W hk hkl h hA hn)
  have HTL : Hid ((leafT ks xs).length ≤ 1073741900) := by
    show (leafT ks xs).length ≤ _
    simp [leafT, hkl, hx.1]
    omega
  obtain ⟨tx, HE⟩ : ∃ tx, Hid (leafT ks xs = tx) := ⟨_, rfl⟩
  rw [HE.out] at HTX HTL
  have HND : Hid (nodeD wd (leafT ks xs) = cutN (shaN tx) wd) := by
    show nodeD wd _ = _
    rw [HE.out]
    rfl
  have HSL := Lib.hid (And.intro (shaN_isB tx) (shaN_length tx))
  obtain ⟨sx, HSX⟩ : ∃ sx, Hid (shaN tx = sx) := ⟨_, rfl⟩
  rw [HSX.out] at HND HSL
  have HCL := Lib.hid (And.intro (cutN_isB HSL.out.1 wd) (cutN_length HSL.out.2 wd))
  have HCU := Lib.hid (fun W => cut_any sx wd W HSL.out.1 HSL.out.2)
  obtain ⟨cx, HCX⟩ : ∃ cx, Hid (cutN sx wd = cx) := ⟨_, rfl⟩
  rw [HCX.out] at HND HCL HCU
  clear hk hkl ht HE HCX hx hA hn
  go_enter Tryd.func58, Tryd.ntmps58
  go_wp2_with (with_reducible refine stopAt (o := ⟨some 7, _, _, _, _, _⟩) ?_)
  refine start2 (G := fun w2 => Hid (wpList _ _ _ _ _ w2)) fun w2 HL0 HO0 HW HS => ?_
  have HL2 : Hid (BlkB w2 w.heap.size 31 ks) := HL0
  have HO2 : Hid (BlkB w2 (w.heap.size + 1) 29 (zs 32)) := HO0
  have HT2 := Lib.hid (HT.out.below HW.out)
  have HX2 := Lib.hid (HX.out.below HW.out)
  clear HL0 HO0 HS HT HX
  refine Lib.hid ?_
  go_wp2_with (first
    | (refine wpList_load_arr (o := ⟨some 7, _, _, _, _, _⟩) (by rfl) 31 (.tmp 4) rfl ⟨w.heap.size, 0, none⟩ 32 ks rfl (HL2.out.whole HKB.out.1 HKB.out.2) (by omega) row_key size_key ?_)
    | (go_at_call 60; ((refine (HTX.out w2 HX2.out).mono ?_); rintro e w3 ⟨v, rfl, ho, hb⟩; obtain ⟨A2, c2, rfl, hrd, _, _, hcap⟩ := ho.form; have HX3 := Lib.hid hrd; have HB3 := Lib.hid (HW.out.trans (hb.mono HW.out.size)); have HO3 := Lib.hid (BlkIs.below HO2.out hb); have HT3 := Lib.hid (HT2.out.below hb); have HCP := Lib.hid hcap; clear ho hb hrd hcap))
    | (go_at_call 18; ((refine (dsum_any A2 _ c2 tx w3 HX3.out HCP.out (by have := HTL.out; omega) HT3.out).mono ?_); rintro e w4 ⟨rfl, hb⟩; rw [HSX.out]; have HB4 := Lib.hid (HB3.out.trans (hb.mono HB3.out.size)); have HO4 := Lib.hid (BlkIs.below HO3.out hb); clear hb))
    | (go_at_call 17; ((refine (HCU.out w4).mono ?_); rintro e w5 ⟨rfl, hb⟩; have HB5 := Lib.hid (HB4.out.trans (hb.mono HB4.out.size)); have HO5 : Hid (BlkB w5 (w.heap.size + 1) 29 (zs 32)) := (BlkIs.below HO4.out hb); clear hb))
    | (refine storeA (o := ⟨none, _, _, _, _, _⟩) (by rfl) 29 (.tmp 6) (.tmp 12) rfl (w.heap.size + 1) 32 cx (zs 32) 29 rfl rfl HO5.out size_dig HCL.out.2 (zs_length 32) w.heap.size w HB5.out (by omega) ?_; intro wf HRf HBf))
  exact arr_ret (g := w.heap.size + 1) (n := 32) rfl rfl HRf.out HCL.out.2 row_dig size_dig rfl ⟨by rw [HND.out], HBf⟩
theorem within256 (w : World) : Calls Tryd.prog 81 #[.int .i64 0, .int .i64 0, .int .i64 256] w fun e w' => e = .returned (.int .i64 0) ∧ w' = w := by
  go_enter Tryd.func81, Tryd.ntmps81
  go_wp2_with fail
  go_ret
  exact ⟨rfl, rfl⟩
set_option maxRecDepth 100000 in
set_option maxHeartbeats 1000000 in
theorem empty_any (wd : Int) (w : World) (ht : Tabs w) :
    Calls Tryd.prog 59 #[.int .i64 wd, .int .i64 0] w fun e w' => e = .returned (.agg (bvs (emptyD wd 0)).toArray) ∧ Below w.heap.size w w' := by
  have HT := Lib.hid ht
  have HND : Hid (emptyD wd 0 = cutN (shaN [2]) wd) := rfl
  have HSL := Lib.hid (And.intro (shaN_isB [2]) (shaN_length [2]))
  have HSU : Hid (∀ W, RB W (some ⟨w.heap.size + 1, 0, none⟩) 1 [2] → Tabs W → Calls Tryd.prog 18 #[.slice (some ⟨w.heap.size + 1, 0, none⟩) 1 1] W fun e w' => e = .returned (.agg (bvs (shaN [2])).toArray) ∧ Below W.heap.size W w') := fun W h h2 => dsum_any _ 1 1 [2] W h (by omega) (by omega) h2
  obtain ⟨sx, HSX⟩ : ∃ sx, Hid (shaN [2] = sx) := ⟨_, rfl⟩
  rw [HSX.out] at HND HSL HSU
  have HCL := Lib.hid (And.intro (cutN_isB HSL.out.1 wd) (cutN_length HSL.out.2 wd))
  have HCU := Lib.hid (fun W => cut_any sx wd W HSL.out.1 HSL.out.2)
  obtain ⟨cx, HCX⟩ : ∃ cx, Hid (cutN sx wd = cx) := ⟨_, rfl⟩
  rw [HCX.out] at HND HCL HCU
  clear ht HCX
  go_enter Tryd.func59, Tryd.ntmps59
  go_wp2_with fail
  refine start2 (G := fun w2 => Calls _ _ _ w2 _) fun w2 HO0 HX0 HW HS => ?_
  have HO2 : Hid (BlkB w2 w.heap.size 29 (zs 32)) := HO0
  have HXB : Hid (BlkB w2 (w.heap.size + 1) 5 [2]) := HX0
  have HX2 := Lib.hid (HXB.out.whole (IsB.one (by decide)) rfl)
  refine (HSU.out w2 HX2.out (HT.out.below HW.out)).mono ?_
  rintro e w3 ⟨rfl, hb⟩
  have HB3 := Lib.hid (HW.out.trans (hb.mono HW.out.size))
  have HO3 := Lib.hid (BlkIs.below HO2.out hb)
  have HGL : Hid (w.heap.size < w2.heap.size) := HO2.out.lt
  clear hb HO0 HX0 HXB HX2 HO2 HSU HS HT HSX
  go_wp2_with (first
    | (go_at_call 17; ((refine (HCU.out w3).mono ?_); rintro e w4 ⟨rfl, hb⟩; have HB4 := Lib.hid (HB3.out.trans (hb.mono HB3.out.size)); have HO4 : Hid (BlkIs w4 w.heap.size 29 (zarr 32)) := (BlkIs.below HO3.out hb); clear hb))
    | ((with_reducible refine stopAt (o := ⟨some 5, _, _, _, _, _⟩) ?_); refine allocNew (o := ⟨some 5, _, _, _, _, _⟩) (by rfl) 29 rfl _ _ info_dig ?_; intro w5 HD5 HW5 HS5)
    | ((with_reducible refine stopAt (o := ⟨some 10, _, _, _, _, _⟩) ?_); fail)
    | (refine storeA (o := ⟨none, _, _, _, _, _⟩) (by rfl) 29 (.tmp 5) (.tmp 9) rfl w4.heap.size 32 cx (zs 32) 29 rfl rfl HD5.out size_dig HCL.out.2 (zs_length 32) w4.heap.size w4 HW5.out (Nat.le_refl _) ?_; intro w6 HD6 hb6; have HB6 := Lib.hid (HB4.out.trans (hb6.mono HB4.out.size)); have HO6 : Hid (BlkB w6 w.heap.size 29 (zs 32)) := (BlkIs.below HO4.out hb6); clear hb6))
  refine (within256 w6).mono ?_
  rintro e w7 ⟨rfl, rfl⟩
  go_wp2_with fail
  refine wp_loop_rounds 1 ?_
  rw [rounds_succ]
  go_wp2_with (first
    | (refine wpList_load_arr (o := ⟨some 19, _, _, _, _, _⟩) (by rfl) 29 (.tmp 5) rfl ⟨w4.heap.size, 0, none⟩ 32 cx rfl (BlkB.whole HD6.out HCL.out.1 HCL.out.2) (by omega) row_dig size_dig ?_)
    | (refine storeA (o := ⟨none, _, _, _, _, _⟩) (by rfl) 29 (.tmp 4) (.tmp 19) rfl w.heap.size 32 cx (zs 32) 29 rfl rfl HO6.out size_dig HCL.out.2 (zs_length 32) w.heap.size w HB6.out (Nat.le_refl _) ?_; intro wf HRf HBf))
  exact arr_ret (g := w.heap.size) (n := 32) rfl rfl HRf.out HCL.out.2 row_dig size_dig rfl ⟨by rw [HND.out], HBf⟩
end Go.Proofs.YtfnlhfaihoojfaaDoor
