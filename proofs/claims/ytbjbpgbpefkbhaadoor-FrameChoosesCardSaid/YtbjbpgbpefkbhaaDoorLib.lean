/- Plain facts that the walks of this seat share: how a slice of bytes reads in memory; a slice of bytes that the call itself made; worlds that agree below a block. No program is named here. -/
import Derived.WalkKit
import Derived.Lib.Hide
import Derived.Laws.AppendOwnNone
namespace Go.Proofs.YtbjbpgbpefkbhaaDoor
open Go.RowKit

/-- The cells of a list of bytes. -/
def bv (x : Nat) : Value := .int .u8 (x : Int)
def bvs (xs : List Nat) : List Value := xs.map bv
def IsB (xs : List Nat) : Prop := ∀ x ∈ xs, x < 256
theorem IsB.nil : IsB [] := fun _ h => by cases h
theorem IsB.app {xs ys : List Nat} (h : IsB xs) (k : IsB ys) : IsB (xs ++ ys) := fun x hx => by
  rcases List.mem_append.1 hx with h1 | h1
  · exact h x h1
  · exact k x h1
theorem IsB.one {x : Nat} (h : x < 256) : IsB [x] := fun y hy => by simp at hy; omega
theorem IsB.take {xs : List Nat} (h : IsB xs) (k : Nat) : IsB (xs.take k) := fun x hx => h x (List.mem_of_mem_take hx)
theorem IsB.drop {xs : List Nat} (h : IsB xs) (k : Nat) : IsB (xs.drop k) := fun x hx => h x (List.mem_of_mem_drop hx)

/-- Are two texts one? -/
def sameB (xs ys : List Nat) : Bool := decide (xs = ys)

/-- The slice's address A reads n bytes xs. -/
def RB (w : World) (A : Option Addr) (n : Nat) (xs : List Nat) : Prop :=
  xs.length = n ∧ IsB xs ∧ (0 < n → ∃ ad, A = some ad ∧ ad.block < w.heap.size ∧ ∀ (j x : Nat), xs[j]? = some x → w.cell? (ad.add j) = some (.int .u8 (x : Int)))

theorem block_add (a : Addr) (k : Nat) : (a.add k).block = a.block := by
  unfold Addr.add; split <;> rfl
theorem add_add (a : Addr) (k j : Nat) : (a.add k).add j = a.add (k + j) := by
  unfold Addr.add
  rcases Nat.eq_zero_or_pos k with hk | hk <;> rcases Nat.eq_zero_or_pos j with hj | hj
  · simp [hk, hj]
  · simp [hk, show ¬ j = 0 by omega]
  · simp [hj, show ¬ k = 0 by omega]
  · simp [show ¬ j = 0 by omega, show ¬ k = 0 by omega, Nat.add_assoc]
theorem add_lit (b o k : Nat) : (⟨b, o, none⟩ : Addr).add k = ⟨b, o + k, none⟩ := by
  unfold Addr.add; split
  · simp [*]
  · rfl

theorem getD_of_lt {xs : List Nat} {k : Nat} (h : k < xs.length) : xs[k]? = some (xs.getD k 0) := by
  simp [List.getD, h]
theorem getD_mem {xs : List Nat} {k : Nat} (h : k < xs.length) : xs.getD k 0 ∈ xs := List.mem_of_getElem? (getD_of_lt h)
theorem take_succ_getD {xs : List Nat} {k : Nat} (h : k < xs.length) : xs.take (k + 1) = xs.take k ++ [xs.getD k 0] := by
  rw [List.take_succ_eq_append_getElem h]; simp [List.getD, h]

theorem RB.len {w : World} {A : Option Addr} {n : Nat} {xs : List Nat} (h : RB w A n xs) : xs.length = n := h.1
theorem RB.isB {w : World} {A : Option Addr} {n : Nat} {xs : List Nat} (h : RB w A n xs) : IsB xs := h.2.1
theorem RB.lt {w : World} {A : Option Addr} {n : Nat} {xs : List Nat} (h : RB w A n xs) {k : Nat} (hk : k < n) : xs.getD k 0 < 256 :=
  h.2.1 _ (getD_mem (by rw [h.1]; exact hk))
theorem RB.nil (w : World) (A : Option Addr) : RB w A 0 [] := ⟨rfl, IsB.nil, fun h => by omega⟩
theorem RB.keep {w w' : World} {A : Option Addr} {n : Nat} {xs : List Nat} (h : RB w A n xs) (hs : w.heap.size ≤ w'.heap.size)
    (hk : ∀ p : Addr, (∀ ad, A = some ad → p.block = ad.block) → p.block < w.heap.size → w'.cell? p = w.cell? p) : RB w' A n xs := by
  refine ⟨h.1, h.2.1, fun hn => ?_⟩
  obtain ⟨ad, e, hb, hc⟩ := h.2.2 hn
  exact ⟨ad, e, by omega, fun j x hj => (hk _ (fun ad' e' => by rw [block_add]; rw [e] at e'; injection e' with e'; rw [e']) (by rw [block_add]; exact hb)).trans (hc j x hj)⟩
theorem RB.below {w w' : World} {A : Option Addr} {n : Nat} {xs : List Nat} (h : RB w A n xs) (hb : Below w.heap.size w w') : RB w' A n xs :=
  h.keep hb.size fun _ _ hp => hb.cell hp
theorem RB.alloc {w : World} {A : Option Addr} {n : Nat} {xs : List Nat} (h : RB w A n xs) (o : Obj) : RB (w.alloc o) A n xs :=
  h.below ((Below.refl _ _).alloc (Nat.le_refl _) o)
/-- A cell of what is read, in the world as it is. -/
theorem RB.at_ {w : World} {A : Option Addr} {n : Nat} {xs : List Nat} (h : RB w A n xs) {k : Nat} (hk : k < n) :
    ∃ ad, A = some ad ∧ ad.block < w.heap.size ∧ w.cell? (ad.add k) = some (.int .u8 (xs.getD k 0 : Nat)) := by
  obtain ⟨ad, e, hb, hc⟩ := h.2.2 (by omega)
  exact ⟨ad, e, hb, hc k _ (getD_of_lt (by rw [h.1]; exact hk))⟩
theorem cell_later {w w' : World} {ad : Addr} {k : Nat} {v : Option Value} (hb : ad.block < w.heap.size) (h : Below w.heap.size w w') (hc : w.cell? (ad.add k) = v) : w'.cell? (ad.add k) = v :=
  (h.cell (p := ad.add k) (by rw [block_add]; exact hb)).trans hc
theorem cell_add {w : World} {ad : Addr} {k : Nat} {v : Option Value} (h : k ≠ 0) (hc : w.cell? (ad.add k) = v) : w.cell? ⟨ad.block, ad.off + k, none⟩ = v := by
  unfold Addr.add at hc
  rwa [if_neg h] at hc
/-- A cut of what is read, from the front. -/
theorem RB.take {w : World} {A : Option Addr} {n : Nat} {xs : List Nat} (h : RB w A n xs) {k : Nat} (hk : k ≤ n) : RB w A k (xs.take k) := by
  refine ⟨by rw [List.length_take, h.1]; omega, h.2.1.take k, fun hn => ?_⟩
  obtain ⟨ad, e, hb, hc⟩ := h.2.2 (by omega)
  exact ⟨ad, e, hb, fun j x hj => hc j x (by rw [List.getElem?_take] at hj; split at hj <;> simp_all)⟩
/-- A cut, from k on. -/
theorem RB.drop {w : World} {A : Option Addr} {n : Nat} {xs : List Nat} (h : RB w A n xs) {k : Nat} {B : Option Addr} (hk : k ≤ n) (hB : k < n → B = A.map (·.add k)) : RB w B (n - k) (xs.drop k) := by
  refine ⟨by rw [List.length_drop, h.1], h.2.1.drop k, fun hn => ?_⟩
  obtain ⟨ad, e, hb, hc⟩ := h.2.2 (by omega)
  refine ⟨ad.add k, by rw [hB (by omega), e]; rfl, by rw [block_add]; exact hb, fun j x hj => ?_⟩
  rw [add_add]
  exact hc _ x (by rw [← hj, List.getElem?_drop])

theorem bcell {W w1 : World} (hb : Below W.heap.size W w1) : (∀ b o, b < W.heap.size → w1.cell? ⟨b, o, none⟩ = W.cell? ⟨b, o, none⟩) ∧ (∀ b o, b < W.heap.size → w1.frozen? ⟨b, o, none⟩ = W.frozen? ⟨b, o, none⟩) :=
  ⟨fun b o h => hb.cell (p := ⟨b, o, none⟩) h, fun b o h => hb.frozen (p := ⟨b, o, none⟩) h⟩

theorem ret_int {k : IntKind} {a b : Int} (h : a = b) : Ending.returned (.int k a) = .returned (.int k b) := by rw [h]

/-! ### A slice of bytes that the call itself made -/
/-- v holds the bytes xs, in a block from 'base' on of which it has the head; nil: none. -/
def Own (e : TypeId) (w : World) (base : Nat) (v : Value) (xs : List Nat) : Prop := w.ownsRow base e 1 v xs.length (bvs xs) ∧ IsB xs
theorem Own.nil (e : TypeId) (w : World) (base : Nat) : Own e w base (.slice none 0 0) [] := ⟨World.ownsRow_nil _ _ _ _, IsB.nil⟩
theorem Own.isB {e : TypeId} {w : World} {base : Nat} {v : Value} {xs : List Nat} (h : Own e w base v xs) : IsB xs := h.2
theorem Own.form {e : TypeId} {w : World} {base : Nat} {v : Value} {xs : List Nat} (h : Own e w base v xs) : ∃ A c, v = .slice A xs.length c ∧ RB w A xs.length xs ∧ (∀ ad, A = some ad → base ≤ ad.block ∧ ad.block < w.heap.size) ∧ (A = none → c = 0) ∧ xs.length ≤ c := by
  obtain ⟨⟨hl, hv⟩, hB⟩ := h
  rcases hv with ⟨rfl, h0⟩ | ⟨g, cap, cur, rfl, hg, hh, hnc, hcm, hs, ht⟩
  · have : xs = [] := List.eq_nil_of_length_eq_zero h0
    subst this
    exact ⟨none, 0, rfl, RB.nil _ _, fun _ h => (by cases h), fun _ => rfl, Nat.le_refl _⟩
  · have hlt : g < w.heap.size := by
      rcases Nat.lt_or_ge g w.heap.size with h | h
      · exact h
      · rw [Array.getElem?_eq_none h] at hh; cases hh
    refine ⟨_, cap, rfl, ⟨rfl, hB, fun _ => ⟨_, rfl, hlt, fun j x hj => ?_⟩⟩, fun ad h => (by injection h with h; subst h; exact ⟨hg, hlt⟩), fun h => (by cases h), hnc⟩
    rw [add_lit, cell_of_row w g _ cur e (0, 0) hh, Nat.zero_add]
    have h1 : (bvs xs)[j]? = some (.int .u8 (x : Int)) := by simp [bvs, hj, bv]
    rw [← ht, List.getElem?_take] at h1
    split at h1
    · simpa using h1
    · cases h1
/-- What holds some bytes is the head of a block. -/
theorem Own.shape {e : TypeId} {w : World} {base : Nat} {v : Value} {xs : List Nat} (h : Own e w base v xs) (hn : 0 < xs.length) : ∃ g c, v = .slice (some ⟨g, 0, none⟩) xs.length c ∧ base ≤ g ∧ g < w.heap.size ∧
    (∀ j, w.frozen? ⟨g, j, none⟩ = false) ∧ ∀ j, j < xs.length → w.cell? ⟨g, j, none⟩ = some (.int .u8 (xs.getD j 0 : Nat)) := by
  obtain ⟨A, c, rfl, hr, hg, _⟩ := h.form
  obtain ⟨ad, rfl, hb, hc⟩ := hr.2.2 hn
  rcases h.1.2 with ⟨e1, _⟩ | ⟨g, cap, cur, e1, r⟩
  · cases e1
  · injection e1 with e1 _ _
    injection e1 with e1
    subst e1
    refine ⟨g, c, rfl, (hg _ rfl).1, (hg _ rfl).2, fun j => World.ownsRow.frozenAt h.1 j, fun j hj => ?_⟩
    have := hc j _ (getD_of_lt hj)
    rwa [add_lit, Nat.zero_add] at this
theorem Own.set {e : TypeId} {w : World} {base g c : Nat} {xs : List Nat} (h : Own e w base (.slice (some ⟨g, 0, none⟩) xs.length c) xs) (j x : Nat) (hx : x < 256) :
    Own e (w.setCell ⟨g, j, none⟩ (.int .u8 (x : Int))) base (.slice (some ⟨g, 0, none⟩) xs.length c) (xs.set j x) := by
  refine ⟨?_, fun y hy => ?_⟩
  · have := (World.ownsRow.stored h.1 j (.int .u8 (x : Int))).1
    simpa [bvs, List.map_set, bv] using this
  · rcases List.mem_or_eq_of_mem_set hy with h1 | h1
    · exact h.2 y h1
    · omega
theorem grown_setCell (w : World) {g : Nat} (j : Nat) (u : Value) : w.grownBy (w.setCell ⟨g, j, none⟩ u) (some g) :=
  ⟨rfl, rfl, rfl, by simp [World.setCell], fun k _ hne => Below.heap_setCell w _ u k (fun e => hne (by rw [e]))⟩
theorem Own.below {e : TypeId} {w w' : World} {base : Nat} {v : Value} {xs : List Nat} (h : Own e w base v xs) (hb : Below w.heap.size w w') : Own e w' base v xs := by
  obtain ⟨⟨hl, hv⟩, hB⟩ := h
  refine ⟨⟨hl, ?_⟩, hB⟩
  rcases hv with h0 | ⟨g, cap, cur, rfl, hg, hh, r⟩
  · exact .inl h0
  · have hlt : g < w.heap.size := by
      rcases Nat.lt_or_ge g w.heap.size with h | h
      · exact h
      · rw [Array.getElem?_eq_none h] at hh; cases hh
    exact .inr ⟨g, cap, cur, rfl, hg, (hb.block g hlt).trans hh, r⟩
theorem Own.mono {e : TypeId} {w : World} {base base' : Nat} {v : Value} {xs : List Nat} (h : Own e w base v xs) (hb : base' ≤ base) : Own e w base' v xs := by
  obtain ⟨⟨hl, hv⟩, hB⟩ := h
  refine ⟨⟨hl, ?_⟩, hB⟩
  rcases hv with h0 | ⟨g, cap, cur, rfl, hg, r⟩
  · exact .inl h0
  · exact .inr ⟨g, cap, cur, rfl, by omega, r⟩
/-- What is owned stays owned where another row grows. -/
theorem Own.kept {e : TypeId} {w w' : World} {base : Nat} {v : Value} {xs : List Nat} {row : Option Nat} (h : Own e w base v xs) (hg : w.grownBy w' row) (hne : v.ownBlock = none ∨ v.ownBlock ≠ row) : Own e w' base v xs :=
  ⟨h.1.kept hg hne, h.2⟩
theorem Own.lt {e : TypeId} {w : World} {base : Nat} {v : Value} {xs : List Nat} (h : Own e w base v xs) : ∀ k, v.ownBlock = some k → base ≤ k ∧ k < w.heap.size := h.1.lt
theorem Own.ge {e : TypeId} {w : World} {base : Nat} {v : Value} {xs : List Nat} (h : Own e w base v xs) : ∀ k, v.ownBlock = some k → base ≤ k := fun k hk => (h.1.lt k hk).1

theorem grown_of_below {w w' : World} (h : Below w.heap.size w w') (row : Option Nat) : w.grownBy w' row := ⟨h.os, h.tape, h.output, h.size, fun k hk _ => h.block k hk⟩
theorem grown_trans {a b c : World} {row : Option Nat} (h : a.grownBy b row) (k : b.grownBy c row) : a.grownBy c row :=
  ⟨k.os.trans h.os, k.tape.trans h.tape, k.output.trans h.output, Nat.le_trans h.size k.size, fun i hi hn => (k.block i (Nat.lt_of_lt_of_le hi h.size) hn).trans (h.block i hi hn)⟩

section
variable {P : Program}
/-- 'l = append(l, x)' of one byte: the byte lies in a new block of its own first. -/
theorem append1 {t e : TypeId} (ht : P.underlying t = some (.slice e)) (hinfo : (P.info? e).map (fun i => (i.zero, i.size, i.bytes)) = some (some (.int .u8 0), 1, 1))
    {ops : Array Oper} {rest : List Oper} {o : Oper} {a : Act} {Q : Exit → Act → World → Prop} (w : World) (hgd : o.guard = none) (s x : Operand)
    (ho : o.op = .call { callee := .builtin .append, args := #[s, x], argTypes := #[t, t] })
    (base : Nat) (v : Value) (xs : List Nat) (hown : Own e w base v xs) (b : Nat) (hb : b < 256) (hs : a.eval s = v) (hx : a.eval x = .slice (some ⟨w.heap.size, 0, none⟩) 1 1)
    (hlen : xs.length + 1 ≤ 140737488355328) (hbase : base ≤ w.heap.size)
    (h : ∀ v' w', Own e w' base v' (xs ++ [b]) → w.grownBy w' v.ownBlock → wpList P ops Q rest (a.put o.dst v') w') :
    wpList P ops Q (o :: rest) a (w.alloc (.cells #[.int .u8 (b : Int)] e)) := by
  obtain ⟨i, hi, hz0, hz1, hz2⟩ := info_parts hinfo
  refine wpList_append_own (w.alloc (.cells #[.int .u8 (b : Int)] e)) hgd s x t ho base e i (.int .u8 0) 1 1 ht hi hz0 hz1 hz2 rfl (by decide) v xs.length (bvs xs) hs (hown.1.alloc _)
    ⟨w.heap.size, 0, none⟩ 1 1 (bvs [b]) hx rfl ?_ ?_ (by unfold maxLen; omega) (by omega) (by simp; omega) ?_
  · intro j u hj
    rw [add_lit, cell_of_row _ _ _ _ _ _ (heap_alloc_new w _)]
    rcases j with _ | j
    · simpa [bvs, bv] using hj
    · simp [bvs] at hj
  · intro u hu
    simp [bvs, bv] at hu
    subst hu
    rfl
  · intro v' w' h1 h2 _
    refine h v' w' ⟨by simpa [bvs] using h1, hown.2.app (IsB.one hb)⟩ (grown_trans ?_ h2)
    exact World.grownBy_alloc _ _ _
theorem bvs_oneCell (xs : List Nat) : ∀ u ∈ bvs xs, u.oneCell' = true := by
  intro u hu
  simp only [bvs, List.mem_map] at hu
  obtain ⟨x, _, rfl⟩ := hu
  rfl
/-- 'l = append(l, src...)', the source whatever reads as bytes. -/
theorem appendRB {t e : TypeId} (ht : P.underlying t = some (.slice e)) (hinfo : (P.info? e).map (fun i => (i.zero, i.size, i.bytes)) = some (some (.int .u8 0), 1, 1))
    {ops : Array Oper} {rest : List Oper} {o : Oper} {a : Act} {Q : Exit → Act → World → Prop} (w : World) (hgd : o.guard = none) (s x : Operand)
    (ho : o.op = .call { callee := .builtin .append, args := #[s, x], argTypes := #[t, t] })
    (base : Nat) (v : Value) (xs : List Nat) (hown : Own e w base v xs) (A : Option Addr) (m c : Nat) (ys : List Nat) (hr : RB w A m ys) (hA : A = none → c = 0)
    (hs : a.eval s = v) (hx : a.eval x = .slice A m c)
    (hlen : xs.length + m ≤ 140737488355328) (hbase : base ≤ w.heap.size)
    (h : ∀ v' w', Own e w' base v' (xs ++ ys) → w.grownBy w' v.ownBlock → wpList P ops Q rest (a.put o.dst v') w') :
    wpList P ops Q (o :: rest) a w := by
  obtain ⟨i, hi, hz0, hz1, hz2⟩ := info_parts hinfo
  rcases A with _ | ad
  · obtain rfl := hA rfl
    have hm : m = 0 := by
      rcases Nat.eq_zero_or_pos m with h0 | h0
      · exact h0
      · obtain ⟨ad, e', _⟩ := hr.2.2 h0
        cases e'
    subst hm
    have hys : ys = [] := List.eq_nil_of_length_eq_zero hr.1
    subst hys
    refine wpList_append_own_none hgd s x t ho base e i 1 ht hi v xs.length (bvs xs) hs hown.1 hx ?_
    exact h v w (by simpa using hown) (World.grownBy.refl w _)
  · refine wpList_append_own w hgd s x t ho base e i (.int .u8 0) 1 1 ht hi hz0 hz1 hz2 rfl (by decide) v xs.length (bvs xs) hs hown.1
      ad m c (bvs ys) hx (by simp [bvs, hr.1]) ?_ (bvs_oneCell ys) (by unfold maxLen; omega) (by omega) hbase ?_
    · intro j u hj
      simp only [bvs, List.getElem?_map, Option.map_eq_some_iff] at hj
      obtain ⟨x, hx, rfl⟩ := hj
      have hjm : j < ys.length := by
        rcases Nat.lt_or_ge j ys.length with h | h
        · exact h
        · rw [List.getElem?_eq_none h] at hx; cases hx
      obtain ⟨ad', e', _, hc⟩ := hr.2.2 (by have := hr.1; omega)
      injection e' with e'
      subst e'
      exact hc j x hx
    · intro v' w' h1 h2 _
      exact h v' w' ⟨by rw [List.length_append, hr.1]; simpa [bvs] using h1, hown.2.app hr.2.1⟩ h2
/-- A new block of bytes, written out, reads as they are. -/
theorem RB_new (w : World) (e : TypeId) (cs : Array Value) (fr : Nat × Nat) (ys : List Nat) (hB : IsB ys) (hcs : cs = (bvs ys).toArray) : RB (w.alloc (.cells cs e fr)) (some ⟨w.heap.size, 0, none⟩) ys.length ys := by
  subst hcs
  refine ⟨rfl, hB, fun _ => ⟨_, rfl, by simp, fun j x hj => ?_⟩⟩
  rw [add_lit, cell_of_row _ _ _ _ _ _ (heap_alloc_new w _), Nat.zero_add]
  simp [bvs, hj, bv]
end
end Go.Proofs.YtbjbpgbpefkbhaaDoor
