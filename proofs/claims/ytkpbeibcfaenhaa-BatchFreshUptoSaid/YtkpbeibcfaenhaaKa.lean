/- Obs, HeldU, CopyK, Ph (merged by merge_k.py) -/
import Derived.Test.YtkpbeibcfaenhaaGb
import Derived.Test.YtkpbeibcfaenhaaGa
import Derived.Deep.RegionHeld3
import Derived.Deep.QuietTactic
import Derived.BigQuiet
/- Memory that stays as it is, and objects apart from one another. No function of the program is named here. -/
namespace Go.Proofs.Ytkpbeibcfaenhaa
open Go.RowKit
/-- Nothing that stood outside U has changed. -/
structure Touch (U : Nat → Prop) (w w' : World) : Prop where
  os : w'.os = w.os
  tape : w'.tape = w.tape
  output : w'.output = w.output
  size : w.heap.size ≤ w'.heap.size
  block : ∀ k, k < w.heap.size → ¬ U k → w'.heap[k]? = w.heap[k]?
section
variable {U V : Nat → Prop} {w w' w'' : World}
theorem Touch.refl (U : Nat → Prop) (w : World) : Touch U w w := ⟨rfl, rfl, rfl, Nat.le_refl _, fun _ _ _ => rfl⟩
theorem Touch.mono (h : Touch U w w') (hv : ∀ k, k < w.heap.size → U k → V k) : Touch V w w' := ⟨h.os, h.tape, h.output, h.size, fun k hk hn => h.block k hk fun hu => hn (hv k hk hu)⟩
theorem Touch.trans (h : Touch U w w') (k : Touch U w' w'') : Touch U w w'' :=
  ⟨k.os.trans h.os, k.tape.trans h.tape, k.output.trans h.output, Nat.le_trans h.size k.size, fun i hi hn => (k.block i (Nat.lt_of_lt_of_le hi h.size) hn).trans (h.block i hi hn)⟩
theorem Touch.then_ (h : Touch U w w') (k : Touch V w' w'') (hv : ∀ i, i < w.heap.size → V i → U i) : Touch U w w'' :=
  ⟨k.os.trans h.os, k.tape.trans h.tape, k.output.trans h.output, Nat.le_trans h.size k.size, fun i hi hn => (k.block i (Nat.lt_of_lt_of_le hi h.size) fun e => hn (hv i hi e)).trans (h.block i hi hn)⟩
theorem Touch.grown {row : Option Nat} (h : w.grownBy w' row) : Touch (fun k => some k = row) w w' := ⟨h.os, h.tape, h.output, h.size, fun k hk hn => h.block k hk hn⟩
theorem Touch.ofBelow (h : Below w.heap.size w w') : Touch U w w' := ⟨h.os, h.tape, h.output, h.size, fun k hk _ => h.block k hk⟩
theorem Touch.toBelow {B : Nat} {w0 : World} (h : Touch U w w') (hb : Below B w0 w) (hB : B ≤ w.heap.size) (hu : ∀ k, U k → B ≤ k) : Below B w0 w' :=
  ⟨h.os.trans hb.os, h.tape.trans hb.tape, h.output.trans hb.output, Nat.le_trans hb.size h.size, fun k hk => (h.block k (by omega) (fun hu' => by have := hu k hu'; omega)).trans (hb.block k hk)⟩
theorem Touch.row {base : Nat} {e : TypeId} {size n : Nat} {v : Value} {xs : List Value} (ht : Touch U w w') (h : w.ownsRow base e size v n xs) (hn : ∀ k, v.ownBlock = some k → ¬ U k) : w'.ownsRow base e size v n xs := by
  refine ⟨h.1, ?_⟩
  rcases h.2 with h1 | ⟨g, cap, cur, rfl, h1, h2, h3⟩
  · exact .inl h1
  · refine .inr ⟨g, cap, cur, rfl, h1, ?_, h3⟩
    have hg : g < w.heap.size := by
      rcases Nat.lt_or_ge g w.heap.size with h' | h'
      · exact h'
      · rw [Array.getElem?_eq_none h'] at h2; cases h2
    exact (ht.block g hg (hn g rfl)).trans h2
theorem Touch.own {base : Nat} {e : TypeId} {v : Value} {xs : List Nat} (ht : Touch U w w') (h : Own e w base v xs) (hn : ∀ k, v.ownBlock = some k → ¬ U k) : Own e w' base v xs := ⟨ht.row h.1 hn, h.2⟩
theorem Touch.blk {g : Nat} {t : TypeId} {cs : Array Value} (ht : Touch U w w') (h : BlkIs w g t cs) (hn : ¬ U g) : BlkIs w' g t cs := (ht.block g h.lt hn).trans h
theorem Touch.cell (ht : Touch U w w') {p : Addr} (hp : p.block < w.heap.size) (hn : ¬ U p.block) : w'.cell? p = w.cell? p := World.cell?_of_block (ht.block _ hp hn)
theorem Touch.rb {A : Option Addr} {n : Nat} {xs : List Nat} (ht : Touch U w w') (h : RB w A n xs) (hn : 0 < n → ∀ ad, A = some ad → ¬ U ad.block) : RB w' A n xs := by
  refine ⟨h.1, h.2.1, fun h0 => ?_⟩
  obtain ⟨ad, e, hb, hc⟩ := h.2.2 h0
  exact ⟨ad, e, Nat.lt_of_lt_of_le hb ht.size, fun j x hj => (ht.cell (p := ad.add j) (by rw [block_add]; exact hb) (by rw [block_add]; exact hn h0 ad e)).trans (hc j x hj)⟩
theorem Touch.range {b o : Nat} {cs : List Value} (ht : Touch U w w') (hb : b < w.heap.size) (hn : ¬ U b) (h : w.rangeAt b o cs) : w'.rangeAt b o cs := fun j v hj => (ht.cell (p := ⟨b, o + j, none⟩) hb hn).trans (h j v hj)
/-- It holds, whatever is done to U and to new blocks. -/
def Far (U : Nat → Prop) (w : World) (R : World → Prop) : Prop := ∀ w', Touch U w w' → R w'
theorem Far.now {R : World → Prop} (h : Far U w R) : R w := h w (Touch.refl _ _)
theorem Far.step {R : World → Prop} (h : Far U w R) (ht : Touch U w w') (hv : ∀ k, k < w.heap.size → V k → U k) : Far V w' R := fun w'' h2 => h w'' (ht.then_ h2 hv)
theorem Far.below {R : World → Prop} (h : Far U w R) (hb : Below w.heap.size w w') : Far U w' R := h.step (Touch.ofBelow hb) fun _ _ h => h
theorem Far.imp {R S : World → Prop} (h : Far U w R) (k : ∀ w, R w → S w) : Far U w S := fun w' ht => k w' (h w' ht)
theorem Far.and {R S : World → Prop} (h : Far U w R) (k : Far U w S) : Far U w fun w => R w ∧ S w := fun w' ht => ⟨h w' ht, k w' ht⟩
end
/-- An object: a row at the head of its block. -/
structure Ob where
  e : TypeId
  k : Nat
  v : Value
  n : Nat
  cs : List Value
theorem row_mono {w : World} {base base' : Nat} {e : TypeId} {size n : Nat} {v : Value} {xs : List Value} (h : w.ownsRow base e size v n xs) (hb : base' ≤ base) : w.ownsRow base' e size v n xs := by
  refine ⟨h.1, ?_⟩
  rcases h.2 with h0 | ⟨g, cap, cur, e1, h1, r⟩
  · exact .inl h0
  · exact .inr ⟨g, cap, cur, e1, Nat.le_trans hb h1, r⟩
def Ob.In (w : World) (base : Nat) (o : Ob) : Prop := w.ownsRow base o.e o.k o.v o.n o.cs
/-- All these objects, no two in one block. -/
structure Obs (w : World) (base : Nat) (l : List Ob) : Prop where
  own : ∀ o, o ∈ l → o.In w base
  dis : l.Pairwise fun a b => Apart a.v b.v
section
variable {w w' : World} {base base' : Nat} {l l' : List Ob} {U : Nat → Prop}
theorem Obs.nil (w : World) (base : Nat) : Obs w base [] := ⟨fun _ h => by simp at h, List.Pairwise.nil⟩
theorem Obs.perm (h : Obs w base l) (hp : l.Perm l') : Obs w base l' := ⟨fun o ho => h.own o (hp.symm.subset ho), (hp.pairwise_iff fun ha => ha.symm').1 h.dis⟩
theorem Obs.sub (h : Obs w base l) (hs : l'.Sublist l) : Obs w base l' := ⟨fun o ho => h.own o (hs.subset ho), h.dis.sublist hs⟩
theorem Obs.touch (h : Obs w base l) (ht : Touch U w w') (hn : ∀ o, o ∈ l → ∀ B, o.v.ownBlock = some B → ¬ U B) : Obs w' base l := ⟨fun o ho => ht.row (h.own o ho) (hn o ho), h.dis⟩
theorem Obs.below (h : Obs w base l) (hb : Below w.heap.size w w') : Obs w' base l := h.touch (U := fun _ => False) (Touch.ofBelow hb) fun _ _ _ _ h => h
theorem Obs.mono (h : Obs w base l) (hb : base' ≤ base) : Obs w base' l := ⟨fun o ho => row_mono (h.own o ho) hb, h.dis⟩
theorem Obs.lt (h : Obs w base l) {o : Ob} (ho : o ∈ l) {B : Nat} (hB : o.v.ownBlock = some B) : base ≤ B ∧ B < w.heap.size := (h.own o ho).lt B hB
theorem Obs.app {M : Nat} (h : Obs w base l) (h' : Obs w M l') (hM : ∀ o, o ∈ l → ∀ B, o.v.ownBlock = some B → B < M) (hb : base ≤ M) : Obs w base (l ++ l') :=
  ⟨fun o ho => (List.mem_append.1 ho).elim (h.own o) fun ho => row_mono (h'.own o ho) hb, List.pairwise_append.2 ⟨h.dis, h'.dis, fun a ha b hb' B hB hB' => by have := hM a ha B hB; have := (h'.lt hb' hB').1; omega⟩⟩
/-- What was there, and what has come since. -/
theorem Obs.join {w1 : World} (h : Obs w1 base l) (hb : Below w1.heap.size w1 w) (h' : Obs w w1.heap.size l') (hbase : base ≤ w1.heap.size) : Obs w base (l ++ l') :=
  (h.below hb).app h' (fun _ ho _ hB => (h.lt ho hB).2) hbase
end
/-- A list of bytes, as an object. -/
def byO (v : Value) (xs : List Nat) : Ob := ⟨5, 1, v, xs.length, bvs xs⟩
theorem byO_in {w : World} {base : Nat} {v : Value} {xs : List Nat} : (byO v xs).In w base ↔ w.ownsRow base 5 1 v xs.length (bvs xs) := Iff.rfl
theorem own_obs {w : World} {base : Nat} {v : Value} {xs : List Nat} (h : OwnU w base v xs) : Obs w base [byO v xs] := ⟨fun o ho => by rw [List.mem_singleton.1 ho]; exact h.1, List.pairwise_singleton _ _⟩
/-- A list of changes, as an object. -/
def roO (v : Value) (n : Nat) (cs : List Value) : Ob := ⟨45, 34, v, n, cs⟩
/-- The values of the first n changes. -/
def vaOs (X : Nat → Chg) (Ad : Nat → Option Addr) (Cp : Nat → Nat) (n : Nat) : List Ob := (List.range n).map fun i => byO (.slice (Ad i) (X i).val.length (Cp i)) (X i).val
section
variable {X : Nat → Chg} {Ad : Nat → Option Addr} {Cp : Nat → Nat} {n : Nat}
theorem vaOs_zero : vaOs X Ad Cp 0 = [] := rfl
theorem vaOs_succ : vaOs X Ad Cp (n + 1) = vaOs X Ad Cp n ++ [byO (.slice (Ad n) (X n).val.length (Cp n)) (X n).val] := by simp [vaOs, List.range_succ]
theorem vaOs_length : (vaOs X Ad Cp n).length = n := by simp [vaOs]
theorem vaOs_at {i : Nat} (hi : i < n) : (vaOs X Ad Cp n)[i]? = some (byO (.slice (Ad i) (X i).val.length (Cp i)) (X i).val) := by simp [vaOs, hi]
theorem vaOs_mem {o : Ob} : o ∈ vaOs X Ad Cp n ↔ ∃ i, i < n ∧ o = byO (.slice (Ad i) (X i).val.length (Cp i)) (X i).val := by
  unfold vaOs
  constructor
  · intro h
    obtain ⟨i, hi, e⟩ := List.mem_map.1 h
    exact ⟨i, List.mem_range.1 hi, e.symm⟩
  · rintro ⟨i, hi, rfl⟩
    exact List.mem_map.2 ⟨i, List.mem_range.2 hi, rfl⟩
theorem vaOs_congr {X' : Nat → Chg} {Ad' : Nat → Option Addr} {Cp' : Nat → Nat} (h : ∀ i, i < n → X i = X' i ∧ Ad i = Ad' i ∧ Cp i = Cp' i) : vaOs X Ad Cp n = vaOs X' Ad' Cp' n := by
  unfold vaOs
  refine List.map_congr_left fun i hi => ?_
  obtain ⟨h1, h2, h3⟩ := h i (List.mem_range.1 hi)
  rw [h1, h2, h3]
theorem vaOs_upd (x : Chg) (A : Option Addr) (C : Nat) : vaOs (upd X n x) (upd Ad n A) (upd Cp n C) (n + 1) = vaOs X Ad Cp n ++ [byO (.slice A x.val.length C) x.val] := by
  rw [vaOs_succ, upd_same, upd_same, upd_same, vaOs_congr (X' := X) (Ad' := Ad) (Cp' := Cp) fun i hi => ⟨upd_other _ _ (by omega), upd_other _ _ (by omega), upd_other _ _ (by omega)⟩]
theorem vaOs_cons (h : 0 < n) : vaOs X Ad Cp n = byO (.slice (Ad 0) (X 0).val.length (Cp 0)) (X 0).val :: vaOs (fun k => X (1 + k)) (fun k => Ad (1 + k)) (fun k => Cp (1 + k)) (n - 1) := by
  obtain ⟨m, rfl⟩ : ∃ m, n = m + 1 := ⟨n - 1, by omega⟩
  unfold vaOs
  rw [List.range_succ_eq_map, List.map_cons, List.map_map]
  congr 1
  simp only [Nat.add_sub_cancel]
  exact List.map_congr_left fun i _ => by simp [Function.comp, Nat.add_comm]
end
/-- A list of changes that is a call's own, with its values. -/
structure ChsAll (w : World) (base : Nat) (v : Value) (n : Nat) (X : Nat → Chg) (Ad : Nat → Option Addr) (Cp : Nat → Nat) : Prop where
  own : ChsOwn w base v n X Ad Cp
  all : Obs w base (roO v n (flat X Ad Cp n) :: vaOs X Ad Cp n)
section
variable {w w' w0 : World} {base base' : Nat} {v v' : Value} {n : Nat} {X : Nat → Chg} {Ad : Nat → Option Addr} {Cp : Nat → Nat}
theorem ChsAll.nil (w : World) (base : Nat) (X : Nat → Chg) (Ad : Nat → Option Addr) (Cp : Nat → Nat) : ChsAll w base (.slice none 0 0) 0 X Ad Cp :=
  ⟨ChsOwn.nil w base X Ad Cp, fun o ho => by rw [List.mem_singleton.1 ho]; exact World.ownsRow_nil w base _ _, List.pairwise_singleton _ _⟩
theorem ChsAll.later (h : ChsAll w base v n X Ad Cp) (hb : Below w.heap.size w w') : ChsAll w' base v n X Ad Cp := ⟨h.own.later hb, h.all.below hb⟩
theorem ChsAll.mono (h : ChsAll w base v n X Ad Cp) (hb : base' ≤ base) : ChsAll w base' v n X Ad Cp := ⟨{ h.own with own := row_mono h.own.own hb }, h.all.mono hb⟩
theorem ChsAll.vals (h : ChsAll w base v n X Ad Cp) : Obs w base (vaOs X Ad Cp n) := h.all.sub (List.sublist_cons_self _ _)
/-- The value of a change is the list's own. -/
theorem ChsAll.val (h : ChsAll w base v n X Ad Cp) {i : Nat} (hi : i < n) : OwnU w base (.slice (Ad i) (X i).val.length (Cp i)) (X i).val :=
  ⟨h.all.own _ (List.mem_cons_of_mem _ (vaOs_mem.2 ⟨i, hi, rfl⟩)), (h.own.val i hi).1.2.1⟩
theorem ChsAll.rowApart (h : ChsAll w base v n X Ad Cp) {o : Ob} (ho : o ∈ vaOs X Ad Cp n) : Apart v o.v := (List.pairwise_cons.1 h.all.dis).1 o ho
theorem Lies.lt_or {u : Value} (hl : Lies w v v') (hu : ∀ k, u.ownBlock = some k → k < w.heap.size) (ha : Apart v u) : Apart v' u := apart_step ha hl hu
/-- One more change is appended, whose value is new. -/
theorem ChsAll.more (h : ChsAll w base v n X Ad Cp) {x : Chg} {A : Option Addr} {C : Nat} (hk : IsB x.key ∧ x.key.length = 32) (hv : OwnU w base (.slice A x.val.length C) x.val) (hr : Apart v (.slice A x.val.length C)) (hd : ∀ o, o ∈ vaOs X Ad Cp n → Apart o.v (.slice A x.val.length C))
    (ho : w'.ownsRow base 45 34 v' (n + 1) (flat X Ad Cp n ++ chC x A C)) (hg : w.grownBy w' v.ownBlock) (hl : Lies w v v') : ChsAll w' base v' (n + 1) (upd X n x) (upd Ad n A) (upd Cp n C) := by
  have hrb := hv.reads'
  have hnon : A = none → C = 0 := hrb.2.2.2
  have hcm : C ≤ maxLen := by
    rcases hv.1.2 with ⟨e1, _⟩ | ⟨g, cap, cur, e1, _, _, _, hm, _⟩
    · injection e1 with _ _ e3
      rw [e3]
      exact Nat.zero_le _
    · injection e1 with _ _ e3
      rw [e3]
      exact hm
  have hblk : ∀ ad, A = some ad → (Value.slice A x.val.length C).ownBlock = some ad.block := fun ad e => by rw [e]; rfl
  have hown := h.own.more hk (x := x) (A := A) (C := C) ⟨hrb.2.1, hrb.2.2.1, hcm, hnon⟩ (fun _ ad e he => hr _ he.symm (hblk ad e)) ho hg hl
  have ht := Touch.grown hg
  refine ⟨hown, ⟨fun o ho' => ?_, ?_⟩⟩
  · rcases List.mem_cons.1 ho' with rfl | ho'
    · exact hown.own
    · rw [vaOs_upd] at ho'
      rcases List.mem_append.1 ho' with ho' | ho'
      · exact ht.row (h.vals.own o ho') fun k hk e => h.rowApart ho' k e.symm hk
      · rw [List.mem_singleton.1 ho']
        exact ht.row hv.1 fun k hk e => hr k e.symm hk
  · refine List.pairwise_cons.2 ⟨fun o ho' => ?_, ?_⟩
    · rw [vaOs_upd] at ho'
      rcases List.mem_append.1 ho' with ho' | ho'
      · exact apart_step (h.rowApart ho') hl fun k hk => (h.vals.lt ho' hk).2
      · rw [List.mem_singleton.1 ho']
        exact apart_step hr hl fun k hk => (hv.lt k hk).2
    · rw [vaOs_upd]
      exact List.pairwise_append.2 ⟨h.vals.dis, List.pairwise_singleton _ _, fun a ha b hb => by rw [List.mem_singleton.1 hb]; exact hd a ha⟩
theorem ChsAll.made (h : w.ownsRow base 45 34 v 0 []) : ChsAll w base v 0 X Ad Cp :=
  ⟨{ own := h, key := fun i hi => by omega, val := fun i hi => by omega, apart := fun i hi => by omega }, fun o ho => by rw [List.mem_singleton.1 ho]; exact h, List.pairwise_singleton _ _⟩
/-- What is new lies apart from it. -/
theorem ChsAll.fresh (h : ChsAll w base v n X Ad Cp) {u : Value} {M : Nat} (hM : w.heap.size ≤ M) (hu : ∀ B, u.ownBlock = some B → M ≤ B) : Apart v u ∧ ∀ o, o ∈ vaOs X Ad Cp n → Apart o.v u :=
  ⟨fun B hB hB' => by have := (h.own.own.lt B hB).2; have := hu B hB'; omega, fun o ho B hB hB' => by have := (h.vals.lt ho hB).2; have := hu B hB'; omega⟩
/-- The same changes in another order. -/
theorem ChsAll.sorted {g N c : Nat} {X' : Nat → Chg} {Ad' : Nat → Option Addr} {Cp' : Nat → Nat} (h : ChsAll w base (.slice (some ⟨g, 0, none⟩) N c) N X Ad Cp) (ho : ChsOwn w' base (.slice (some ⟨g, 0, none⟩) N c) N X' Ad' Cp') (hg : w.grownBy w' (some g)) (hp : (vaOs X' Ad' Cp' N).Perm (vaOs X Ad Cp N)) :
    ChsAll w' base (.slice (some ⟨g, 0, none⟩) N c) N X' Ad' Cp' := by
  have ht := Touch.grown hg
  have hv : Obs w' base (vaOs X Ad Cp N) := h.vals.touch ht fun o ho' B hB e => by
    injection e with e
    exact h.rowApart ho' g rfl (by rw [hB, e])
  have hv' := hv.perm hp.symm
  exact ⟨ho, fun o ho' => (List.mem_cons.1 ho').elim (fun e => by rw [e]; exact ho.own) (hv'.own o), List.pairwise_cons.2 ⟨fun o ho' => h.rowApart (hp.subset ho'), hv'.dis⟩⟩
end
/-- The list at P holds N changes, with the addresses of their values. -/
def ChsAd (w : World) (P : Option Addr) (N : Nat) (X : Nat → Chg) (Ad : Nat → Option Addr) (Cp : Nat → Nat) : Prop :=
  N ≤ maxLen ∧ ∀ k, k < N → ∃ b o, P = some ⟨b, o, none⟩ ∧ b < w.heap.size ∧ w.rangeAt b (o + k * 34) (chC (X k) (Ad k) (Cp k)) ∧ IsB (X k).key ∧ (X k).key.length = 32 ∧
    RB w (Ad k) (X k).val.length (X k).val ∧ (X k).val.length ≤ Cp k ∧ Cp k ≤ maxLen ∧ (Ad k = none → Cp k = 0)
section
variable {w w' : World} {P : Option Addr} {N : Nat} {X : Nat → Chg} {Ad : Nat → Option Addr} {Cp : Nat → Nat}
theorem ChsAd.at_ (h : ChsAd w P N X Ad Cp) : ChsAt w P N X := ⟨h.1, fun k hk => by
  obtain ⟨b, o, h1, h2, h3, h4, h5, h6⟩ := h.2 k hk
  exact ⟨b, o, Ad k, Cp k, h1, h2, h3, h4, h5, h6⟩⟩
theorem ChsAd.below (h : ChsAd w P N X Ad Cp) (hb : Below w.heap.size w w') : ChsAd w' P N X Ad Cp := ⟨h.1, fun k hk => by
  obtain ⟨b, o, h1, h2, h3, h4, h5, h6, h7⟩ := h.2 k hk
  exact ⟨b, o, h1, Nat.lt_of_lt_of_le h2 hb.size, range_below hb h2 h3, h4, h5, h6.below hb, h7⟩⟩
theorem ChsOwn.formAd {base n : Nat} {v : Value} (h : ChsOwn w base v n X Ad Cp) : ∃ A C, v = .slice A n C ∧ ChsAd w A n X Ad Cp ∧ n ≤ C ∧ (A = none → C = 0) ∧ n ≤ maxLen ∧ ∀ ad, A = some ad → ∃ g, ad = ⟨g, 0, none⟩ ∧ base ≤ g := by
  rcases h.own.2 with ⟨e1, h0⟩ | ⟨g, cap, cur, e1, hb, hc, hnc, hcm, hr⟩
  · subst h0
    exact ⟨none, 0, e1, ⟨Nat.zero_le _, fun k hk => by omega⟩, Nat.le_refl _, fun _ => rfl, Nat.zero_le _, (fun ad e => by cases e)⟩
  · have hn : n ≤ maxLen := by omega
    have ho := h.own
    rw [e1] at ho
    refine ⟨_, cap, e1, ⟨hn, fun k hk => ⟨g, 0, rfl, (h.own.lt g (by rw [e1]; rfl)).2, fun j u hj => ?_, (h.key k hk).1, (h.key k hk).2, (h.val k hk).1, (h.val k hk).2⟩⟩, hnc, (fun h => by cases h), hn, fun ad e => ⟨g, by injection e with e; exact e.symm, hb⟩⟩
    have hj34 : j < 34 := by
      have := (List.getElem?_eq_some_iff.1 hj).1
      rwa [chC_length (h.key k hk).2] at this
    have hlt : k * 34 + j < n * 34 := by omega
    rw [Nat.zero_add, World.ownsRow.cellAt ho _ hlt, flat_at (fun i hi => (h.key i hi).2) hk hj34]
    exact hj
/-- The list without its first k. -/
theorem ChsAd.drop (h : ChsAd w P N X Ad Cp) {k : Nat} (hk : k ≤ N) {B : Option Addr} (hB : k < N → B = P.map (·.add (k * 34))) : ChsAd w B (N - k) (fun j => X (k + j)) (fun j => Ad (k + j)) (fun j => Cp (k + j)) := by
  refine ⟨by have := h.1; omega, fun j hj => ?_⟩
  obtain ⟨b, o, h1, h2, h3, h4⟩ := h.2 (k + j) (by omega)
  refine ⟨b, o + k * 34, ?_, h2, ?_, h4⟩
  · rw [hB (by omega), h1, Option.map_some, add_lit]
  · rwa [show o + k * 34 + j * 34 = o + (k + j) * 34 by omega]
end
end Go.Proofs.Ytkpbeibcfaenhaa

/- A drawn region whose last store changes what an earlier load reads: S is shown anew only as long as that store (number s) has not come up. No program is named here. -/
namespace Go.Proofs.Ytkpbeibcfaenhaa
open Go.RowKit
section
variable {P : Program} {ops : Array Oper} {Q : Exit → Act → World → Prop} {md : Region.Mode} {S : World → Prop} {s : Nat}
def UpTo (S : World → Prop) (s : Nat) (listed : Array Bool) (w : World) : Prop := listed.getD s true = false → S w
def wpAnyU (P : Program) (md : Region.Mode) (ops : Array Oper) (Q : Exit → Act → World → Prop) (S : World → Prop) (s : Nat) : Nat → Array Bool → Act → World → Prop
  | 0, listed, a, w => Region.ready md ops listed = [] ∧ Q .normal a w
  | fuel + 1, listed, a, w =>
    (Region.ready md ops listed = [] → Q .normal a w) ∧
    ∀ i ∈ Region.ready md ops listed, wpOp P ops Q i (fun a' w' => UpTo S s (listed.setIfInBounds i true) w' ∧ wpAnyU P md ops Q S s fuel (listed.setIfInBounds i true) a' w') a w
theorem wpAny_of_upTo : ∀ (fuel : Nat) (listed : Array Bool) (a : Act) (w : World), wpAnyU P md ops Q S s fuel listed a w → wpAny P md ops Q fuel listed a w
  | 0, _, _, _, h => h
  | fuel + 1, _, _, _, h => ⟨h.1, fun i hi => wpOp_mono (fun a' w' h' => wpAny_of_upTo fuel _ a' w' h'.2) (h.2 i hi)⟩
/-- s waits for i, by the chain ch. -/
def waitsBy (md : Region.Mode) (ops : Array Oper) (ch : List Nat) (i s : Nat) : Bool :=
  ch.contains s && (ch.all fun c => match ops[c]? with
    | some oc => oc.after.any fun e => Region.binds md e && (e.on == i || ch.contains e.on)
    | none => false)
theorem not_ready {ch : List Nat} {i : Nat} {listed : Array Bool} (hch : waitsBy md ops ch i s = true) (hi : listed.getD i true = false) (hun : ∀ c ∈ ch, listed.getD c true = false) {j : Nat} (hj : j ∈ Region.ready md ops listed) : j ∉ ch := fun hc => by
  obtain ⟨_, oj, hoj, hall⟩ := mem_ready.1 hj
  unfold waitsBy at hch
  rw [Bool.and_eq_true] at hch
  have h1 := List.all_eq_true.1 hch.2 j hc
  rw [hoj] at h1
  dsimp only at h1
  rw [Array.any_eq_true'] at h1
  obtain ⟨e, he, h1⟩ := h1
  rw [Bool.and_eq_true, Bool.or_eq_true, beq_iff_eq, List.contains_iff_mem] at h1
  have h2 := hall e he h1.1
  have h3 : listed.getD e.on true = false := by
    rcases h1.2 with h3 | h3
    · rw [h3]; exact hi
    · exact hun _ h3
  rcases Nat.lt_or_ge e.on listed.size with h' | h'
  · simp [h'] at h2 h3
    rw [h3] at h2
    cases h2
  · simp [Array.getElem?_eq_none h'] at h2
theorem wpAnyU_first {i : Nat} {oi : Oper} {v : Value} {ch : List Nat} (hi : ops[i]? = some oi) (hsel : ∀ (j : Nat) (o : Oper) cs b, ops[j]? = some o → o.op ≠ .select cs b)
    (hQ : ∀ c a w, Q (.panic c) (a.put oi.dst v) w → Q (.panic c) a w) (hch : waitsBy md ops ch i s = true) (hni : i ∉ ch) :
    ∀ (fuel : Nat) (listed : Array Bool) (a : Act) (w : World),
      (∀ j oj, ops[j]? = some oj → j ≠ i → listed.getD j true = false → (∀ e ∈ oj.after, Region.binds md e = true → e.on ≠ i) → oi.apart ops oj = true) →
      i ∈ Region.ready md ops listed → YieldsIf P ops S oi v a → S w → (∀ c ∈ ch, listed.getD c true = false) →
      wpAnyU P md ops Q S s fuel (listed.setIfInBounds i true) (a.put oi.dst v) w → wpAnyU P md ops Q S s (fuel + 1) listed a w := by
  intro fuel
  induction fuel with
  | zero =>
    intro listed a w _ hr hy hS hun H
    refine ⟨fun h => (by rw [h] at hr; cases hr), fun j hj => ?_⟩
    by_cases hji : j = i
    · subst hji; exact hy.wpOp hi hS ⟨fun _ => hS, H⟩
    · have := ready_mono hj hji
      rw [H.1] at this
      cases this
  | succ fuel ih =>
    intro listed a w hfree hr hy hS hun H
    refine ⟨fun h => (by rw [h] at hr; cases hr), fun j hj => ?_⟩
    by_cases hji : j = i
    · subst hji; exact hy.wpOp hi hS ⟨fun _ => hS, H⟩
    · have h1 := H.2 j (ready_mono hj hji)
      have hi0 : listed.getD i true = false := (mem_ready.1 hr).1
      have hjc := not_ready hch hi0 hun hj
      obtain ⟨hjun, oj, hoj, hall⟩ := mem_ready.1 hj
      have hnot : ∀ e ∈ oj.after, Region.binds md e = true → e.on ≠ i := fun e he hb heq => by
        have h1 := hall e he hb
        rw [heq] at h1
        rcases Nat.lt_or_ge i listed.size with h' | h'
        · simp [h'] at hi0 h1; rw [hi0] at h1; cases h1
        · simp [Array.getElem?_eq_none h'] at h1
      have h2 := wpOp_putIf hoj (hfree j oj hoj hji hjun hnot) (fun cs b => hsel i oi cs b hi) (fun cs b => hsel j oj cs b hoj) hQ hy h1
      have hfree' : ∀ k ok, ops[k]? = some ok → k ≠ i → (listed.setIfInBounds j true).getD k true = false →
          (∀ e ∈ ok.after, Region.binds md e = true → e.on ≠ i) → oi.apart ops ok = true := fun k ok hk hki hun2 hno => by
        refine hfree k ok hk hki ?_ hno
        by_cases hjk : j = k
        · subst hjk; exact hjun
        · rw [getD_set_ne true hjk] at hun2; exact hun2
      have hun' : ∀ c ∈ ch, (listed.setIfInBounds j true).getD c true = false := fun c hc => by
        have hne : j ≠ c := fun e => hjc (by rw [e]; exact hc)
        rw [getD_set_ne true hne]
        exact hun c hc
      have hsc : s ∈ ch := by
        unfold waitsBy at hch
        rw [Bool.and_eq_true, List.contains_iff_mem] at hch
        exact hch.1
      have hS' : ∀ w' : World, UpTo S s ((listed.setIfInBounds i true).setIfInBounds j true) w' → S w' := fun w' h => h (by
        have hn1 : j ≠ s := fun e => hjc (by rw [e]; exact hsc)
        have hn2 : i ≠ s := fun e => hni (by rw [e]; exact hsc)
        rw [getD_set_ne true hn1, getD_set_ne true hn2]
        exact hun s hsc)
      refine wpOp_mono (fun a' w' h3 => ⟨fun _ => hS' w' h3.2.1, ih (listed.setIfInBounds j true) a' w' hfree' (ready_mono hr (Ne.symm hji)) h3.1 (hS' w' h3.2.1) hun' ?_⟩) h2
      rw [Array.setIfInBounds_comm _ _ hji]
      exact h3.2.2
theorem wpAnyU_take {i : Nat} {oi : Oper} {v : Value} {fuel : Nat} {listed : Array Bool} {a : Act} {w : World} (ch : List Nat) (hi : ops[i]? = some oi)
    (hs : Region.noSelect ops = true) (hf : Region.free md ops listed i = true) (hr : (Region.ready md ops listed).contains i = true)
    (hQ : ∀ c a w, Q (.panic c) (a.put oi.dst v) w → Q (.panic c) a w) (hch : waitsBy md ops ch i s = true) (hni : ch.contains i = false) (hun : (ch.all fun c => !(listed.getD c true)) = true) (hy : YieldsIf P ops S oi v a) (hS : S w)
    (h : wpAnyU P md ops Q S s fuel (listed.setIfInBounds i true) (a.put oi.dst v) w) : wpAnyU P md ops Q S s (fuel + 1) listed a w :=
  wpAnyU_first hi (Region.noSelect_spec hs) hQ hch (fun hc => by rw [List.contains_iff_mem.2 hc] at hni; cases hni) fuel listed a w (Region.free_spec hi hf) (by simpa using hr) hy hS (fun c hc => by
    have := List.all_eq_true.1 hun c hc
    simpa using this) h
theorem wpAnyU_done {listed : Array Bool} {a : Act} {w : World} (hr : Region.ready md ops listed = []) (h : Q .normal a w) : ∀ fuel, wpAnyU P md ops Q S s fuel listed a w
  | 0 => ⟨hr, h⟩
  | _ + 1 => ⟨fun _ => h, by rw [hr]; simp⟩
/-- One operation comes up alone. -/
theorem wpAnyU_one {i : Nat} {o : Oper} {fuel : Nat} {listed : Array Bool} {a : Act} {w : World} (hr : Region.ready md ops listed = [i]) (ho : ops[i]? = some o)
    (h : ∀ K' : Act → World → Prop, Shut (∀ a w, UpTo S s (listed.setIfInBounds i true) w → wpAnyU P md ops Q S s fuel (listed.setIfInBounds i true) a w → K' a w) → if Region.wanted o (yielded ops a.tmps) = true then Oper.wp P o a w K' Q else K' (a.put o.dst undef) w) :
    wpAnyU P md ops Q S s (fuel + 1) listed a w :=
  ⟨fun h0 => (by rw [hr] at h0; cases h0), fun j hj => by
    rw [hr] at hj
    obtain rfl : j = i := by simpa using hj
    exact wpOp_step ho (fun K' hK => h K' (fun a w hS hW => hK a w ⟨hS, hW⟩))⟩
theorem wp_region_upTo {id : Nat} {a : Act} {w : World} (s : Nat) (hm : P.follows .mixedOrders = true) (hS : S w.drew)
    (h : S w.drew → wpAnyU P .any ops Q S s ops.size (Array.replicate ops.size false) a w.drew) : (Code.region id ops true).wp P Q a w :=
  wp_region_any hm (wpAny_of_upTo _ _ _ _ (h hS))
end
end Go.Proofs.Ytkpbeibcfaenhaa

/- ledgerlaw3.copyChanges, the values its own. (printed by gen_copyk.py) -/
namespace Go.Proofs.Ytkpbeibcfaenhaa
open Go.RowKit
/-- A list of changes in new memory. -/
def ChsRetK (N : Nat) (X : Nat → Chg) (w : World) (e : Ending) (w' : World) : Prop := ∃ v Ad Cp, e = .returned v ∧ ChsAll w' w.heap.size v N X Ad Cp ∧ Below w.heap.size w w'
set_option maxRecDepth 100000 in
set_option maxHeartbeats 4000000 in
theorem copyK_any (A : Option Addr) (N c : Nat) (X : Nat → Chg) (w : World) (hx : ChsAt w A N X) (hn : N * 64 ≤ 140737488355328) (hv : ∀ k, k < N → (X k).val.length ≤ 140737488355328) :
    Calls Try.prog 20 #[.slice A N c] w (ChsRetK N X w) := by
  have HX := Lib.hid hx
  have HV := Lib.hid hv
  have hu := und_key
  clear hx hv
  go_enter Try.func20, Try.ntmps20
  go_wp2_with fail
  go_loopw [3, 4] (fun v i wr => ∃ k : Nat, k ≤ N ∧ i = .int .i64 k ∧ (∃ Ad Cp, Hid (ChsAll wr w.heap.size v k X Ad Cp)) ∧ Hid (Below w.heap.size w wr)) (fun _ i _ => N - (intOf i).toNat)
  case atStart => exact ⟨0, by omega, rfl, ⟨fun _ => none, fun _ => 0, ChsAll.nil _ _ _ _ _⟩, Below.refl _ _⟩
  case round =>
    obtain ⟨k, hk, rfl, ⟨Ad, Cp, HO⟩, HB⟩ := hrel
    obtain ⟨w1, rfl⟩ : ∃ w1, w1 = wr := ⟨_, rfl⟩
    by_cases hlt : k < N
    · obtain ⟨b, o, Av, Cv, rfl, hb, hr, hkB, hkl, hvr, hvC, hCm, hnil⟩ := HX.out.2 k hlt
      have hlt' : (k : Int) < N := by omega
      have KS : Hid (∀ W, Below w.heap.size w W → W.rangeAt b (o + k * 34) (bvs (X k).key) ∧ W.cell? ⟨b, o + k * 34 + 32, none⟩ = some (.bool (X k).del) ∧ W.cell? ⟨b, o + k * 34 + 33, none⟩ = some (.slice Av (X k).val.length Cv)) := fun W hW =>
        have h2 := range_below hW hb hr
        ⟨ch_key h2, ch_del h2 hkl, ch_val h2 hkl⟩
      have HR : Hid (∀ W, Below w.heap.size w W → RB W Av (X k).val.length (X k).val) := fun W hW => hvr.below hW
      have hsz : (Try.prog.info? 25).map (·.size) = some (bvs (X k).key).length := by rw [size_key]; simp [bvs, hkl]
      have HK := Lib.hid (show IsB (X k).key ∧ (X k).key.length = 32 from ⟨hkB, hkl⟩)
      have hvl := HV.out k hlt
      have HUP : Hid (∀ _ : Nat, upd X k (X k) = X) := fun _ => upd_self X k
      clear hr hkB hvr hkl hvC hCm hnil
      generalize X k = x at *
      go_wp2_with fail
      rename_i KK hKK
      have HKK := Lib.hid hKK
      clear hKK
      refine wp_region_held_drew (S := fun w' => w'.rangeAt b (o + k * 34) (bvs x.key) ∧ w'.cell? ⟨b, o + k * 34 + 32, none⟩ = some (.bool x.del) ∧ w'.cell? ⟨b, o + k * 34 + 33, none⟩ = some (.slice Av x.val.length Cv)) (by kernel_rfl) (KS.out _ (drewN_below HB.out 1)) fun hH => ?_
      refine wpAnyH_take (i := 0) (oi := ⟨some 11, _, _, _, _, _⟩) rfl (by kernel_rfl) (by kernel_rfl) (by kernel_rfl) (fun _ _ _ h => h) (Or.inl ⟨by rfl, fun w hw => by ((try dsimp only at hw); go_split_ands; go_simp; with_reducible rfl)⟩) (by assumption) ?_
      try simp only [Act.put, List.setIfInBounds_toArray, List.set_cons_zero, List.set_cons_succ]
      refine wpAnyH_take (i := 1) (oi := ⟨some 12, _, _, _, _, _⟩) rfl (by kernel_rfl) (by kernel_rfl) (by kernel_rfl) (fun _ _ _ h => h) (Or.inl ⟨by rfl, fun w hw => by ((try dsimp only at hw); go_split_ands; go_simp; with_reducible rfl)⟩) (by assumption) ?_
      try simp only [Act.put, List.setIfInBounds_toArray, List.set_cons_zero, List.set_cons_succ]
      refine wpAnyH_take (i := 2) (oi := ⟨some 13, _, _, _, _, _⟩) rfl (by kernel_rfl) (by kernel_rfl) (by kernel_rfl) (fun _ _ _ h => h) (Or.inl ⟨by rfl, fun w hw => by ((try dsimp only at hw); go_split_ands; go_simp; with_reducible rfl)⟩) (by assumption) ?_
      try simp only [Act.put, List.setIfInBounds_toArray, List.set_cons_zero, List.set_cons_succ]
      refine wpAnyH_take (i := 3) (oi := ⟨some 14, _, _, _, _, _⟩) rfl (by kernel_rfl) (by kernel_rfl) (by kernel_rfl) (fun _ _ _ h => h) (Or.inl ⟨by rfl, fun w hw => by ((try dsimp only at hw); go_split_ands; go_simp; with_reducible rfl)⟩) (by assumption) ?_
      try simp only [Act.put, List.setIfInBounds_toArray, List.set_cons_zero, List.set_cons_succ]
      refine wpAnyH_take (i := 4) (oi := ⟨some 15, _, _, _, _, _⟩) rfl (by kernel_rfl) (by kernel_rfl) (by kernel_rfl) (fun _ _ _ h => h) (Or.inl ⟨by rfl, fun w hw => by ((try dsimp only at hw); go_split_ands; go_simp; with_reducible rfl)⟩) (by assumption) ?_
      try simp only [Act.put, List.setIfInBounds_toArray, List.set_cons_zero, List.set_cons_succ]
      refine wpAnyH_take (i := 5) (oi := ⟨some 16, _, _, _, _, _⟩) rfl (by kernel_rfl) (by kernel_rfl) (by kernel_rfl) (fun _ _ _ h => h) (yieldsIf_load_mid (by rfl) _ _ rfl _ _ rfl _ _ (fun w hw => by (try dsimp only at hw); go_split_ands; assumption) (by assumption) rfl (by assumption)) (by assumption) ?_
      try simp only [Act.put, List.setIfInBounds_toArray, List.set_cons_zero, List.set_cons_succ]
      refine wpAnyH_take (i := 6) (oi := ⟨some 17, _, _, _, _, _⟩) rfl (by kernel_rfl) (by kernel_rfl) (by kernel_rfl) (fun _ _ _ h => h) (Or.inl ⟨by rfl, fun w hw => by ((try dsimp only at hw); go_split_ands; go_simp; with_reducible rfl)⟩) (by assumption) ?_
      try simp only [Act.put, List.setIfInBounds_toArray, List.set_cons_zero, List.set_cons_succ]
      refine wpAnyH_take (i := 7) (oi := ⟨some 18, _, _, _, _, _⟩) rfl (by kernel_rfl) (by kernel_rfl) (by kernel_rfl) (fun _ _ _ h => h) (Or.inl ⟨by rfl, fun w hw => by ((try dsimp only at hw); go_split_ands; go_simp; with_reducible rfl)⟩) (by assumption) ?_
      try simp only [Act.put, List.setIfInBounds_toArray, List.set_cons_zero, List.set_cons_succ]
      refine wpAnyH_take (i := 8) (oi := ⟨some 19, _, _, _, _, _⟩) rfl (by kernel_rfl) (by kernel_rfl) (by kernel_rfl) (fun _ _ _ h => h) (Or.inl ⟨by rfl, fun w hw => by ((try dsimp only at hw); go_split_ands; go_simp; with_reducible rfl)⟩) (by assumption) ?_
      try simp only [Act.put, List.setIfInBounds_toArray, List.set_cons_zero, List.set_cons_succ]
      refine wpAnyH_take (i := 9) (oi := ⟨some 20, _, _, _, _, _⟩) rfl (by kernel_rfl) (by kernel_rfl) (by kernel_rfl) (fun _ _ _ h => h) (Or.inl ⟨by rfl, fun w hw => by ((try dsimp only at hw); go_split_ands; go_simp; with_reducible rfl)⟩) (by assumption) ?_
      try simp only [Act.put, List.setIfInBounds_toArray, List.set_cons_zero, List.set_cons_succ]
      refine wpAnyH_take (i := 10) (oi := ⟨some 21, _, _, _, _, _⟩) rfl (by kernel_rfl) (by kernel_rfl) (by kernel_rfl) (fun _ _ _ h => h) (Or.inl ⟨by rfl, fun w hw => by ((try dsimp only at hw); go_split_ands; go_simp; with_reducible rfl)⟩) (by assumption) ?_
      try simp only [Act.put, List.setIfInBounds_toArray, List.set_cons_zero, List.set_cons_succ]
      refine wpAnyH_take (i := 11) (oi := ⟨some 22, _, _, _, _, _⟩) rfl (by kernel_rfl) (by kernel_rfl) (by kernel_rfl) (fun _ _ _ h => h) (Or.inl ⟨by rfl, fun w hw => by ((try dsimp only at hw); go_split_ands; go_simp; with_reducible rfl)⟩) (by assumption) ?_
      try simp only [Act.put, List.setIfInBounds_toArray, List.set_cons_zero, List.set_cons_succ]
      refine wpAnyH_take (i := 12) (oi := ⟨some 23, _, _, _, _, _⟩) rfl (by kernel_rfl) (by kernel_rfl) (by kernel_rfl) (fun _ _ _ h => h) (Or.inl ⟨by rfl, fun w hw => by ((try dsimp only at hw); go_split_ands; go_simp; with_reducible rfl)⟩) (by assumption) ?_
      try simp only [Act.put, List.setIfInBounds_toArray, List.set_cons_zero, List.set_cons_succ]
      refine wpAnyH_take (i := 13) (oi := ⟨some 24, _, _, _, _, _⟩) rfl (by kernel_rfl) (by kernel_rfl) (by kernel_rfl) (fun _ _ _ h => h) (Or.inl ⟨by rfl, fun w hw => by ((try dsimp only at hw); go_split_ands; go_simp; with_reducible rfl)⟩) (by assumption) ?_
      try simp only [Act.put, List.setIfInBounds_toArray, List.set_cons_zero, List.set_cons_succ]
      refine wpAnyH_take (i := 14) (oi := ⟨some 25, _, _, _, _, _⟩) rfl (by kernel_rfl) (by kernel_rfl) (by kernel_rfl) (fun _ _ _ h => h) (Or.inl ⟨by rfl, fun w hw => by ((try dsimp only at hw); go_split_ands; go_simp; with_reducible rfl)⟩) (by assumption) ?_
      try simp only [Act.put, List.setIfInBounds_toArray, List.set_cons_zero, List.set_cons_succ]
      refine wpAnyH_take (i := 15) (oi := ⟨some 26, _, _, _, _, _⟩) rfl (by kernel_rfl) (by kernel_rfl) (by kernel_rfl) (fun _ _ _ h => h) (Or.inl ⟨by rfl, fun w hw => by ((try dsimp only at hw); go_split_ands; go_simp; with_reducible rfl)⟩) (by assumption) ?_
      try simp only [Act.put, List.setIfInBounds_toArray, List.set_cons_zero, List.set_cons_succ]
      refine wpAnyH_ready (rs := [16]) (by kernel_rfl) (by simp) ?_
      refine AllReadyH.cons rfl (fun K hK => ?_) (AllReadyH.nil)
      go_simp
      refine (copyBytes_any Av x.val.length Cv x.val (w1.drewN 1) (HR.out _ (drewN_below HB.out 1)) hvl).mono ?_
      rintro e w2 ⟨vc, rfl, hoc, hbc⟩
      have HB2 : Hid (Below w.heap.size w w2) := (drewN_below HB.out 1).trans (hbc.mono (drewN_below HB.out 1).size)
      have HO2 := Lib.hid ((HO.out.later (drewN_below (Below.refl _ _) 1)).later hbc)
      obtain ⟨A2, c2, e2, hr2, hlo2, hnil2, hle2⟩ := hoc.form
      subst e2
      have hcm2 := own_max hoc
      have HV2 : Hid (OwnU w2 w.heap.size (.slice A2 x.val.length c2) x.val) := Own.mono hoc (drewN_below HB.out 1).size
      have HAP := Lib.hid (HO.out.fresh (u := .slice A2 x.val.length c2) (M := (w1.drewN 1).heap.size) (Nat.le_refl _) (fun B hB => hoc.ge B hB))
      refine hK.out _ _ (KS.out _ HB2.out) (fun hH2 => ?_)
      clear hK hH hoc hbc hr2 hlo2 hnil2 hle2 hcm2
      refine wpAnyH_ready (rs := [17]) (by kernel_rfl) (by simp) ?_
      refine AllReadyH.cons (o := ⟨some 28, _, _, _, _, _⟩) rfl (fun K hK => ?_) (AllReadyH.nil)
      refine wpOp_build (o := ⟨some 28, _, _, _, _, _⟩) ?hw1 w2 45 #[(0, .tmp 16), (1, .tmp 21), (2, .tmp 27)] rfl [(0, .agg (bvs x.key).toArray), (1, .bool x.del), (2, .slice A2 x.val.length c2)] ?hv1 _ (built_ch HK.out.2) ?hh1
      case hw1 => kernel_rfl
      case hv1 => simp [go_sem]
      refine hK.out _ _ (KS.out _ HB2.out) (fun hH3 => ?_)
      clear hK hH2
      refine wpAnyH_ready (rs := [18]) (by kernel_rfl) (by simp) ?_
      refine AllReadyH.cons (o := ⟨some 29, _, _, _, _, _⟩) rfl (fun K hK => ?_) (AllReadyH.nil)
      refine wpOp_buildSlice1 (o := ⟨some 29, _, _, _, _, _⟩) ?hw2 w2 30 45 _ 34 (.tmp 28) rfl und_chl info_chg (by decide) (by decide) (chC x A2 c2).toArray ?hx2 ?hs2 ?hh2
      case hw2 => kernel_rfl
      case hx2 => rfl
      case hs2 => rw [List.size_toArray, chC_length HK.out.2]
      refine hK.out _ _ (KS.out _ (HB2.out.alloc HB2.out.size _)) (fun hH4 => ?_)
      clear hK hH3
      refine wpAnyH_ready (rs := [19]) (by kernel_rfl) (by simp) ?_
      refine AllReadyH.cons (o := ⟨some 30, _, _, _, _, _⟩) rfl (fun K hK => ?_) (AllReadyH.nil)
      refine wpOp_append1C (o := ⟨some 30, _, _, _, _, _⟩) und_chl info_chg3 rfl ?hw3 w2 (.tmp 11) (.tmp 29) rfl w.heap.size u3 k _ HO2.out.own.own (chC x A2 c2) (chC_length HK.out.2) chC_one ?hs3 ?hx3 (by omega) (by omega) HB2.out.size ?hh3
      case hw3 => kernel_rfl
      case hs3 => rfl
      case hx3 => rfl
      intro v3 w3 ho3 hg3 hl3
      have HO3 := Lib.hid (HO2.out.more HK.out HV2.out HAP.out.1 HAP.out.2 ho3 hg3 hl3)
      rw [HUP.out 0] at HO3
      have HB3 : Hid (Below w.heap.size w w3) := HB2.out.grown hg3 HB2.out.size HO2.out.own.ge
      refine hK.out _ _ (KS.out _ HB3.out) (fun hH5 => ?_)
      clear hK hH4 ho3 hg3 hl3
      refine wpAnyH_take (i := 20) (oi := ⟨some 3, _, _, _, _, _⟩) rfl (by kernel_rfl) (by kernel_rfl) (by kernel_rfl) (fun _ _ _ h => h) (Or.inl ⟨by rfl, fun w hw => by ((try dsimp only at hw); go_split_ands; go_simp; with_reducible rfl)⟩) (by assumption) ?_
      try simp only [Act.put, List.setIfInBounds_toArray, List.set_cons_zero, List.set_cons_succ]
      refine wpAnyH_done (by kernel_rfl) ?_ _
      change KK _ _
      refine HKK.out _ _ ?_
      clear hH5 hu hsz
      go_wp2_with fail
      go_roundw
      case rel => exact ⟨k + 1, by omega, by go_num, ⟨_, _, HO3.out⟩, HB3.out⟩
      case measure => simp [intOf]; omega
    · have hnlt : ¬ (k : Int) < N := by omega
      obtain rfl : k = N := by omega
      go_wp2_with fail
      go_ret
      exact ⟨_, _, _, rfl, HO.out, HB.out⟩
end Go.Proofs.Ytkpbeibcfaenhaa

/- ledgerlaw3.rows: four lists of lists in one block, and what they hold. No function of the program is named here. -/
namespace Go.Proofs.Ytkpbeibcfaenhaa
open Go.RowKit
section
variable {P : Program}
/-- 'append(l, u)' of one value of one cell. -/
theorem appendV_run {t e : TypeId} (ht : P.underlying t = some (.slice e)) (hinfo : (P.info? e).map (fun i => (i.zero, i.size, i.bytes)) = some (some (.slice none 0 0), 1, 24))
    {o : Oper} {a : Act} (w : World) (s x : Operand) (ho : o.op = .call { callee := .builtin .append, args := #[s, x], argTypes := #[t, t] })
    (base : Nat) (v : Value) (xs : List Value) (hown : w.ownsRow base e 1 v xs.length xs) (u : Value) (hu : u.oneCell' = true) (hs : a.eval s = v) (hx : a.eval x = .slice (some ⟨w.heap.size, 0, none⟩) 1 1)
    (hlen : xs.length ≤ 1073741824) (hbase : base ≤ w.heap.size) :
    ∃ v' w', (execOp a.eval o).run P (w.alloc (.cells #[u] e)) = .ok (.value v') w' ∧ w'.ownsRow base e 1 v' (xs ++ [u]).length (xs ++ [u]) ∧ w.grownBy w' v.ownBlock ∧ Lies w v v' := by
  obtain ⟨i, hi, hz, hs1, hby⟩ := info_parts hinfo
  obtain ⟨v', w', hr, h1, h2, _, h4⟩ := run_append_own_at (P := P) (w.alloc (.cells #[u] e)) base t o.type e i (.slice none 0 0) 1 24 ht hi hz hs1 hby rfl (by decide) v xs.length xs (hown.alloc _)
    ⟨w.heap.size, 0, none⟩ 1 1 [u] rfl (cell_one_new w u e) (fun z hz => by rw [List.mem_singleton.1 hz]; exact hu) (by unfold maxLen; omega) (by omega) (by simp; omega)
  refine ⟨v', w', ?_, by rw [List.length_append]; exact h1, grown_trans (World.grownBy_alloc _ _ _) h2, ?_⟩
  · unfold execOp
    simp only [ho, resolve, invoke, builtin, Sem.run_bind, Sem.run_pure, Result.andThen_ok, List.map_toArray, List.map_cons, List.map_nil, hs, hx, hr]
  · intro k hk
    rcases h4 with h4 | h4
    · rw [h4] at hk
      exact .inl hk
    · rw [h4] at hk
      injection hk with hk
      simp at hk
      exact .inr (by omega)
theorem wpOp_appendV {t e : TypeId} (ht : P.underlying t = some (.slice e)) (hinfo : (P.info? e).map (fun i => (i.zero, i.size, i.bytes)) = some (some (.slice none 0 0), 1, 24))
    {ops : Array Oper} {Q : Exit → Act → World → Prop} {K : Act → World → Prop} {o : Oper} {a : Act} (hw : Region.wanted o (yielded ops a.tmps) = true) (w : World) (s x : Operand) (ho : o.op = .call { callee := .builtin .append, args := #[s, x], argTypes := #[t, t] })
    (base : Nat) (v : Value) (xs : List Value) (hown : w.ownsRow base e 1 v xs.length xs) (u : Value) (hu : u.oneCell' = true) (hs : a.eval s = v) (hx : a.eval x = .slice (some ⟨w.heap.size, 0, none⟩) 1 1)
    (hlen : xs.length ≤ 1073741824) (hbase : base ≤ w.heap.size)
    (h : ∀ v' w', w'.ownsRow base e 1 v' (xs ++ [u]).length (xs ++ [u]) → w.grownBy w' v.ownBlock → Lies w v v' → K (a.put o.dst v') w') :
    if Region.wanted o (yielded ops a.tmps) = true then o.wp P a (w.alloc (.cells #[u] e)) K Q else K (a.put o.dst undef) (w.alloc (.cells #[u] e)) := by
  obtain ⟨v', w', hr, h1, h2, h3⟩ := appendV_run (o := o) ht hinfo w s x ho base v xs hown u hu hs hx hlen hbase
  rw [if_pos hw]
  unfold Oper.wp
  rw [hr]
  exact h v' w' h1 h2 h3
theorem appendV {t e : TypeId} (ht : P.underlying t = some (.slice e)) (hinfo : (P.info? e).map (fun i => (i.zero, i.size, i.bytes)) = some (some (.slice none 0 0), 1, 24))
    {ops : Array Oper} {rest : List Oper} {o : Oper} {a : Act} {Q : Exit → Act → World → Prop} (w : World) (hgd : o.guard = none) (s x : Operand) (ho : o.op = .call { callee := .builtin .append, args := #[s, x], argTypes := #[t, t] })
    (base : Nat) (v : Value) (xs : List Value) (hown : w.ownsRow base e 1 v xs.length xs) (u : Value) (hu : u.oneCell' = true) (hs : a.eval s = v) (hx : a.eval x = .slice (some ⟨w.heap.size, 0, none⟩) 1 1)
    (hlen : xs.length ≤ 1073741824) (hbase : base ≤ w.heap.size)
    (h : ∀ v' w', w'.ownsRow base e 1 v' (xs ++ [u]).length (xs ++ [u]) → w.grownBy w' v.ownBlock → Lies w v v' → wpList P ops Q rest (a.put o.dst v') w') :
    wpList P ops Q (o :: rest) a (w.alloc (.cells #[u] e)) := by
  obtain ⟨v', w', hr, h1, h2, h3⟩ := appendV_run (o := o) ht hinfo w s x ho base v xs hown u hu hs hx hlen hbase
  refine wpList_plain hgd fun K hK => ?_
  unfold Oper.wp
  rw [hr]
  exact hK _ _ (h v' w' h1 h2 h3)
end
theorem rowV_form {w : World} {base n : Nat} {e : TypeId} {k : Nat} {v : Value} {xs : List Value} (h : w.ownsRow base e k v n xs) : ∃ A c, v = .slice A n c ∧ n ≤ c ∧ c ≤ maxLen ∧ (A = none → c = 0) := by
  rcases h.2 with ⟨h, h0⟩ | ⟨g, cap, cur, h, _, _, h1, h2, _⟩
  · exact ⟨none, 0, by rw [h, h0], by omega, Nat.zero_le _, fun _ => rfl⟩
  · exact ⟨_, _, h, h1, h2, fun e => by cases e⟩
theorem slice_one (A : Option Addr) (n c : Nat) : (Value.slice A n c).oneCell' = true := rfl
/-- The i-th value of a row. -/
theorem rowV_at {w : World} {base : Nat} {e : TypeId} {v : Value} {xs : List Value} (h : w.ownsRow base e 1 v xs.length xs) {i : Nat} (hi : i < xs.length) : ∃ g c, v = .slice (some ⟨g, 0, none⟩) xs.length c ∧ g < w.heap.size ∧ w.cell? ⟨g, i, none⟩ = xs[i]? := by
  rcases h.2 with ⟨_, h0⟩ | ⟨g, cap, cur, e1, _, hg, hnc, _, hs, ht⟩
  · omega
  · refine ⟨g, cap, e1, (Array.getElem?_eq_some_iff.1 hg).1, ?_⟩
    rw [e1] at h
    exact World.ownsRow.cellAt h i (by omega)
/-- The type of the j-th list's values. -/
def eT (j : Nat) : TypeId := if j < 2 then 31 else 30
/-- The blocks of the four lists, and theirs who holds them. -/
def Spine (gb : Nat) (v : Nat → Value) (B : Nat) : Prop := B = gb ∨ ∃ j, j < 4 ∧ (v j).ownBlock = some B
structure Heads (w : World) (gb base : Nat) (v : Nat → Value) (x : Nat → List Value) : Prop where
  blk : BlkIs w gb 61 #[v 0, v 1, v 2, v 3]
  row : ∀ j, j < 4 → w.ownsRow base (eT j) 1 (v j) (x j).length (x j)
  ap : ∀ i j, i < 4 → j < 4 → i ≠ j → Apart (v i) (v j)
  ne : ∀ j, j < 4 → (v j).ownBlock ≠ some gb
  ge : base ≤ gb
section
variable {w w' w1 : World} {gb base : Nat} {v : Nat → Value} {x : Nat → List Value} {U : Nat → Prop}
theorem Heads.lt (h : Heads w gb base v x) {B : Nat} (hB : Spine gb v B) : base ≤ B ∧ B < w.heap.size := by
  rcases hB with rfl | ⟨j, hj, hB⟩
  · exact ⟨h.ge, h.blk.lt⟩
  · exact (h.row j hj).lt B hB
theorem Heads.touch (h : Heads w gb base v x) (ht : Touch U w w') (hd : ∀ B, Spine gb v B → ¬ U B) : Heads w' gb base v x :=
  ⟨ht.blk h.blk (hd gb (.inl rfl)), fun j hj => ht.row (h.row j hj) fun k hk => hd k (.inr ⟨j, hj, hk⟩), h.ap, h.ne, h.ge⟩
theorem Heads.below (h : Heads w gb base v x) (hb : Below w.heap.size w w') : Heads w' gb base v x := h.touch (U := fun _ => False) (Touch.ofBelow hb) fun _ _ h => h
theorem Heads.at_ (h : Heads w gb base v x) : (w.cell? ⟨gb, 0, none⟩ = some (v 0) ∧ w.cell? ⟨gb, 1, none⟩ = some (v 1) ∧ w.cell? ⟨gb, 2, none⟩ = some (v 2) ∧ w.cell? ⟨gb, 3, none⟩ = some (v 3)) ∧ ∀ i, w.frozen? ⟨gb, i, none⟩ = false :=
  ⟨⟨h.blk.cell 0, h.blk.cell 1, h.blk.cell 2, h.blk.cell 3⟩, h.blk.frozen⟩
theorem upd_cells (v : Nat → Value) (j : Nat) (hj : j < 4) (u : Value) : (#[v 0, v 1, v 2, v 3] : Array Value).setIfInBounds j u = #[upd v j u 0, upd v j u 1, upd v j u 2, upd v j u 3] := by
  have h4 : j = 0 ∨ j = 1 ∨ j = 2 ∨ j = 3 := by omega
  rcases h4 with rfl | rfl | rfl | rfl <;> rfl
theorem Heads.mid (h : Heads w gb base v x) {j : Nat} (hj : j < 4) (hg : w.grownBy w1 (v j).ownBlock) : BlkIs w1 gb 61 #[v 0, v 1, v 2, v 3] := (Touch.grown hg).blk h.blk fun e => h.ne j hj e.symm
/-- One of the lists is longer. -/
theorem Heads.step (h : Heads w gb base v x) {j : Nat} (hj : j < 4) {v' : Value} {xs : List Value} (hg : w.grownBy w1 (v j).ownBlock) (hr : w1.ownsRow base (eT j) 1 v' xs.length xs) (hl : Lies w (v j) v') :
    Heads (w1.setCell ⟨gb, j, none⟩ v') gb base (upd v j v') (upd x j xs) ∧ Touch (Spine gb v) w (w1.setCell ⟨gb, j, none⟩ v') ∧ (∀ B, Spine gb (upd v j v') B → Spine gb v B ∨ w.heap.size ≤ B) := by
  have ht := Touch.grown hg
  have hs := Touch.grown (grown_setCell w1 (g := gb) j v')
  have hgb := h.blk.lt
  have hne : v'.ownBlock ≠ some gb := fun e => by
    rcases hl gb e with k | k
    · exact h.ne j hj k
    · omega
  have hv : ∀ i, i < 4 → i ≠ j → (w1.setCell ⟨gb, j, none⟩ v').ownsRow base (eT i) 1 (v i) (x i).length (x i) := fun i hi hij =>
    hs.row (ht.row (h.row i hi) fun k hk e => h.ap i j hi hj hij k hk e.symm) fun k hk e => h.ne i hi (by rw [hk]; exact e)
  refine ⟨⟨?_, fun i hi => ?_, fun i k hi hk hik => ?_, fun i hi => ?_, h.ge⟩, ?_, fun B hB => ?_⟩
  · rw [← upd_cells v j hj v']
    exact (ht.blk h.blk fun e => h.ne j hj e.symm).stored j v'
  · by_cases e : i = j
    · subst e
      rw [upd_same, upd_same]
      exact hs.row hr fun k hk e => hne (by rw [hk]; exact e)
    · rw [upd_other _ _ e, upd_other _ _ e]
      exact hv i hi e
  · by_cases e1 : i = j
    · subst e1
      rw [upd_same, upd_other _ _ (Ne.symm hik)]
      exact apart_step (h.ap i k hi hk hik) hl fun q hq => ((h.row k hk).lt q hq).2
    · by_cases e2 : k = j
      · subst e2
        rw [upd_same, upd_other _ _ e1]
        exact (apart_step (h.ap k i hk hi (Ne.symm hik)) hl fun q hq => ((h.row i hi).lt q hq).2).symm'
      · rw [upd_other _ _ e1, upd_other _ _ e2]
        exact h.ap i k hi hk hik
  · by_cases e : i = j
    · subst e
      rw [upd_same]
      exact hne
    · rw [upd_other _ _ e]
      exact h.ne i hi
  · exact (ht.mono fun k _ hk => .inr ⟨j, hj, hk.symm⟩).trans (hs.mono fun k _ hk => by injection hk with hk; exact .inl hk)
  · rcases hB with rfl | ⟨i, hi, hB⟩
    · exact .inl (.inl rfl)
    · by_cases e : i = j
      · subst e
        rw [upd_same] at hB
        rcases hl B hB with k | k
        · exact .inl (.inr ⟨i, hi, k⟩)
        · exact .inr k
      · rw [upd_other _ _ e] at hB
        exact .inl (.inr ⟨i, hi, hB⟩)
end
/-- It hangs on the blocks R alone. -/
def Dep (R : Nat → Prop) (w : World) (P : World → Prop) : Prop := ∀ w', w.heap.size ≤ w'.heap.size → (∀ k, R k → w'.heap[k]? = w.heap[k]?) → P w'
section
variable {w w' : World} {R R' U : Nat → Prop} {P Q : World → Prop}
theorem Dep.now (h : Dep R w P) : P w := h w (Nat.le_refl _) fun _ _ => rfl
theorem Dep.mono (h : Dep R w P) (hr : ∀ k, R k → R' k) : Dep R' w P := fun w' hs hk => h w' hs fun k hr' => hk k (hr k hr')
theorem Dep.imp (h : Dep R w P) (hp : ∀ w, P w → Q w) : Dep R w Q := fun w' hs hk => hp w' (h w' hs hk)
theorem Dep.and (h : Dep R w P) (k : Dep R w Q) : Dep R w fun w => P w ∧ Q w := fun w' hs hk => ⟨h w' hs hk, k w' hs hk⟩
theorem Dep.same (h : Dep R w P) (hs : w.heap.size ≤ w'.heap.size) (hk : ∀ k, R k → w'.heap[k]? = w.heap[k]?) : Dep R w' P := fun w'' hs' hk' => h w'' (Nat.le_trans hs hs') fun k hr => (hk' k hr).trans (hk k hr)
theorem Dep.row {base : Nat} {e : TypeId} {size n : Nat} {v : Value} {xs : List Value} (h : w.ownsRow base e size v n xs) (hr : ∀ B, v.ownBlock = some B → R B) : Dep R w fun w => w.ownsRow base e size v n xs := fun w' _ hk => by
  refine ⟨h.1, ?_⟩
  rcases h.2 with h1 | ⟨g, cap, cur, e1, h1, h2, h3⟩
  · exact .inl h1
  · exact .inr ⟨g, cap, cur, e1, h1, (hk g (hr g (by rw [e1]; rfl))).trans h2, h3⟩
end
/-- v reads the bytes xs. -/
def RbV (w : World) (v : Value) (xs : List Nat) : Prop := ∃ A c, v = .slice A xs.length c ∧ RB w A xs.length xs
/-- v reads the changes X. -/
def ChsV (w : World) (v : Value) (n : Nat) (X : Nat → Chg) : Prop := ∃ A c, v = .slice A n c ∧ ChsAt w A n X
theorem own_rbv {w : World} {base : Nat} {v : Value} {xs : List Nat} (h : OwnU w base v xs) : RbV w v xs := by
  obtain ⟨A, c, e, hr, _⟩ := h.form
  exact ⟨A, c, e, hr⟩
theorem Dep.rbv {w : World} {R : Nat → Prop} {base : Nat} {v : Value} {xs : List Nat} (h : OwnU w base v xs) (hr : ∀ B, v.ownBlock = some B → R B) : Dep R w fun w => RbV w v xs := (Dep.row h.1 hr).imp fun _ h1 => own_rbv ⟨h1, h.2⟩
/-- A list of changes that is a call's own reads as it does on its own blocks alone. -/
theorem ChsAll.dep {w : World} {R : Nat → Prop} {base n : Nat} {v : Value} {X : Nat → Chg} {Ad : Nat → Option Addr} {Cp : Nat → Nat} (h : ChsAll w base v n X Ad Cp) (hr : ∀ B, base ≤ B → B < w.heap.size → R B) : Dep R w fun w => ChsV w v n X := fun w' hs hk => by
  have hrow := (Dep.row h.own.own (fun B hB => hr B (h.own.own.lt B hB).1 (h.own.own.lt B hB).2)) w' hs hk
  have hown : ChsOwn w' base v n X Ad Cp := { h.own with
    own := hrow
    val := fun i hi => by
      have h1 := h.val hi
      have h2 := (Dep.row h1.1 (fun B hB => hr B (h1.lt B hB).1 (h1.lt B hB).2)) w' hs hk
      exact ⟨(show OwnU w' base _ _ from ⟨h2, h1.2⟩).reads, (h.own.val i hi).2⟩ }
  obtain ⟨A, C, e, hc, _⟩ := hown.form
  exact ⟨A, C, e, hc⟩
/-- The four lists' contents. -/
def xsK (KL : List Ob) (KW : List Value) (LL : List Ob) (LW : List Value) : Nat → List Value := fun j => if j = 0 then KL.map Ob.v else if j = 1 then KW else if j = 2 then LL.map Ob.v else if j = 3 then LW else []
theorem xsK_0 {KL LL : List Ob} {KW LW : List Value} {u : Ob} : upd (xsK KL KW LL LW) 0 (KL.map Ob.v ++ [u.v]) = xsK (KL ++ [u]) KW LL LW := by
  funext j
  by_cases e : j = 0
  · subst e; rw [upd_same]; simp [xsK]
  · rw [upd_other _ _ e]; simp [xsK, e]
theorem xsK_1 {KL LL : List Ob} {KW LW : List Value} {u : Value} : upd (xsK KL KW LL LW) 1 (KW ++ [u]) = xsK KL (KW ++ [u]) LL LW := by
  funext j
  by_cases e : j = 1
  · subst e; rw [upd_same]; simp [xsK]
  · rw [upd_other _ _ e]; simp [xsK, e]
theorem xsK_2 {KL LL : List Ob} {KW LW : List Value} {u : Ob} : upd (xsK KL KW LL LW) 2 (LL.map Ob.v ++ [u.v]) = xsK KL KW (LL ++ [u]) LW := by
  funext j
  by_cases e : j = 2
  · subst e; rw [upd_same]; simp [xsK]
  · rw [upd_other _ _ e]; simp [xsK, e]
theorem xsK_3 {KL LL : List Ob} {KW LW : List Value} {u : Value} : upd (xsK KL KW LL LW) 3 (LW ++ [u]) = xsK KL KW LL (LW ++ [u]) := by
  funext j
  by_cases e : j = 3
  · subst e; rw [upd_same]; simp [xsK]
  · rw [upd_other _ _ e]; simp [xsK, e]
/-- What is in the four lists, and what is still to come: all objects apart; the list and its copy tell one and the same; E is some other fact. -/
structure PhI (w0 w : World) (gb : Nat) (v : Nat → Value) (KW LW : List Value) (R : Nat → Prop) (KL LL pd : List Ob) (E : World → Prop) : Prop where
  heads : Heads w gb w0.heap.size v (xsK KL KW LL LW)
  objs : Obs w w0.heap.size (KL ++ LL ++ pd)
  inR : ∀ o, o ∈ KL ++ LL ++ pd → ∀ B, o.v.ownBlock = some B → R B
  rlt : ∀ B, R B → B < w.heap.size
  sp : ∀ B, Spine gb v B → ¬ R B
  lenB : KW.length = KL.length
  lenC : LW.length = LL.length
  eqB : ∀ (i : Nat) (o : Ob) (u : Value), KL[i]? = some o → KW[i]? = some u → ∃ xs, IsB xs ∧ o = byO o.v xs ∧ xs.length ≤ 1073741824 ∧ Dep R w fun w => RbV w o.v xs ∧ RbV w u xs
  eqC : ∀ (i : Nat) (o : Ob) (u : Value), LL[i]? = some o → LW[i]? = some u → ∃ X, o = roO o.v o.n o.cs ∧ o.n ≤ 67108864 ∧ Dep R w fun w => ChsV w o.v o.n X ∧ ChsV w u o.n X
  dep : Dep R w E
  bel : Below w0.heap.size w0 w
def Ph (w0 w : World) (gb : Nat) (KL LL pd : List Ob) (E : World → Prop) : Prop := ∃ v KW LW R, PhI w0 w gb v KW LW R KL LL pd E
section
variable {w0 w w' w1 w2 w3 : World} {gb : Nat} {v : Nat → Value} {KW LW : List Value} {R : Nat → Prop} {KL LL pd pd' : List Ob} {E E' : World → Prop}
theorem PhI.below (h : PhI w0 w gb v KW LW R KL LL pd E) (hb : Below w.heap.size w w') : PhI w0 w' gb v KW LW R KL LL pd E :=
  have hk : ∀ k, R k → w'.heap[k]? = w.heap[k]? := fun k hk => hb.block k (h.rlt k hk)
  { h with
    heads := h.heads.below hb
    objs := h.objs.below hb
    rlt := fun B hB => Nat.lt_of_lt_of_le (h.rlt B hB) hb.size
    eqB := fun i o u ho hu => by
      obtain ⟨xs, h1, h2, h3, h4⟩ := h.eqB i o u ho hu
      exact ⟨xs, h1, h2, h3, h4.same hb.size hk⟩
    eqC := fun i o u ho hu => by
      obtain ⟨X, h1, h2, h3⟩ := h.eqC i o u ho hu
      exact ⟨X, h1, h2, h3.same hb.size hk⟩
    dep := h.dep.same hb.size hk
    bel := h.bel.trans (hb.mono h.bel.size) }
/-- New objects, and another fact that hangs on new memory alone. -/
theorem PhI.grow {new : List Ob} (h : PhI w0 w gb v KW LW R KL LL pd E) (hb : Below w.heap.size w w') (ho : Obs w' w.heap.size new) (hE : Dep (fun B => w.heap.size ≤ B ∧ B < w'.heap.size) w' E') :
    PhI w0 w' gb v KW LW (fun B => R B ∨ w.heap.size ≤ B ∧ B < w'.heap.size) KL LL (pd ++ new) fun w => E w ∧ E' w := by
  have h1 := h.below hb
  have hm : ∀ B, R B → R B ∨ w.heap.size ≤ B ∧ B < w'.heap.size := fun B hB => .inl hB
  refine { heads := h1.heads, objs := ?_, inR := fun o ho' B hB => ?_, rlt := fun B hB => ?_, sp := fun B hB hR => ?_, lenB := h1.lenB, lenC := h1.lenC, eqB := fun i o u ho hu => ?_, eqC := fun i o u ho hu => ?_, dep := (h1.dep.mono hm).and (hE.mono fun B hB => .inr hB), bel := h1.bel }
  · rw [← List.append_assoc]
    exact h.objs.join hb ho h.bel.size
  · rw [← List.append_assoc] at ho'
    rcases List.mem_append.1 ho' with ho' | ho'
    · exact .inl (h.inR o ho' B hB)
    · exact .inr (ho.lt ho' hB)
  · rcases hB with hB | hB
    · exact h1.rlt B hB
    · exact hB.2
  · rcases hR with hR | hR
    · exact h.sp B hB hR
    · have := (h.heads.lt hB).2
      omega
  · obtain ⟨xs, a1, a2, a3, a4⟩ := h1.eqB i o u ho hu
    exact ⟨xs, a1, a2, a3, a4.mono hm⟩
  · obtain ⟨X, a1, a2, a3⟩ := h1.eqC i o u ho hu
    exact ⟨X, a1, a2, a3.mono hm⟩
theorem PhI.perm (h : PhI w0 w gb v KW LW R KL LL pd E) (hp : pd.Perm pd') : PhI w0 w gb v KW LW R KL LL pd' E :=
  { h with objs := h.objs.perm (hp.append_left _), inR := fun o ho => h.inR o ((hp.append_left _).symm.subset ho) }
theorem PhI.imp (h : PhI w0 w gb v KW LW R KL LL pd E) (k : ∀ w, E w → E' w) : PhI w0 w gb v KW LW R KL LL pd E' := { h with dep := h.dep.imp k }
theorem Ph.below (h : Ph w0 w gb KL LL pd E) (hb : Below w.heap.size w w') : Ph w0 w' gb KL LL pd E := by
  obtain ⟨v, KW, LW, R, h⟩ := h
  exact ⟨v, KW, LW, R, h.below hb⟩
theorem Ph.grow {new : List Ob} (h : Ph w0 w gb KL LL pd E) (hb : Below w.heap.size w w') (ho : Obs w' w.heap.size new) (hE : Dep (fun B => w.heap.size ≤ B ∧ B < w'.heap.size) w' E') : Ph w0 w' gb KL LL (pd ++ new) fun w => E w ∧ E' w := by
  obtain ⟨v, KW, LW, R, h⟩ := h
  exact ⟨v, KW, LW, _, h.grow hb ho hE⟩
theorem Ph.perm (h : Ph w0 w gb KL LL pd E) (hp : pd.Perm pd') : Ph w0 w gb KL LL pd' E := by
  obtain ⟨v, KW, LW, R, h⟩ := h
  exact ⟨v, KW, LW, R, h.perm hp⟩
theorem Ph.imp (h : Ph w0 w gb KL LL pd E) (k : ∀ w, E w → E' w) : Ph w0 w gb KL LL pd E' := by
  obtain ⟨v, KW, LW, R, h⟩ := h
  exact ⟨v, KW, LW, R, h.imp k⟩
theorem Ph.now (h : Ph w0 w gb KL LL pd E) : E w := by
  obtain ⟨v, KW, LW, R, h⟩ := h
  exact h.dep.now
theorem Ph.bel (h : Ph w0 w gb KL LL pd E) : Below w0.heap.size w0 w := by
  obtain ⟨v, KW, LW, R, h⟩ := h
  exact h.bel
theorem Ph.objs (h : Ph w0 w gb KL LL pd E) : Obs w w0.heap.size (KL ++ LL ++ pd) := by
  obtain ⟨v, KW, LW, R, h⟩ := h
  exact h.objs
theorem Ph.own (h : Ph w0 w gb KL LL pd E) {o : Ob} (ho : o ∈ pd) : o.In w w0.heap.size := by
  obtain ⟨v, KW, LW, R, h⟩ := h
  exact h.objs.own o (List.mem_append_right _ ho)
theorem getElem?_snoc {α : Type} {l : List α} {a b : α} {i : Nat} (h : (l ++ [a])[i]? = some b) : l[i]? = some b ∨ i = l.length ∧ b = a := by
  by_cases hi : i < l.length
  · rw [List.getElem?_append_left hi] at h
    exact .inl h
  · rw [List.getElem?_append_right (by omega)] at h
    have hz : i - l.length = 0 := by
      have := (List.getElem?_eq_some_iff.1 h).1
      simpa using this
    rw [hz] at h
    exact .inr ⟨by omega, by simpa using h.symm⟩
/-- One list of bytes has come into the book. -/
theorem PhI.addB {u v0' v1' u2 : Value} {xs : List Nat} (h : PhI w0 w gb v KW LW R KL LL (byO u xs :: pd) E) (hB : IsB xs) (hn : xs.length ≤ 1073741824)
    (hH1 : Heads w1 gb w0.heap.size (upd v 0 v0') (xsK (KL ++ [byO u xs]) KW LL LW)) (ht1 : Touch (Spine gb v) w w1) (hs1 : ∀ B, Spine gb (upd v 0 v0') B → Spine gb v B ∨ w.heap.size ≤ B)
    (hb2 : Below w1.heap.size w1 w2) (hc : OwnU w2 w1.heap.size u2 xs)
    (hH3 : Heads w3 gb w0.heap.size (upd (upd v 0 v0') 1 v1') (xsK (KL ++ [byO u xs]) (KW ++ [u2]) LL LW)) (ht3 : Touch (Spine gb (upd v 0 v0')) w2 w3) (hs3 : ∀ B, Spine gb (upd (upd v 0 v0') 1 v1') B → Spine gb (upd v 0 v0') B ∨ w2.heap.size ≤ B) :
    PhI w0 w3 gb (upd (upd v 0 v0') 1 v1') (KW ++ [u2]) LW (fun B => R B ∨ w1.heap.size ≤ B ∧ B < w2.heap.size) (KL ++ [byO u xs]) LL pd E := by
  have z1 := ht1.size
  have z2 := hb2.size
  have z3 := ht3.size
  have hRs : ∀ k, R k → ¬ Spine gb (upd v 0 v0') k := fun k hk hs => by
    rcases hs1 k hs with a | a
    · exact h.sp k a hk
    · have := h.rlt k hk; omega
  have hR : ∀ k, R k → w3.heap[k]? = w.heap[k]? := fun k hk => by
    have hlt := h.rlt k hk
    exact (ht3.block k (by omega) (hRs k hk)).trans ((hb2.block k (by omega)).trans (ht1.block k hlt fun hs => h.sp k hs hk))
  have hN : ∀ k, w1.heap.size ≤ k → k < w2.heap.size → w3.heap[k]? = w2.heap[k]? := fun k h1 h2 => ht3.block k h2 fun hs => by have := (hH1.lt hs).2; omega
  have hm : ∀ B, R B → R B ∨ w1.heap.size ≤ B ∧ B < w2.heap.size := fun B hB => .inl hB
  have hp : ((KL ++ LL) ++ byO u xs :: pd).Perm (((KL ++ [byO u xs]) ++ LL) ++ pd) := by
    have e1 : ((KL ++ [byO u xs]) ++ LL) ++ pd = KL ++ (byO u xs :: (LL ++ pd)) := by simp
    have e2 : (KL ++ LL) ++ byO u xs :: pd = KL ++ (LL ++ byO u xs :: pd) := by simp
    rw [e1, e2]
    exact List.Perm.append_left _ List.perm_middle
  have hou : OwnU w w0.heap.size u xs := ⟨h.objs.own (byO u xs) (List.mem_append_right _ List.mem_cons_self), hB⟩
  have hzw : w.heap.size ≤ w3.heap.size := by omega
  refine { heads := hH3, objs := ?_, inR := fun o ho B hB => .inl (h.inR o (hp.symm.subset ho) B hB), rlt := fun B hB => ?_, sp := fun B hB hR' => ?_, lenB := by simp [h.lenB], lenC := h.lenC, eqB := fun i o y ho hy => ?_, eqC := fun i o y ho hy => ?_, dep := (h.dep.same hzw hR).mono hm, bel := ?_ }
  · have hobs : Obs w3 w0.heap.size ((KL ++ LL) ++ byO u xs :: pd) := ⟨fun o ho => (Dep.row (h.objs.own o ho) (h.inR o ho)) w3 hzw hR, h.objs.dis⟩
    exact hobs.perm hp
  · rcases hB with hB | hB
    · have := h.rlt B hB; omega
    · omega
  · rcases hs3 B hB with a | a
    · rcases hR' with b | b
      · exact hRs B b a
      · have := (hH1.lt a).2; omega
    · rcases hR' with b | b
      · have := h.rlt B b; omega
      · omega
  · rcases getElem?_snoc ho with ho | ⟨e1, e2⟩
    · rcases getElem?_snoc hy with hy | ⟨e3, _⟩
      · obtain ⟨ys, a1, a2, a3, a4⟩ := h.eqB i o y ho hy
        exact ⟨ys, a1, a2, a3, (a4.same hzw hR).mono hm⟩
      · have := (List.getElem?_eq_some_iff.1 ho).1
        have := h.lenB
        omega
    · rcases getElem?_snoc hy with hy | ⟨_, e4⟩
      · have := (List.getElem?_eq_some_iff.1 hy).1
        have := h.lenB
        omega
      · subst e2 e4
        have d1 : Dep R w fun w => RbV w u xs := Dep.rbv hou (h.inR (byO u xs) (List.mem_append_right _ List.mem_cons_self))
        have d2 : Dep (fun B => w1.heap.size ≤ B ∧ B < w2.heap.size) w2 fun w => RbV w y xs := Dep.rbv hc fun B hB => hc.lt B hB
        exact ⟨xs, hB, rfl, hn, ((d1.same hzw hR).mono hm).and ((d2.same z3 fun k hk => hN k hk.1 hk.2).mono fun B hB => .inr hB)⟩
  · obtain ⟨X, a1, a2, a3⟩ := h.eqC i o y ho hy
    exact ⟨X, a1, a2, (a3.same hzw hR).mono hm⟩
  · exact ht3.toBelow ((ht1.toBelow h.bel h.bel.size fun k hk => (h.heads.lt hk).1).trans (hb2.mono (Nat.le_trans h.bel.size z1))) (Nat.le_trans h.bel.size (Nat.le_trans z1 z2)) fun k hk => (hH1.lt hk).1
/-- One list of changes has come into the book. -/
theorem PhI.addC {u v2' v3' u2 : Value} {n : Nat} {cs : List Value} {X : Nat → Chg} (h : PhI w0 w gb v KW LW R KL LL (roO u n cs :: pd) E) (hn : n ≤ 67108864) (hX : Dep R w fun w => ChsV w u n X)
    (hH1 : Heads w1 gb w0.heap.size (upd v 2 v2') (xsK KL KW (LL ++ [roO u n cs]) LW)) (ht1 : Touch (Spine gb v) w w1) (hs1 : ∀ B, Spine gb (upd v 2 v2') B → Spine gb v B ∨ w.heap.size ≤ B)
    (hb2 : Below w1.heap.size w1 w2) {Ad : Nat → Option Addr} {Cp : Nat → Nat} (hc : ChsAll w2 w1.heap.size u2 n X Ad Cp)
    (hH3 : Heads w3 gb w0.heap.size (upd (upd v 2 v2') 3 v3') (xsK KL KW (LL ++ [roO u n cs]) (LW ++ [u2]))) (ht3 : Touch (Spine gb (upd v 2 v2')) w2 w3) (hs3 : ∀ B, Spine gb (upd (upd v 2 v2') 3 v3') B → Spine gb (upd v 2 v2') B ∨ w2.heap.size ≤ B) :
    PhI w0 w3 gb (upd (upd v 2 v2') 3 v3') KW (LW ++ [u2]) (fun B => R B ∨ w1.heap.size ≤ B ∧ B < w2.heap.size) KL (LL ++ [roO u n cs]) pd E := by
  have z1 := ht1.size
  have z2 := hb2.size
  have z3 := ht3.size
  have hRs : ∀ k, R k → ¬ Spine gb (upd v 2 v2') k := fun k hk hs => by
    rcases hs1 k hs with a | a
    · exact h.sp k a hk
    · have := h.rlt k hk; omega
  have hR : ∀ k, R k → w3.heap[k]? = w.heap[k]? := fun k hk => by
    have hlt := h.rlt k hk
    exact (ht3.block k (by omega) (hRs k hk)).trans ((hb2.block k (by omega)).trans (ht1.block k hlt fun hs => h.sp k hs hk))
  have hN : ∀ k, w1.heap.size ≤ k → k < w2.heap.size → w3.heap[k]? = w2.heap[k]? := fun k h1 h2 => ht3.block k h2 fun hs => by have := (hH1.lt hs).2; omega
  have hm : ∀ B, R B → R B ∨ w1.heap.size ≤ B ∧ B < w2.heap.size := fun B hB => .inl hB
  have hp : ((KL ++ LL) ++ roO u n cs :: pd).Perm ((KL ++ (LL ++ [roO u n cs])) ++ pd) := by simp
  have hzw : w.heap.size ≤ w3.heap.size := by omega
  refine { heads := hH3, objs := ?_, inR := fun o ho B hB => .inl (h.inR o (hp.symm.subset ho) B hB), rlt := fun B hB => ?_, sp := fun B hB hR' => ?_, lenB := h.lenB, lenC := by simp [h.lenC], eqB := fun i o y ho hy => ?_, eqC := fun i o y ho hy => ?_, dep := (h.dep.same hzw hR).mono hm, bel := ?_ }
  · have hobs : Obs w3 w0.heap.size ((KL ++ LL) ++ roO u n cs :: pd) := ⟨fun o ho => (Dep.row (h.objs.own o ho) (h.inR o ho)) w3 hzw hR, h.objs.dis⟩
    exact hobs.perm hp
  · rcases hB with hB | hB
    · have := h.rlt B hB; omega
    · omega
  · rcases hs3 B hB with a | a
    · rcases hR' with b | b
      · exact hRs B b a
      · have := (hH1.lt a).2; omega
    · rcases hR' with b | b
      · have := h.rlt B b; omega
      · omega
  · obtain ⟨xs, a1, a2, a3, a4⟩ := h.eqB i o y ho hy
    exact ⟨xs, a1, a2, a3, (a4.same hzw hR).mono hm⟩
  · rcases getElem?_snoc ho with ho | ⟨e1, e2⟩
    · rcases getElem?_snoc hy with hy | ⟨e3, _⟩
      · obtain ⟨Y, a1, a2, a3⟩ := h.eqC i o y ho hy
        exact ⟨Y, a1, a2, (a3.same hzw hR).mono hm⟩
      · have := (List.getElem?_eq_some_iff.1 ho).1
        have := h.lenC
        omega
    · rcases getElem?_snoc hy with hy | ⟨_, e4⟩
      · have := (List.getElem?_eq_some_iff.1 hy).1
        have := h.lenC
        omega
      · subst e2 e4
        have d2 : Dep (fun B => w1.heap.size ≤ B ∧ B < w2.heap.size) w2 fun w => ChsV w y n X := ChsAll.dep hc fun B h1 h2 => ⟨h1, h2⟩
        exact ⟨X, rfl, hn, ((hX.same hzw hR).mono hm).and ((d2.same z3 fun k hk => hN k hk.1 hk.2).mono fun B hB => .inr hB)⟩
  · exact ht3.toBelow ((ht1.toBelow h.bel h.bel.size fun k hk => (h.heads.lt hk).1).trans (hb2.mono (Nat.le_trans h.bel.size z1))) (Nat.le_trans h.bel.size (Nat.le_trans z1 z2)) fun k hk => (hH1.lt hk).1
end
end Go.Proofs.Ytkpbeibcfaenhaa
