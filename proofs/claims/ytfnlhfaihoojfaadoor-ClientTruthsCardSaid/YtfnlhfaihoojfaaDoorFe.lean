/- Norm, Ent, OpenChs (merged) -/
import Derived.Test.YtfnlhfaihoojfaaDoorFd
import Derived.Test.YtfnlhfaihoojfaaDoorFa
import Derived.Test.YtfnlhfaihoojfaaDoorKeys
/- batch.own, Normal; ledgerref3.Normal. -/
namespace Go.Proofs.YtfnlhfaihoojfaaDoor
open Go.RowKit
def NormOK (X : Nat → Chg) (N : Nat) (Z : Nat → Chg) : Prop := Sorted (lst Z N) ∧ (lst Z N).Perm ((lst X N).map plainC)
def NormPost (X : Nat → Chg) (N : Nat) (w : World) (e : Ending) (w' : World) : Prop :=
  ∃ v, e = .returned (.tuple #[v, .int .i64 (wrongN X N 4096 : Nat)]) ∧ Below w.heap.size w w' ∧ (wrongN X N 4096 = 0 → ∃ Z Ad Cp, ChsOwn w' w.heap.size v N Z Ad Cp ∧ NormOK X N Z) ∧ (wrongN X N 4096 ≠ 0 → v = .slice none 0 0)
theorem wrong_zero {X : Nat → Chg} {n m : Nat} (h : wrongN X n m = 0) : heldN X n m = 0 ∧ repN X n < 0 := by
  unfold wrongN at h
  split at h
  · split at h
    · omega
    · exact ⟨by assumption, by omega⟩
  · exact absurd h (by assumption)
set_option maxHeartbeats 1000000 in
theorem refnormal_any (A : Option Addr) (N c : Nat) (X : Nat → Chg) (w : World) (hx : ChsAt w A N X) (hc : N ≤ c) (hn : N * 64 ≤ 140737488355328) (hv : ∀ k, k < N → (X k).val.length ≤ 140737488355328) :
    Calls Tryd.prog 24 #[.slice A N c] w (NormPost X N w) := by
  have HW := Lib.hid (wrong_any A N c 4096 X w hx hc (by omega) hn hv)
  have HS := Lib.hid (fun W (hW : Below w.heap.size w W) => sorted_any N A c X W (hx.below hW) hc hn hv)
  clear hx hv
  have HD : Hid (∀ v w', (wrongN X N 4096 = 0 → ∃ Z Ad Cp, ChsOwn w' w.heap.size v N Z Ad Cp ∧ NormOK X N Z) → (wrongN X N 4096 ≠ 0 → v = .slice none 0 0) → Below w.heap.size w w' → NormPost X N w (.returned (.tuple #[v, .int .i64 (wrongN X N 4096 : Nat)])) w') := fun v w' h1 h2 h3 => ⟨v, rfl, h3, h1, h2⟩
  generalize NormPost X N w = R at *
  go_enter Tryd.func24, Tryd.ntmps24
  go_wp2_with fail
  refine HW.out.mono ?_
  rintro e w1 ⟨rfl, hb1⟩
  have HB1 := Lib.hid hb1
  clear hb1
  by_cases h0 : wrongN X N 4096 = 0
  · have HL := Lib.hid (HS.out w1 HB1.out)
    rw [h0] at HD ⊢
    clear h0
    go_wp2_with fail
    refine HL.out.mono ?_
    rintro e w2 ⟨Z, ⟨v2, Ad, Cp, rfl, ho2, hb2⟩, hs2, hp2⟩
    have HB2 := Lib.hid (HB1.out.trans (hb2.mono HB1.out.size))
    have HO2 := Lib.hid (show ∃ Z Ad Cp, ChsOwn w2 w.heap.size v2 N Z Ad Cp ∧ NormOK X N Z from ⟨Z, Ad, Cp, ho2.mono HB1.out.size, hs2, hp2⟩)
    clear ho2 hb2 hs2 hp2
    go_wp2_with fail
    exact HD.out _ _ (fun _ => HO2.out) (fun h => absurd rfl h) HB2.out
  · obtain ⟨z, hz⟩ : ∃ z, z = wrongN X N 4096 := ⟨_, rfl⟩
    rw [← hz] at HD h0 ⊢
    have h1 : (z : Int) ≠ 0 := by omega
    have h2 : (((z : Nat) : Int) != 0) = true := by rw [bne_iff_ne]; exact h1
    clear hz
    go_wp2_with fail
    exact HD.out _ _ (fun h => absurd h h0) (fun _ => rfl) HB1.out
end Go.Proofs.YtfnlhfaihoojfaaDoor

/- Lists of entries that a call has made. (printed by gen_ent.py after XChOwn) -/
namespace Go.Proofs.YtfnlhfaihoojfaaDoor
open Go.RowKit
/-- The cells of an entry whose value lies at A. -/
def enC (x : Chg) (A : Option Addr) (C : Nat) : List Value := bvs x.key ++ [.slice A x.val.length C]
def EntsAt (w : World) (P : Option Addr) (N : Nat) (X : Nat → Chg) : Prop :=
  N ≤ maxLen ∧ ∀ k, k < N → ∃ b o A C, P = some ⟨b, o, none⟩ ∧ b < w.heap.size ∧ w.rangeAt b (o + k * 33) (enC (X k) A C) ∧ IsB (X k).key ∧ (X k).key.length = 32 ∧
    RB w A (X k).val.length (X k).val ∧ (X k).val.length ≤ C ∧ C ≤ maxLen ∧ (A = none → C = 0)
theorem EntsAt.below {w w' : World} {P : Option Addr} {N : Nat} {X : Nat → Chg} (h : EntsAt w P N X) (hb : Below w.heap.size w w') : EntsAt w' P N X := ⟨h.1, fun k hk => by
  obtain ⟨b, o, A, C, h1, h2, h3, h4, h5, h6, h7⟩ := h.2 k hk
  exact ⟨b, o, A, C, h1, Nat.lt_of_lt_of_le h2 hb.size, range_below hb h2 h3, h4, h5, h6.below hb, h7⟩⟩
section
variable {w w' : World} {b O : Nat} {x : Chg} {A : Option Addr} {C : Nat}
theorem enC_length (h : x.key.length = 32) : (enC x A C).length = 33 := by simp [enC, bvs, h]
theorem en_key (h : w.rangeAt b O (enC x A C)) : w.rangeAt b O (bvs x.key) := fun j v hj => h j v (by
  unfold enC
  rw [List.getElem?_append_left (List.getElem?_eq_some_iff.1 hj).1]
  exact hj)
theorem en_val (h : w.rangeAt b O (enC x A C)) (hl : x.key.length = 32) : w.cell? ⟨b, O + 32, none⟩ = some (.slice A x.val.length C) := h 32 _ (by
  unfold enC
  rw [List.getElem?_append_right (by simp [bvs, hl])]
  simp [bvs, hl])
theorem enC_one : ∀ v ∈ enC x A C, v.oneCell' = true := fun v hv => by
  simp only [enC, bvs, List.mem_append, List.mem_map, List.mem_cons, List.not_mem_nil, or_false] at hv
  rcases hv with ⟨y, _, rfl⟩ | rfl <;> rfl
end
/-- The cells of the first n changes. -/
def flatZ (X : Nat → Chg) (Ad : Nat → Option Addr) (Cp : Nat → Nat) : Nat → List Value
  | 0 => []
  | n + 1 => flatZ X Ad Cp n ++ enC (X n) (Ad n) (Cp n)
section
variable {X : Nat → Chg} {Ad : Nat → Option Addr} {Cp : Nat → Nat}
theorem flatZ_length {n : Nat} (h : ∀ i, i < n → (X i).key.length = 32) : (flatZ X Ad Cp n).length = n * 33 := by
  induction n with
  | zero => rfl
  | succ n ih => rw [flatZ, List.length_append, ih (fun i hi => h i (by omega)), enC_length (h n (by omega))]; omega
theorem flatZ_at {n i j : Nat} (h : ∀ i, i < n → (X i).key.length = 32) (hi : i < n) (hj : j < 33) : (flatZ X Ad Cp n)[i * 33 + j]? = (enC (X i) (Ad i) (Cp i))[j]? := by
  induction n with
  | zero => omega
  | succ n ih =>
    have hl := flatZ_length (Ad := Ad) (Cp := Cp) (n := n) (fun i hi => h i (by omega))
    rw [flatZ]
    by_cases e : i = n
    · subst e
      rw [List.getElem?_append_right (by omega), hl, Nat.add_sub_cancel_left]
    · rw [List.getElem?_append_left (by omega)]
      exact ih (fun i hi => h i (by omega)) (by omega)
theorem flatZ_congr {X' : Nat → Chg} {Ad' : Nat → Option Addr} {Cp' : Nat → Nat} {n : Nat} (h : ∀ i, i < n → X i = X' i ∧ Ad i = Ad' i ∧ Cp i = Cp' i) : flatZ X Ad Cp n = flatZ X' Ad' Cp' n := by
  induction n with
  | zero => rfl
  | succ n ih =>
    obtain ⟨h1, h2, h3⟩ := h n (by omega)
    rw [flatZ, flatZ, ih (fun i hi => h i (by omega)), h1, h2, h3]
theorem flatZ_upd {n : Nat} (x : Chg) (A : Option Addr) (C : Nat) : flatZ X Ad Cp n ++ enC x A C = flatZ (upd X n x) (upd Ad n A) (upd Cp n C) (n + 1) := by
  rw [flatZ, upd_same, upd_same, upd_same, flatZ_congr (X' := upd X n x) (Ad' := upd Ad n A) (Cp' := upd Cp n C) fun i hi => ⟨(upd_other _ _ (by omega)).symm, (upd_other _ _ (by omega)).symm, (upd_other _ _ (by omega)).symm⟩]
end
/-- A list of changes that is the call's own; the values lie elsewhere. -/
structure EntsOwn (w : World) (base : Nat) (v : Value) (n : Nat) (X : Nat → Chg) (Ad : Nat → Option Addr) (Cp : Nat → Nat) : Prop where
  own : w.ownsRow base 72 33 v n (flatZ X Ad Cp n)
  key : ∀ i, i < n → IsB (X i).key ∧ (X i).key.length = 32
  val : ∀ i, i < n → RB w (Ad i) (X i).val.length (X i).val ∧ (X i).val.length ≤ Cp i ∧ Cp i ≤ maxLen ∧ (Ad i = none → Cp i = 0)
  apart : ∀ i, i < n → 0 < (X i).val.length → ∀ ad, Ad i = some ad → some ad.block ≠ v.ownBlock
section
variable {w w' : World} {base : Nat} {v v' : Value} {n : Nat} {X : Nat → Chg} {Ad : Nat → Option Addr} {Cp : Nat → Nat}
theorem EntsOwn.nil (w : World) (base : Nat) (X : Nat → Chg) (Ad : Nat → Option Addr) (Cp : Nat → Nat) : EntsOwn w base (.slice none 0 0) 0 X Ad Cp :=
  { own := World.ownsRow_nil w base 72 33, key := fun i hi => by omega, val := fun i hi => by omega, apart := fun i hi => by omega }
theorem EntsOwn.kept (h : EntsOwn w base v n X Ad Cp) {row : Option Nat} (hg : w.grownBy w' row) (hv : v.ownBlock = none ∨ v.ownBlock ≠ row) (ha : ∀ i, i < n → 0 < (X i).val.length → ∀ ad, Ad i = some ad → some ad.block ≠ row) : EntsOwn w' base v n X Ad Cp :=
  { h with
    own := h.own.kept hg hv
    val := fun i hi => ⟨(h.val i hi).1.grownBy hg (fun h0 ad e => ha i hi h0 ad e), (h.val i hi).2⟩ }
theorem EntsOwn.later (h : EntsOwn w base v n X Ad Cp) (hb : Below w.heap.size w w') : EntsOwn w' base v n X Ad Cp :=
  { h with
    own := h.own.kept (grown_of_below hb none) (by cases v.ownBlock <;> simp)
    val := fun i hi => ⟨(h.val i hi).1.below hb, (h.val i hi).2⟩ }
theorem EntsOwn.ge (h : EntsOwn w base v n X Ad Cp) : ∀ k, v.ownBlock = some k → base ≤ k := fun k hk => (h.own.lt k hk).1
/-- One more change is appended. -/
theorem EntsOwn.more (h : EntsOwn w base v n X Ad Cp) {x : Chg} {A : Option Addr} {C : Nat} (hk : IsB x.key ∧ x.key.length = 32) (hv : RB w A x.val.length x.val ∧ x.val.length ≤ C ∧ C ≤ maxLen ∧ (A = none → C = 0)) (ha : 0 < x.val.length → ∀ ad, A = some ad → some ad.block ≠ v.ownBlock)
    (ho : w'.ownsRow base 72 33 v' (n + 1) (flatZ X Ad Cp n ++ enC x A C)) (hg : w.grownBy w' v.ownBlock) (hl : Lies w v v') : EntsOwn w' base v' (n + 1) (upd X n x) (upd Ad n A) (upd Cp n C) := by
  have far : ∀ (A : Option Addr) (xs : List Nat), RB w A xs.length xs → 0 < xs.length → (∀ ad, A = some ad → some ad.block ≠ v.ownBlock) → ∀ ad, A = some ad → some ad.block ≠ v'.ownBlock := fun A xs hr h0 hne ad e he => by
    rcases hl _ he.symm with h1 | h1
    · exact hne ad e h1.symm
    · obtain ⟨ad', e', hb, _⟩ := hr.2.2 h0
      rw [e] at e'
      injection e' with e'
      rw [e'] at h1
      omega
  refine ⟨by rw [← flatZ_upd]; exact ho, fun i hi => ?_, fun i hi => ?_, fun i hi => ?_⟩
  · by_cases e : i = n
    · subst e; rw [upd_same]; exact hk
    · rw [upd_other _ _ e]; exact h.key i (by omega)
  · by_cases e : i = n
    · subst e; rw [upd_same, upd_same, upd_same]; exact ⟨hv.1.grownBy hg ha, hv.2⟩
    · rw [upd_other _ _ e, upd_other _ _ e, upd_other _ _ e]; exact ⟨(h.val i (by omega)).1.grownBy hg (h.apart i (by omega)), (h.val i (by omega)).2⟩
  · by_cases e : i = n
    · subst e; rw [upd_same, upd_same]; exact fun h0 ad e => far A x.val hv.1 h0 (ha h0) ad e
    · rw [upd_other _ _ e, upd_other _ _ e]; exact fun h0 ad e => far _ _ (h.val i (by omega)).1 h0 (h.apart i (by omega) h0) ad e
/-- What a caller may read. -/
theorem EntsOwn.form (h : EntsOwn w base v n X Ad Cp) : ∃ A C, v = .slice A n C ∧ EntsAt w A n X ∧ n ≤ C ∧ (A = none → C = 0) ∧ n ≤ maxLen ∧ ∀ ad, A = some ad → ∃ g, ad = ⟨g, 0, none⟩ ∧ base ≤ g := by
  rcases h.own.2 with ⟨e1, h0⟩ | ⟨g, cap, cur, e1, hb, hc, hnc, hcm, hr⟩
  · subst h0
    exact ⟨none, 0, e1, ⟨Nat.zero_le _, fun k hk => by omega⟩, Nat.le_refl _, fun _ => rfl, Nat.zero_le _, (fun ad e => by cases e)⟩
  · have hn : n ≤ maxLen := by omega
    have ho := h.own
    rw [e1] at ho
    refine ⟨_, cap, e1, ⟨hn, fun k hk => ⟨g, 0, Ad k, Cp k, rfl, (h.own.lt g (by rw [e1]; rfl)).2, fun j u hj => ?_, (h.key k hk).1, (h.key k hk).2, (h.val k hk).1, (h.val k hk).2⟩⟩, hnc, (fun h => by cases h), hn, fun ad e => ⟨g, by injection e with e; exact e.symm, hb⟩⟩
    have hj33 : j < 33 := by
      have := (List.getElem?_eq_some_iff.1 hj).1
      rwa [enC_length (h.key k hk).2] at this
    have hlt : k * 33 + j < n * 33 := by omega
    rw [Nat.zero_add, World.ownsRow.cellAt ho _ hlt, flatZ_at (fun i hi => (h.key i hi).2) hk hj33]
    exact hj
end
section
variable {P : Program}
/-- 'l = append(l, c)' of one change: it lies in a new block of its own first. -/
theorem append1E_run {t e : TypeId} {z : Value} {by_ : Nat} (ht : P.underlying t = some (.slice e)) (hinfo : (P.info? e).map (fun i => (i.zero, i.size, i.bytes)) = some (some z, 33, by_)) (hzs : z.cells.size = 33)
    {o : Oper} {a : Act} (w : World) (s x : Operand) (ho : o.op = .call { callee := .builtin .append, args := #[s, x], argTypes := #[t, t] })
    (base : Nat) (v : Value) (n : Nat) (xs : List Value) (hown : w.ownsRow base e 33 v n xs) (cs : List Value) (hcl : cs.length = 33) (hone : ∀ u ∈ cs, u.oneCell' = true) (hs : a.eval s = v) (hx : a.eval x = .slice (some ⟨w.heap.size, 0, none⟩) 1 1)
    (hlen : (n + 1) * by_ ≤ 140737488355328) (hm : n + 1 ≤ 140737488355328) (hbase : base ≤ w.heap.size) :
    ∃ v' w', (execOp a.eval o).run P (w.alloc (.cells cs.toArray e)) = .ok (.value v') w' ∧ w'.ownsRow base e 33 v' (n + 1) (xs ++ cs) ∧ w.grownBy w' v.ownBlock ∧ Lies w v v' := by
  obtain ⟨i, hi, hz, hs1, hby⟩ := info_parts hinfo
  obtain ⟨v', w', hr, h1, h2, _, h4⟩ := run_append_own_at (P := P) (w.alloc (.cells cs.toArray e)) base t o.type e i z 33 by_ ht hi hz hs1 hby hzs (by decide) v n xs (hown.alloc _)
    ⟨w.heap.size, 0, none⟩ 1 1 cs (by omega) (fun j u hj => by
      rw [add_lit, cell_of_row _ _ _ _ _ _ (heap_alloc_new w _), Nat.zero_add, List.getElem?_toArray]
      exact hj) hone (by unfold maxLen; omega) hlen (by simp; omega)
  refine ⟨v', w', ?_, h1, grown_trans (World.grownBy_alloc _ _ _) h2, ?_⟩
  · unfold execOp
    simp only [ho, resolve, invoke, builtin, Sem.run_bind, Sem.run_pure, Result.andThen_ok, List.map_toArray, List.map_cons, List.map_nil, hs, hx, hr]
  · intro k hk
    rcases h4 with h4 | h4
    · rw [h4] at hk
      exact .inl hk
    · rw [h4] at hk
      injection hk with hk
      simp at hk
      exact .inr (by omega)
theorem wpOp_append1E {t e : TypeId} {z : Value} {by_ : Nat} (ht : P.underlying t = some (.slice e)) (hinfo : (P.info? e).map (fun i => (i.zero, i.size, i.bytes)) = some (some z, 33, by_)) (hzs : z.cells.size = 33)
    {ops : Array Oper} {Q : Exit → Act → World → Prop} {K : Act → World → Prop} {o : Oper} {a : Act} (hw : Region.wanted o (yielded ops a.tmps) = true) (w : World) (s x : Operand) (ho : o.op = .call { callee := .builtin .append, args := #[s, x], argTypes := #[t, t] })
    (base : Nat) (v : Value) (n : Nat) (xs : List Value) (hown : w.ownsRow base e 33 v n xs) (cs : List Value) (hcl : cs.length = 33) (hone : ∀ u ∈ cs, u.oneCell' = true) (hs : a.eval s = v) (hx : a.eval x = .slice (some ⟨w.heap.size, 0, none⟩) 1 1)
    (hlen : (n + 1) * by_ ≤ 140737488355328) (hm : n + 1 ≤ 140737488355328) (hbase : base ≤ w.heap.size)
    (h : ∀ v' w', w'.ownsRow base e 33 v' (n + 1) (xs ++ cs) → w.grownBy w' v.ownBlock → Lies w v v' → K (a.put o.dst v') w') :
    if Region.wanted o (yielded ops a.tmps) = true then o.wp P a (w.alloc (.cells cs.toArray e)) K Q else K (a.put o.dst undef) (w.alloc (.cells cs.toArray e)) := by
  obtain ⟨v', w', hr, h1, h2, h3⟩ := append1E_run ht hinfo hzs w s x ho base v n xs hown cs hcl hone hs hx hlen hm hbase
  rw [if_pos hw]
  unfold Oper.wp
  rw [hr]
  exact h v' w' h1 h2 h3
theorem append1E {t e : TypeId} {z : Value} {by_ : Nat} (ht : P.underlying t = some (.slice e)) (hinfo : (P.info? e).map (fun i => (i.zero, i.size, i.bytes)) = some (some z, 33, by_)) (hzs : z.cells.size = 33)
    {ops : Array Oper} {rest : List Oper} {o : Oper} {a : Act} {Q : Exit → Act → World → Prop} (w : World) (hgd : o.guard = none) (s x : Operand) (ho : o.op = .call { callee := .builtin .append, args := #[s, x], argTypes := #[t, t] })
    (base : Nat) (v : Value) (n : Nat) (xs : List Value) (hown : w.ownsRow base e 33 v n xs) (cs : List Value) (hcl : cs.length = 33) (hone : ∀ u ∈ cs, u.oneCell' = true) (hs : a.eval s = v) (hx : a.eval x = .slice (some ⟨w.heap.size, 0, none⟩) 1 1)
    (hlen : (n + 1) * by_ ≤ 140737488355328) (hm : n + 1 ≤ 140737488355328) (hbase : base ≤ w.heap.size)
    (h : ∀ v' w', w'.ownsRow base e 33 v' (n + 1) (xs ++ cs) → w.grownBy w' v.ownBlock → Lies w v v' → wpList P ops Q rest (a.put o.dst v') w') :
    wpList P ops Q (o :: rest) a (w.alloc (.cells cs.toArray e)) := by
  obtain ⟨v', w', hr, h1, h2, h3⟩ := append1E_run (o := o) ht hinfo hzs w s x ho base v n xs hown cs hcl hone hs hx hlen hm hbase
  refine wpList_plain hgd fun K hK => ?_
  unfold Oper.wp
  rw [hr]
  exact hK _ _ (h v' w' h1 h2 h3)
end
theorem EntsOwn.congr {w : World} {base n : Nat} {v : Value} {X X' : Nat → Chg} {Ad : Nat → Option Addr} {Cp : Nat → Nat} (h : EntsOwn w base v n X Ad Cp) (he : ∀ i, i < n → X i = X' i) : EntsOwn w base v n X' Ad Cp :=
  { own := by rw [← flatZ_congr (X := X) (Ad := Ad) (Cp := Cp) fun i hi => ⟨he i hi, rfl, rfl⟩]; exact h.own
    key := fun i hi => by rw [← he i hi]; exact h.key i hi
    val := fun i hi => by rw [← he i hi]; exact h.val i hi
    apart := fun i hi => by rw [← he i hi]; exact h.apart i hi }
theorem EntsOwn.mono {w : World} {base base' n : Nat} {v : Value} {X : Nat → Chg} {Ad : Nat → Option Addr} {Cp : Nat → Nat} (h : EntsOwn w base v n X Ad Cp) (hb : base' ≤ base) : EntsOwn w base' v n X Ad Cp :=
  { h with
    own := by
      obtain ⟨hl, hv⟩ := h.own
      refine ⟨hl, ?_⟩
      rcases hv with h0 | ⟨g, cap, cur, e, hg, r⟩
      · exact .inl h0
      · exact .inr ⟨g, cap, cur, e, by omega, r⟩ }
/-- A value is laid into an entry. -/
theorem flatZ_set {X : Nat → Chg} {Ad : Nat → Option Addr} {Cp : Nat → Nat} {n i : Nat} (h : ∀ i, i < n → (X i).key.length = 32) (hi : i < n) (d : Bool) (vl : List Nat) (A : Option Addr) (C : Nat) :
    (flatZ X Ad Cp n).set (i * 33 + 32) (.slice A vl.length C) = flatZ (upd X i ⟨(X i).key, d, vl⟩) (upd Ad i A) (upd Cp i C) n := by
  have h' : ∀ j, j < n → (upd X i ⟨(X i).key, d, vl⟩ j).key.length = 32 := fun j hj => by
    by_cases e : j = i
    · subst e; rw [upd_same]; exact h j hj
    · rw [upd_other _ _ e]; exact h j hj
  have hl := flatZ_length (Ad := Ad) (Cp := Cp) h
  have hl' := flatZ_length (Ad := upd Ad i A) (Cp := upd Cp i C) h'
  apply List.ext_getElem?
  intro j
  by_cases hj : j < n * 33
  · have hq : j / 33 < n := by omega
    have hd : j = j / 33 * 33 + j % 33 := by omega
    rw [List.getElem?_set, hl]
    by_cases e : i * 33 + 32 = j
    · rw [if_pos e, if_pos (show i * 33 + 32 < n * 33 by omega)]
      have e1 : j / 33 = i := by omega
      have e2 : j % 33 = 32 := by omega
      rw [hd, e1, e2, flatZ_at h' hi (by omega), upd_same, upd_same, upd_same]
      unfold enC
      rw [List.getElem?_append_right (by simp [bvs, h i hi])]
      simp [bvs, h i hi]
    · rw [if_neg e, hd, flatZ_at h hq (Nat.mod_lt _ (by omega)), flatZ_at h' hq (Nat.mod_lt _ (by omega))]
      by_cases e1 : j / 33 = i
      · rw [e1, upd_same, upd_same, upd_same]
        have e3 : j % 33 < 32 := by omega
        unfold enC
        rw [List.getElem?_append_left (by simp [bvs, h i hi]; exact e3), List.getElem?_append_left (by simp [bvs, h i hi]; exact e3)]
      · rw [upd_other _ _ e1, upd_other _ _ e1, upd_other _ _ e1]
  · rw [List.getElem?_eq_none (by rw [List.length_set]; omega), List.getElem?_eq_none (by omega)]
theorem EntsOwn.setVal {w : World} {base n g c : Nat} {X : Nat → Chg} {Ad : Nat → Option Addr} {Cp : Nat → Nat} (h : EntsOwn w base (.slice (some ⟨g, 0, none⟩) n c) n X Ad Cp) {i : Nat} (hi : i < n) (d : Bool) {vl : List Nat} {A : Option Addr} {C : Nat}
    (hv : RB w A vl.length vl ∧ vl.length ≤ C ∧ C ≤ maxLen ∧ (A = none → C = 0)) (ha : 0 < vl.length → ∀ ad, A = some ad → ad.block ≠ g) :
    EntsOwn (w.setCell ⟨g, i * 33 + 32, none⟩ (.slice A vl.length C)) base (.slice (some ⟨g, 0, none⟩) n c) n (upd X i ⟨(X i).key, d, vl⟩) (upd Ad i A) (upd Cp i C) := by
  have hg := grown_setCell w (g := g) (i * 33 + 32) (.slice A vl.length C)
  refine ⟨?_, fun j hj => ?_, fun j hj => ?_, fun j hj => ?_⟩
  · rw [← flatZ_set (fun i hi => (h.key i hi).2) hi]
    exact (World.ownsRow.stored h.own _ _).1
  · by_cases e : j = i
    · subst e; rw [upd_same]; exact h.key j hj
    · rw [upd_other _ _ e]; exact h.key j hj
  · by_cases e : j = i
    · subst e; rw [upd_same, upd_same, upd_same]; exact ⟨hv.1.grownBy hg (fun h0 ad e he => ha h0 ad e (by injection he)), hv.2⟩
    · rw [upd_other _ _ e, upd_other _ _ e, upd_other _ _ e]; exact ⟨(h.val j hj).1.grownBy hg (h.apart j hj), (h.val j hj).2⟩
  · by_cases e : j = i
    · subst e; rw [upd_same, upd_same]; exact fun h0 ad e => (fun he => ha h0 ad e (by injection he))
    · rw [upd_other _ _ e, upd_other _ _ e]; exact h.apart j hj
theorem info_ent : (Tryd.prog.info? 72).map (fun i => (i.zero, i.size)) = some (some (.agg ((zarr 32) ++ #[.slice none 0 0])), 33) := by kernel_rfl
theorem info_ent3 : (Tryd.prog.info? 72).map (fun i => (i.zero, i.size, i.bytes)) = some (some (.agg ((zarr 32) ++ #[.slice none 0 0])), 33, 56) := by kernel_rfl
theorem row_ent : (Tryd.prog.underlying 72).map (·.isRow) = some true := by kernel_rfl
theorem size_ent : (Tryd.prog.info? 72).map (·.size) = some 33 := by kernel_rfl
theorem und_enl : Tryd.prog.underlying 36 = some (.slice 72) := by kernel_rfl
/-- 'api.Entry{Key: k}'. -/
theorem built_en {key : List Nat} (hk : key.length = 32) :
    Tryd.prog.built 72 [(0, .agg (bvs key).toArray)] = some (enC ⟨key, false, []⟩ none 0).toArray := by
  have hb : ∃ Z : Array Value, Z.size = 33 ∧ Z[32]? = some (.slice none 0 0) ∧ ∀ ps, Tryd.prog.built 72 ps = Instr.fill (#[(0, 32), (32, 1)][·]?) Z ps := by
    refine ⟨(zarr 32) ++ #[.slice none 0 0], by simp [zarr, bvs, zs], by rfl, fun ps => ?_⟩
    have h1 : (Tryd.prog.info? 72).map (·.zero) = some (some (.agg ((zarr 32) ++ #[.slice none 0 0]))) := by kernel_rfl
    obtain ⟨i, hi, hz⟩ : ∃ i, Tryd.prog.info? 72 = some i ∧ i.zero = some (.agg ((zarr 32) ++ #[.slice none 0 0])) := by
      cases hq : Tryd.prog.info? 72 with
      | none => simp [hq] at h1
      | some i => exact ⟨i, rfl, by simpa [hq] using h1⟩
    have hp : (Tryd.prog.underlying 72).bind (fun d => match d with | .struct fs => fs.toList.mapM (fun f => (Tryd.prog.info? f.type).map fun i => (f.offset, i.size)) | _ => none) = some [(0, 32), (32, 1)] := by kernel_rfl
    rw [Tryd.underlying72] at hp
    unfold Program.built
    rw [hi, Tryd.underlying72]
    simp only [hz]
    simp only [Option.bind_some] at hp
    rw [hp]
    rfl
  obtain ⟨Z, hZ, hZ3, hb⟩ := hb
  have hkl : (bvs key).length = 32 := by simp [bvs, hk]
  have s1 : ((Value.agg (bvs key).toArray).cells).size = 32 := by simp [Value.cells, hkl]
  rw [hb, fill_step (off := 0) (size := 32) rfl s1 (by omega), Instr.fill]
  congr 1
  apply Array.ext_getElem?
  intro j
  have e1 : ((Value.agg (bvs key).toArray).cells) = (bvs key).toArray := rfl
  unfold enC
  rw [spl_at (by rw [s1]; omega), e1]
  simp only [List.size_toArray, List.getElem?_toArray, hkl]
  by_cases h3 : j = 32
  · subst h3
    rw [if_neg (by omega), List.getElem?_append_right (by omega), hkl]
    exact hZ3
  by_cases h1 : j < 32
  · rw [if_pos (by omega), List.getElem?_append_left (by omega), Nat.sub_zero]
  · rw [if_neg (by omega), Array.getElem?_eq_none (by omega), List.getElem?_eq_none (by rw [List.length_append, hkl]; simp; omega)]
end Go.Proofs.YtfnlhfaihoojfaaDoor

/- A list of changes that came in, as the closing texts ask for it. -/
namespace Go.Proofs.YtfnlhfaihoojfaaDoor
open Go.ChangeShapes Go.WideShapes Go.RowKit
section
variable {H : Type} {enc : TypeId × Value → H} {w : World} {base : Nat} {held : Bool}
theorem und_chs : Tryd.prog.underlying 33 = some (.slice 93) := by kernel_rfl
theorem und_raw : Tryd.prog.underlying 22 = some (.slice 5) := by kernel_rfl
theorem und_u8 : Tryd.prog.underlying 5 = some (.int .u8) := by kernel_rfl
theorem chs_open {fuel : Nat} {cs : List Value} {x : DataW H × List MemPlace} (hf : DataW.trod enc Tryd.prog w base (fun _ => true) held fuel 33 cs = some x) : ∃ A N C X, cs = [.slice A N C] ∧ ChsAt w A N X ∧ N ≤ C ∧ C ≤ maxLen ∧ (A = none → C = 0) ∧ ∀ M, SizedBy Tryd.prog 33 x.1 M → N * Tryd.prog.bytesOf 93 ≤ M ∧ ∀ k, k < N → (X k).val.length * Tryd.prog.bytesOf 5 ≤ M :=
  chs_of und_chs Tryd.underlying93 rfl rfl rfl rfl rfl rfl (by kernel_rfl) (by kernel_rfl) (by kernel_rfl) und_key (by kernel_rfl) und_raw und_u8 (by kernel_rfl) und_u8 (by kernel_rfl) (by kernel_rfl) hf
end
end Go.Proofs.YtfnlhfaihoojfaaDoor
