/- FreshN, LastK (merged by merge_k.py) -/
import Derived.Test.YtkpbeibcfaenhaaKb
import Derived.Test.YtkpbeibcfaenhaaKf
import Derived.Test.YtkpbeibcfaenhaaFoldK
import Derived.Test.YtkpbeibcfaenhaaKd
import Derived.Test.YtkpbeibcfaenhaaGf
import Derived.Test.YtkpbeibcfaenhaaBackN
/- What BatchFresh asks of the texts beneath it: roomy lists as objects; how long values are; what the last look wants. -/
namespace Go.Proofs.Ytkpbeibcfaenhaa
open Go.RowKit
/-- The changes of a roomy list, the two behind them too. -/
def rooX (N : Nat) (X : Nat → Chg) (i : Nat) : Chg := if i < N then X i else if i = N then sp0 else sp1
/-- The values of a roomy list, with what stands behind them. -/
def rvOs (X : Nat → Chg) (Gv : Nat → Nat) (N : Nat) : List Ob := (List.range N).map fun i => byO (.slice (some ⟨Gv i, 0, none⟩) ((X i).val.length + 100) ((X i).val.length + 100)) (rooN (X i).val)
theorem rvOs_succ (X : Nat → Chg) (Gv : Nat → Nat) (n : Nat) : rvOs X Gv (n + 1) = rvOs X Gv n ++ [byO (.slice (some ⟨Gv n, 0, none⟩) ((X n).val.length + 100) ((X n).val.length + 100)) (rooN (X n).val)] := by simp [rvOs, List.range_succ]
theorem rvOs_length (X : Nat → Chg) (Gv : Nat → Nat) (n : Nat) : (rvOs X Gv n).length = n := by simp [rvOs]
theorem rvOs_drop {X : Nat → Chg} {Gv : Nat → Nat} {n i : Nat} (hi : i < n) : (rvOs X Gv n).drop i = byO (.slice (some ⟨Gv i, 0, none⟩) ((X i).val.length + 100) ((X i).val.length + 100)) (rooN (X i).val) :: (rvOs X Gv n).drop (i + 1) := by
  rw [List.drop_eq_getElem_cons (by rw [rvOs_length]; exact hi)]
  congr 1
  simp [rvOs]
theorem rvOs_mem {X : Nat → Chg} {Gv : Nat → Nat} {n : Nat} {o : Ob} : o ∈ rvOs X Gv n ↔ ∃ i, i < n ∧ o = byO (.slice (some ⟨Gv i, 0, none⟩) ((X i).val.length + 100) ((X i).val.length + 100)) (rooN (X i).val) := by
  unfold rvOs
  constructor
  · intro h
    obtain ⟨i, hi, e⟩ := List.mem_map.1 h
    exact ⟨i, List.mem_range.1 hi, e.symm⟩
  · rintro ⟨i, hi, rfl⟩
    exact List.mem_map.2 ⟨i, List.mem_range.2 hi, rfl⟩
theorem blkB_row {w : World} {g base : Nat} {xs : List Nat} (h : BlkB w g 5 xs) (hb : base ≤ g) (hn : xs.length ≤ maxLen) {n : Nat} (hl : xs.length = n) : w.ownsRow base 5 1 (.slice (some ⟨g, 0, none⟩) n n) xs.length (bvs xs) := by
  subst hl
  exact ⟨by simp [bvs], .inr ⟨g, xs.length, _, rfl, hb, h, Nat.le_refl _, hn, by simp [bvs], by rw [Nat.mul_one]; exact List.take_of_length_le (by simp [bvs])⟩⟩
section
variable {w : World} {base top g N : Nat} {X : Nat → Chg} {Gv : Nat → Nat} {V : Option Addr}
/-- The objects of a roomy list. -/
def rooOs (N g : Nat) (cs : List Value) (X : Nat → Chg) (Gv : Nat → Nat) : List Ob := roO (.slice (some ⟨g, 0, none⟩) (N + 2) (N + 2)) (N + 2) cs :: rvOs X Gv N
theorem Roo.objs (h : Roo w base top g N X Gv V) : ∃ cs, Obs w base (rooOs N g cs X Gv) := by
  obtain ⟨Z, Ad, Cp, hb, hr, h0, h1, h2, h3, h4, h5⟩ := h.blk
  have hk := h.keys ⟨fun i hi => (hr i hi).1, h0, h3⟩
  have hl := flat_length (Ad := Ad) (Cp := Cp) hk
  have hroom := h.room.1
  refine ⟨flat Z Ad Cp (N + 2), ⟨fun o ho => ?_, List.pairwise_cons.2 ⟨fun o ho B hB hB' => ?_, ?_⟩⟩⟩
  · rcases List.mem_cons.1 ho with rfl | ho
    · exact ⟨hl, .inr ⟨g, N + 2, _, rfl, h.lo.1, hb, Nat.le_refl _, hroom, by rw [List.size_toArray, hl]; rfl, List.take_of_length_le (Nat.le_of_eq hl)⟩⟩
    · obtain ⟨i, hi, rfl⟩ := rvOs_mem.1 ho
      exact blkB_row (h.val i hi) (h.lo.2.2 i (by omega)).1 (by rw [rooN_length]; have := h.len i hi; unfold maxLen; omega) (rooN_length _)
  · obtain ⟨i, hi, rfl⟩ := rvOs_mem.1 ho
    have e1 : g = B := by injection hB
    have e2 : Gv i = B := by injection hB'
    exact h.ng i (by omega) (by rw [e1, e2])
  · refine List.pairwise_iff_getElem.2 fun i j hi hj hij B hB hB' => ?_
    rw [rvOs_length] at hi hj
    simp only [rvOs, List.getElem_map, List.getElem_range] at hB hB'
    have e1 : Gv i = B := by injection hB
    have e2 : Gv j = B := by injection hB'
    exact absurd (h.inj i j (by omega) (by omega) (by rw [e1, e2])) (by omega)
theorem Roo.dep (h : Roo w base top g N X Gv V) : Dep (fun B => base ≤ B ∧ B < top) w fun w => Roo w base top g N X Gv V := fun _ hs hk => h.same hs fun k h1 h2 => hk k ⟨h1, h2⟩
theorem Roo.chsV (h : Roo w base top g N X Gv V) : ChsV w (.slice (some ⟨g, 0, none⟩) (N + 2) (N + 2)) (N + 2) (rooX N X) := by
  obtain ⟨Z, Ad, Cp, hb, hr, h0, h1, h2, h3, h4, h5⟩ := h.blk
  have hk := h.keys ⟨fun i hi => (hr i hi).1, h0, h3⟩
  have hX : ∀ i, i < N + 2 → rooX N X i = Z i := fun i hi => by
    unfold rooX
    by_cases e1 : i < N
    · rw [if_pos e1, (hr i e1).1]
    · rw [if_neg e1]
      by_cases e2 : i = N
      · rw [if_pos e2, e2, h0]
      · rw [if_neg e2, show i = N + 1 by omega, h3]
  refine ⟨_, _, rfl, h.room.1, fun i hi => ⟨g, 0, Ad i, Cp i, rfl, BlkIs.lt hb, ?_, ?_⟩⟩
  · rw [Nat.zero_add, hX i hi]
    exact flat_range hb hk hi
  · rw [hX i hi]
    by_cases e1 : i < N
    · obtain ⟨q1, q2, q3⟩ := hr i e1
      rw [q1, q2, q3]
      exact ⟨(h.key i e1).1, (h.key i e1).2, roo_front (h.val i e1) (h.isB i e1), by omega, by have := h.len i e1; unfold maxLen; omega, fun e => by cases e⟩
    · by_cases e2 : i = N
      · subst e2
        rw [h0, h1, h2]
        exact ⟨spKey_isB (by omega), spKey_length _, h.spv.whole (n := 1) (IsB.one (by omega)) rfl, Nat.le_refl _, by simp [maxLen], fun e => by cases e⟩
      · have e3 : i = N + 1 := by omega
        subst e3
        rw [h3, h4, h5]
        exact ⟨spKey_isB (by omega), spKey_length _, RB.nil _ _, Nat.le_refl _, Nat.zero_le _, fun _ => rfl⟩
theorem rooX_len {N B : Nat} {X : Nat → Chg} (h : ∀ i, i < N → (X i).val.length ≤ B) (hB : 1 ≤ B) : ∀ i, i < N + 2 → (rooX N X i).val.length ≤ B := fun i _ => by
  unfold rooX
  split
  · rename_i h1; exact h i h1
  · split
    · exact hB
    · exact Nat.zero_le _
end
/-- What Build answers, as an object. -/
def rawOf (X : Nat → Chg) (N : Nat) : List Nat := if buildE X N = 0 then layN X N else []
theorem build_own {X : Nat → Chg} {N : Nat} {w w' : World} {e : Ending} (h : BuildPost X N w e w') : ∃ A c, e = .returned (.tuple #[.slice A (rawOf X N).length c, .int .i64 (buildE X N : Nat)]) ∧ OwnU w' w.heap.size (.slice A (rawOf X N).length c) (rawOf X N) ∧ Below w.heap.size w w' := by
  obtain ⟨v, he, hb, h1, h2⟩ := h
  by_cases h0 : buildE X N = 0
  · have hr : rawOf X N = layN X N := if_pos h0
    have ho := h1 h0
    obtain ⟨A, c, ev, _⟩ := ho.form
    rw [hr]
    subst ev
    exact ⟨A, c, he, ho, hb⟩
  · have hr : rawOf X N = [] := if_neg h0
    have hv := h2 h0
    subst hv
    rw [hr]
    exact ⟨none, 0, he, Own.nil _ _ _, hb⟩
theorem build_held {X : Nat → Chg} {N : Nat} (h : buildE X N = 0) : heldN X N 64 = 0 := by
  unfold buildE at h
  split at h
  · assumption
  · exact absurd h (by assumption)
theorem raw_length {X : Nat → Chg} {N : Nat} (hk : ∀ i, i < N → (X i).key.length = 32) : (rawOf X N).length ≤ 20000 := by
  unfold rawOf
  split
  · rename_i h0
    obtain ⟨h1, h2⟩ := heldN_le (build_held h0)
    have h3 := layF_length (X := X) (n := N) hk h2
    unfold layN
    simp only [List.length_cons]
    omega
  · simp
/-- A list that a call has answered, with its values, all of them short. -/
def LstRet (base B : Nat) (w' : World) (v : Value) (n : Nat) : Prop := ∃ X Ad Cp, ChsAll w' base v n X Ad Cp ∧ GoodL n X Ad Cp ∧ (∃ A c, v = .slice A n c) ∧ n ≤ B
theorem good_of {w : World} {base n B : Nat} {v : Value} {X : Nat → Chg} {Ad : Nat → Option Addr} {Cp : Nat → Nat} (h : ChsAll w base v n X Ad Cp) (hl : ∀ i, i < n → (X i).val.length ≤ 1073741824) (hn : n ≤ B) (hB : B ≤ 67108864) : LstRet base B w v n := by
  obtain ⟨A, C, e, _⟩ := h.own.form
  exact ⟨X, Ad, Cp, h, ⟨h.own.key, fun i hi => ⟨(h.own.val i hi).1.2.1, hl i hi, (h.own.val i hi).2⟩, by omega⟩, ⟨A, C, e⟩, hn⟩
theorem none_ret (base B : Nat) (w : World) : LstRet base B w (.slice none 0 0) 0 := ⟨fun _ => default, fun _ => none, fun _ => 0, ChsAll.nil _ _ _ _ _, ⟨fun i hi => by omega, fun i hi => by omega, by omega⟩, ⟨none, 0, rfl⟩, Nat.zero_le _⟩
theorem plainC_len (x : Chg) : (plainC x).val.length ≤ x.val.length := by unfold plainC; split <;> simp
theorem nrm_short {X : Nat → Chg} {N L : Nat} (h : ∀ i, i < N → (X i).val.length ≤ L) : ∀ x, x ∈ nrm X N → x.val.length ≤ L := fun x hx => by
  obtain ⟨y, hy, rfl⟩ := List.mem_map.1 ((nrm_perm X N).subset hx)
  obtain ⟨i, hi, rfl⟩ := mem_lst.1 hy
  exact Nat.le_trans (plainC_len _) (h i hi)
theorem foldL_mem : ∀ (n : Nat) (a b : List Chg), a.length + b.length ≤ n → ∀ x, x ∈ foldL a b → x ∈ a ∨ x ∈ b := by
  intro n
  induction n with
  | zero =>
    intro a b h x hx
    cases a with
    | nil => rw [foldL_left] at hx; exact .inr hx
    | cons y a => simp at h
  | succ n ih =>
    intro a b h x hx
    cases a with
    | nil => rw [foldL_left] at hx; exact .inr hx
    | cons y a =>
      cases b with
      | nil => rw [foldL_right] at hx; exact .inl hx
      | cons z b =>
        simp only [List.length_cons] at h
        rw [foldL] at hx
        split at hx
        · rcases List.mem_cons.1 hx with rfl | hx
          · exact .inl List.mem_cons_self
          · exact (ih a (z :: b) (by simp only [List.length_cons]; omega) x hx).imp (List.mem_cons_of_mem _) id
        · split at hx
          · rcases List.mem_cons.1 hx with rfl | hx
            · exact .inr List.mem_cons_self
            · exact (ih a b (by omega) x hx).imp (List.mem_cons_of_mem _) (List.mem_cons_of_mem _)
          · rcases List.mem_cons.1 hx with rfl | hx
            · exact .inr List.mem_cons_self
            · exact (ih (y :: a) b (by simp only [List.length_cons]; omega) x hx).imp id (List.mem_cons_of_mem _)
theorem norm_ret {X : Nat → Chg} {N : Nat} {w w' : World} {e : Ending} (h : NormPostK X N w e w') (hl : ∀ i, i < N → (X i).val.length ≤ 1073741824) : ∃ v n, e = .returned (.tuple #[v, .int .i64 (wrongN X N 4096 : Nat)]) ∧ LstRet w.heap.size 4096 w' v n ∧ (wrongN X N 4096 = 0 → n = N) ∧ Below w.heap.size w w' := by
  obtain ⟨v, he, hb, h1, h2⟩ := h
  by_cases h0 : wrongN X N 4096 = 0
  · obtain ⟨Z, Ad, Cp, ha, hok⟩ := h1 h0
    have hN := (heldN_le (wrong_zero h0).1).1
    refine ⟨v, N, he, good_of ha (fun i hi => ?_) hN (by omega), fun _ => rfl, hb⟩
    have hm : Z i ∈ lst Z N := mem_lst.2 ⟨i, hi, rfl⟩
    obtain ⟨y, hy, ey⟩ := List.mem_map.1 (hok.2.subset hm)
    obtain ⟨j, hj, rfl⟩ := mem_lst.1 hy
    rw [← ey]
    exact Nat.le_trans (plainC_len _) (hl j hj)
  · have hv := h2 h0
    subst hv
    exact ⟨_, 0, he, none_ret _ _ _, fun h => absurd h h0, hb⟩
theorem fold_ret {X Y : Nat → Chg} {N M : Nat} {w w' : World} {e : Ending} (h : FoldPostK X N Y M w e w') (hl : ∀ i, i < N → (X i).val.length ≤ 1073741824) (hl2 : ∀ i, i < M → (Y i).val.length ≤ 1073741824) : ∃ v n, e = .returned (.tuple #[v, .int .i64 (foldE X N Y M : Nat)]) ∧ LstRet w.heap.size 64 w' v n ∧ Below w.heap.size w w' := by
  obtain ⟨v, he, hb, h1, h2⟩ := h
  by_cases h0 : foldE X N Y M = 0
  · obtain ⟨Z, Ad, Cp, ha, hok⟩ := h1 h0
    have hO : foldO X N Y M = foldL (nrm X N) (nrm Y M) := if_pos h0
    have h64 : (foldO X N Y M).length ≤ 64 := by
      rw [hO]
      unfold foldE at h0
      split at h0
      · split at h0
        · split at h0
          · cases h0
          · omega
        · exact absurd h0 (by assumption)
      · exact absurd h0 (by assumption)
    refine ⟨v, _, he, good_of ha (fun i hi => ?_) h64 (by omega), hb⟩
    have hm : Z i ∈ foldO X N Y M := by rw [← hok]; exact mem_lst.2 ⟨i, hi, rfl⟩
    rw [hO] at hm
    rcases foldL_mem _ _ _ (Nat.le_refl _) _ hm with h3 | h3
    · exact nrm_short hl _ h3
    · exact nrm_short hl2 _ h3
  · have hv := h2 h0
    subst hv
    exact ⟨_, 0, he, none_ret _ _ _, hb⟩
theorem takeC_len (xs : List Nat) : (takeC xs).val.length ≤ xs.length := by
  unfold takeC
  split
  · exact Nat.zero_le _
  · simp only [List.length_take, List.length_drop]
    omega
theorem restK_len (r : List Nat) (k : Nat) : (restK r k).length ≤ r.length := by
  induction k with
  | zero => exact Nat.le_refl _
  | succ k ih =>
    refine Nat.le_trans ?_ ih
    show (takeR (restK r k)).length ≤ _
    unfold takeR
    split <;> simp only [List.length_drop] <;> omega
theorem parse_ret {raw : List Nat} {w w' : World} {e : Ending} (h : ParsePostK raw w e w') (hr : raw.length ≤ 20000) : ∃ v n, e = .returned (.tuple #[v, .int .i64 (parseE raw).2, .int .i64 ((parseE raw).1 : Nat)]) ∧ LstRet w.heap.size 64 w' v n ∧ ((parseE raw).1 = 0 → n = numN raw) ∧ Below w.heap.size w w' := by
  obtain ⟨v, he, hb, h1, h2⟩ := h
  by_cases h0 : (parseE raw).1 = 0
  · obtain ⟨Ad, Cp, ha⟩ := h2 h0
    refine ⟨v, _, he, good_of ha (fun i hi => ?_) (parse_ok h0).2.1 (by omega), fun _ => rfl, hb⟩
    have q1 : (parC (raw.drop 2) i).val.length ≤ (restK (raw.drop 2) i).length := takeC_len _
    have q2 := restK_len (raw.drop 2) i
    rw [List.length_drop] at q2
    omega
  · have hv := h1 h0
    subst hv
    exact ⟨_, 0, he, none_ret _ _ _, fun h => absurd h h0, hb⟩
theorem right_all {X : Nat → Chg} {N : Nat} (h : rightB X N 64 = true) (hk : ∀ i, i < N → IsB (X i).key ∧ (X i).key.length = 32) (hv : ∀ i, i < N → IsB (X i).val) : buildE X N = 0 ∧ wrongN X N 4096 = 0 ∧ (parseE (rawOf X N)).1 = 0 ∧ numN (rawOf X N) = N := by
  obtain ⟨hh, hr⟩ := rightB_iff.1 h
  obtain ⟨hN, hlong⟩ := heldN_le hh
  have h1 : buildE X N = 0 := by unfold buildE; rw [if_pos hh, if_neg (by omega)]
  have h4 : heldN X N 4096 = 0 := by unfold heldN; rw [if_neg (by omega), hlong]; rfl
  have hraw : rawOf X N = layN X N := if_pos h1
  refine ⟨h1, by unfold wrongN; rw [if_pos h4, if_neg (by omega)], ?_, by rw [hraw, numN_lay hN]⟩
  rw [hraw, parse_lay hN (fun i hi => ⟨(hk i hi).1, (hk i hi).2, hv i hi, anyLong_not hlong hi⟩) hr]
end Go.Proofs.Ytkpbeibcfaenhaa

/- The last look of BatchFresh. -/
namespace Go.Proofs.Ytkpbeibcfaenhaa
open Go.RowKit
def nsO (l : List Ob) (i : Nat) : Nat := ((l[i]?).map Ob.n).getD 0
def ctO (l : List Ob) (i : Nat) : List Value := ((l[i]?).map Ob.cs).getD []
theorem nsO_at {l : List Ob} {i : Nat} {o : Ob} (h : l[i]? = some o) : nsO l i = o.n ∧ ctO l i = o.cs := by simp [nsO, ctO, h]
theorem map_at {l : List Ob} {i : Nat} {v : Value} (h : (l.map Ob.v)[i]? = some v) : ∃ o, l[i]? = some o ∧ o.v = v := by
  rw [List.getElem?_map] at h
  cases hq : l[i]? with
  | none => rw [hq] at h; cases h
  | some o => rw [hq] at h; exact ⟨o, rfl, by simpa using h⟩
theorem blkOf_mem {l : List Ob} {B : Nat} (h : BlkOf (l.map Ob.v) B) : ∃ o, o ∈ l ∧ o.v.ownBlock = some B := by
  obtain ⟨i, v, hv, hB⟩ := h
  obtain ⟨o, ho, rfl⟩ := map_at hv
  exact ⟨o, List.mem_of_getElem? ho, hB⟩
theorem aptAll_of {w : World} {base : Nat} {l : List Ob} (h : Obs w base l) : AptAll (l.map Ob.v) := fun i j v u hij hv hu => by
  obtain ⟨a, ha, rfl⟩ := map_at hv
  obtain ⟨b, hb, rfl⟩ := map_at hu
  have hd := List.pairwise_iff_getElem.1 h.dis
  obtain ⟨hi, ei⟩ := List.getElem?_eq_some_iff.1 ha
  obtain ⟨hj, ej⟩ := List.getElem?_eq_some_iff.1 hb
  rcases Nat.lt_or_ge i j with h1 | h1
  · have := hd i j hi hj h1
    rwa [ei, ej] at this
  · have := hd j i hj hi (by omega)
    rw [ei, ej] at this
    exact this.symm'
section
variable {w0 w : World} {gb : Nat} {v : Nat → Value} {KW LW : List Value} {R : Nat → Prop} {KL LL pd : List Ob} {E : World → Prop}
theorem spn_of {w : World} {gb fo base : Nat} {e : TypeId} {v : Value} {l : List Ob} {A : Option Addr} {c : Nat} (hh : w.cell? ⟨gb, fo, none⟩ = some v) (hv : v = .slice A l.length c) (hlt : gb < w.heap.size) (hng : ¬ BlkOf (l.map Ob.v) gb) (hr : w.ownsRow base e 1 v (l.map Ob.v).length (l.map Ob.v))
    (hn : ∀ B, v.ownBlock = some B → ¬ BlkOf (l.map Ob.v) B) : Spn w gb fo A c (l.map Ob.v) := by
  refine ⟨by rw [hh, hv, List.length_map], hlt, hng, fun i hi => ?_⟩
  obtain ⟨g, c', e', h1, h2⟩ := rowV_at hr hi
  have hA : A = some ⟨g, 0, none⟩ := by
    rw [hv] at e'
    exact (slice_inj e').1
  exact ⟨g, hA, h1, hn g (by rw [hv, hA]; rfl), h2⟩
theorem PhI.fewB (h : PhI w0 w gb v KW LW R KL LL pd E) {i : Nat} {o : Ob} (ho : KL[i]? = some o) : ∃ xs, o = byO o.v xs ∧ xs.length ≤ 1073741824 := by
  have hi := (List.getElem?_eq_some_iff.1 ho).1
  obtain ⟨xs, _, h1, h2, _⟩ := h.eqB i o _ ho (List.getElem?_eq_getElem (by rw [h.lenB]; exact hi))
  exact ⟨xs, h1, h2⟩
theorem PhI.fewC (h : PhI w0 w gb v KW LW R KL LL pd E) {i : Nat} {o : Ob} (ho : LL[i]? = some o) : o = roO o.v o.n o.cs ∧ o.n ≤ 67108864 := by
  have hi := (List.getElem?_eq_some_iff.1 ho).1
  obtain ⟨X, h1, h2, _⟩ := h.eqC i o _ ho (List.getElem?_eq_getElem (by rw [h.lenC]; exact hi))
  exact ⟨h1, h2⟩
theorem PhI.ownB (h : PhI w0 w gb v KW LW R KL LL pd E) : OwnAll w w0.heap.size 5 1 (KL.map Ob.v) (nsO KL) (ctO KL) := fun i u hu => by
  obtain ⟨o, ho, rfl⟩ := map_at hu
  obtain ⟨xs, h1, _⟩ := h.fewB ho
  obtain ⟨e1, e2⟩ := nsO_at ho
  have h2 := h.objs.own o (List.mem_append_left _ (List.mem_append_left _ (List.mem_of_getElem? ho)))
  rw [e1, e2, h1]
  rw [h1] at h2
  exact h2
theorem PhI.ownC (h : PhI w0 w gb v KW LW R KL LL pd E) : OwnAll w w0.heap.size 45 34 (LL.map Ob.v) (nsO LL) (ctO LL) := fun i u hu => by
  obtain ⟨o, ho, rfl⟩ := map_at hu
  obtain ⟨h1, _⟩ := h.fewC ho
  obtain ⟨e1, e2⟩ := nsO_at ho
  have h2 := h.objs.own o (List.mem_append_left _ (List.mem_append_right _ (List.mem_of_getElem? ho)))
  rw [e1, e2, h1]
  rw [h1] at h2
  exact h2
theorem Ph.last (h : Ph w0 w gb KL LL pd E) (hk : KL.length ≤ 1073741824) (hl : LL.length ≤ 67108864) :
    Calls Try.prog 41 #[.pointer (some ⟨gb, 0, none⟩)] w fun e w' => e = .returned (.bool true) ∧ Below w0.heap.size w0 w' := by
  obtain ⟨v, KW, LW, R, hp⟩ := h
  have spR : ∀ B, Spine gb v B → ¬ BlkOf (KL.map Ob.v) B ∧ ¬ BlkOf (LL.map Ob.v) B := fun B hB => by
    refine ⟨fun hb => ?_, fun hb => ?_⟩
    · obtain ⟨o, ho, hob⟩ := blkOf_mem hb
      exact hp.sp B hB (hp.inR o (List.mem_append_left _ (List.mem_append_left _ ho)) B hob)
    · obtain ⟨o, ho, hob⟩ := blkOf_mem hb
      exact hp.sp B hB (hp.inR o (List.mem_append_left _ (List.mem_append_right _ ho)) B hob)
  have hobsB : Obs w w0.heap.size KL := hp.objs.sub ((List.sublist_append_left KL LL).trans (List.sublist_append_left _ _))
  have hobsC : Obs w w0.heap.size LL := hp.objs.sub ((List.sublist_append_right KL LL).trans (List.sublist_append_left _ _))
  have hap : ∀ B, BlkOf (LL.map Ob.v) B → ¬ BlkOf (KL.map Ob.v) B := fun B hB hB' => by
    obtain ⟨a, ha, hab⟩ := blkOf_mem hB
    obtain ⟨b, hb, hbb⟩ := blkOf_mem hB'
    have h1 := (List.pairwise_append.1 hp.objs.dis).1
    exact (List.pairwise_append.1 h1).2.2 b hb a ha B hbb hab
  obtain ⟨A, c, B, d, b0, b1, e0, e1⟩ := hp.headB
  obtain ⟨A2, c2, B2, d2, b2, b3, e2, e3⟩ := hp.headC
  have n0 : xsK KL KW LL LW 0 = KL.map Ob.v := rfl
  have n2 : xsK KL KW LL LW 2 = LL.map Ob.v := rfl
  have hr0 := hp.heads.row 0 (by omega)
  rw [n0] at hr0
  have hsB : Spn w gb 0 A c (KL.map Ob.v) := spn_of hp.heads.at_.1.1 e0 hp.heads.blk.lt (spR gb (.inl rfl)).1 hr0 fun q hq => (spR q (.inr ⟨0, by omega, hq⟩)).1
  have hx : ∀ W, Touch (BlkOf (KL.map Ob.v)) w W → Spn W gb 2 A2 c2 (LL.map Ob.v) ∧ OwnAll W w0.heap.size 45 34 (LL.map Ob.v) (nsO LL) (ctO LL) := fun W hW => by
    have hh := hp.heads.touch hW fun q hq => (spR q hq).1
    have hr2 := hh.row 2 (by omega)
    rw [n2] at hr2
    refine ⟨spn_of hh.at_.1.2.2.1 e2 hh.blk.lt (spR gb (.inl rfl)).2 hr2 fun q hq => (spR q (.inr ⟨2, by omega, hq⟩)).2, fun i u hu => hW.row (hp.ownC i u hu) fun q hq => hap q ⟨i, u, hu, hq⟩⟩
  refine (apartC_any w0.heap.size gb c c2 A A2 (KL.map Ob.v) (LL.map Ob.v) (nsO KL) (nsO LL) (ctO KL) (ctO LL) w hsB hp.ownB (aptAll_of hobsB) (by rw [List.length_map]; exact hk) (fun i hi => ?_) hx (aptAll_of hobsC) (by rw [List.length_map]; exact hl) (fun i hi => ?_) hp.bel.size).mono ?_
  · rw [List.length_map] at hi
    have ho : KL[i]? = some KL[i] := List.getElem?_eq_getElem hi
    obtain ⟨xs, h1, h2⟩ := hp.fewB ho
    rw [(nsO_at ho).1, h1]
    exact h2
  · rw [List.length_map] at hi
    have ho : LL[i]? = some LL[i] := List.getElem?_eq_getElem hi
    rw [(nsO_at ho).1]
    exact (hp.fewC ho).2
  · rintro e w' ⟨rfl, ht⟩
    refine ⟨rfl, ht.toBelow hp.bel hp.bel.size fun q hq => ?_⟩
    rcases hq with hq | hq
    · obtain ⟨o, ho, hob⟩ := blkOf_mem hq
      exact (hobsB.lt ho hob).1
    · obtain ⟨o, ho, hob⟩ := blkOf_mem hq
      exact (hobsC.lt ho hob).1
end
end Go.Proofs.Ytkpbeibcfaenhaa
