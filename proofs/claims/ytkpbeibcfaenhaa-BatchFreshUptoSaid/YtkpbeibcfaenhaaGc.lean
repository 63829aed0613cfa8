/- NumK, SortN, Merged (merged by merge_k.py) -/
import Derived.Test.YtkpbeibcfaenhaaKeysPlay
import Derived.Test.YtkpbeibcfaenhaaBatN
import Derived.Test.YtkpbeibcfaenhaaGb
/- Keys as numbers: the order of keys is that of numbers. -/
namespace Go.Proofs.Ytkpbeibcfaenhaa
open Go.RowKit
def numK : List Nat → Nat
  | [] => 0
  | x :: xs => x * 256 ^ xs.length + numK xs
theorem numK_lt : ∀ {xs : List Nat}, IsB xs → numK xs < 256 ^ xs.length
  | [], _ => by simp [numK]
  | x :: xs, h => by
    have h1 := numK_lt (xs := xs) (fun y hy => h y (List.mem_cons_of_mem _ hy))
    have h2 : x < 256 := h x List.mem_cons_self
    have h3 : x * 256 ^ xs.length ≤ 255 * 256 ^ xs.length := Nat.mul_le_mul_right _ (by omega)
    simp only [numK, List.length_cons, Nat.pow_succ]
    omega
theorem numK_less : ∀ (xs ys : List Nat) (i : Nat), IsB xs → IsB ys → xs.length = ys.length → i < xs.length → (∀ j, j < i → xs.getD j 0 = ys.getD j 0) → xs.getD i 0 < ys.getD i 0 → numK xs < numK ys
  | [], _, i, _, _, _, hi, _, _ => by simp at hi
  | _ :: _, [], i, _, _, hl, _, _, _ => by simp at hl
  | x :: xs, y :: ys, 0, hx, hy, hl, _, _, h => by
    have h1 := numK_lt (xs := xs) (fun z hz => hx z (List.mem_cons_of_mem _ hz))
    simp only [List.length_cons, Nat.add_right_cancel_iff] at hl
    simp only [List.getD_cons_zero] at h
    have h3 : (x + 1) * 256 ^ xs.length ≤ y * 256 ^ xs.length := Nat.mul_le_mul_right _ (by omega)
    rw [Nat.add_mul] at h3
    simp only [numK, ← hl]
    omega
  | x :: xs, y :: ys, i + 1, hx, hy, hl, hi, hs, h => by
    simp only [List.length_cons, Nat.add_right_cancel_iff] at hl
    simp only [List.length_cons] at hi
    have h0 := hs 0 (by omega)
    simp only [List.getD_cons_zero] at h0
    have h1 := numK_less xs ys i (fun z hz => hx z (List.mem_cons_of_mem _ hz)) (fun z hz => hy z (List.mem_cons_of_mem _ hz)) hl (by omega) (fun j hj => by
      have := hs (j + 1) (by omega)
      simpa using this) (by simpa using h)
    simp only [numK, ← hl, h0]
    omega
theorem numK_inj {xs ys : List Nat} (hx : IsB xs) (hy : IsB ys) (hl : xs.length = 32) (hl2 : ys.length = 32) (h : numK xs = numK ys) : xs = ys := by
  refine Classical.byContradiction fun hne => ?_
  obtain ⟨i, hi, hs, hd⟩ := diff_of hl hl2 hne
  rcases Nat.lt_or_gt_of_ne hd with h1 | h1
  · have := numK_less xs ys i hx hy (by omega) (by omega) hs h1
    omega
  · have := numK_less ys xs i hy hx (by omega) (by omega) (fun j hj => (hs j hj).symm) h1
    omega
def cmpZ (a b : Nat) : Int := if a < b then -1 else if b < a then 1 else 0
theorem cmpN_num {ds es : List Nat} (hB : IsB ds) (hB2 : IsB es) (hl : ds.length = 32) (hl2 : es.length = 32) : cmpN ds es = cmpZ (numK ds) (numK es) := by
  by_cases h : ds = es
  · subst h
    rw [cmpN_same]
    simp [cmpZ]
  · obtain ⟨i, hd⟩ := diff_of hl hl2 h
    have hi := hd.1
    rw [cmpN_diff hB hB2 hl hl2 hd]
    by_cases h1 : ds.getD i 0 < es.getD i 0
    · have := numK_less ds es i hB hB2 (by omega) (by omega) hd.2.1 h1
      rw [if_pos h1, cmpZ, if_pos this]
    · have h2 : es.getD i 0 < ds.getD i 0 := by have := hd.2.2; omega
      have := numK_less es ds i hB2 hB (by omega) (by omega) (fun j hj => (hd.2.1 j hj).symm) h2
      rw [if_neg h1, cmpZ, if_neg (by omega), if_pos this]
/-- Compare of two keys, the program's and the document's. -/
theorem compare_num (ds es : List Nat) (w : World) (hB : IsB ds) (hl : ds.length = 32) (hB2 : IsB es) (hl2 : es.length = 32) :
    Calls Try.prog 19 #[.agg (bvs ds).toArray, .agg (bvs es).toArray] w fun e w' => e = .returned (.int .i64 (cmpZ (numK ds) (numK es))) ∧ Below w.heap.size w w' := by
  rw [← cmpN_num hB hB2 hl hl2]
  exact compare_any ds es w hB hl hB2 hl2
theorem refcompare_num (ds es : List Nat) (w : World) (hB : IsB ds) (hl : ds.length = 32) (hB2 : IsB es) (hl2 : es.length = 32) :
    Calls Try.prog 80 #[.agg (bvs ds).toArray, .agg (bvs es).toArray] w fun e w' => e = .returned (.int .i64 (cmpZ (numK ds) (numK es))) ∧ Below w.heap.size w w' := by
  rw [← cmpN_num hB hB2 hl hl2]
  by_cases h : ds = es
  · subst h
    exact refcompare_any ds ds 32 _ w hB hl hB hl (Nat.le_refl _) (fun _ _ => rfl) (fun h => by omega) (fun _ => cmpN_same ds) (fun h => by omega)
  · obtain ⟨d, hd⟩ := diff_of hl hl2 h
    exact refcompare_any ds es d _ w hB hl hB2 hl2 (by have := hd.1; omega) hd.2.1 (fun _ => hd.2.2) (fun e => by have := hd.1; omega) (fun _ => cmpN_diff hB hB2 hl hl2 hd)
end Go.Proofs.Ytkpbeibcfaenhaa

/- Lists of changes in order, in plain Lean. -/
namespace Go.Proofs.Ytkpbeibcfaenhaa
def lst (X : Nat → Chg) (n : Nat) : List Chg := (List.range n).map X
def fnOf (l : List Chg) : Nat → Chg := fun i => l.getD i default
theorem lst_length (X : Nat → Chg) (n : Nat) : (lst X n).length = n := by simp [lst]
theorem lst_getD {X : Nat → Chg} {n i : Nat} (h : i < n) : (lst X n).getD i default = X i := by
  simp [lst, List.getD, List.getElem?_map, List.getElem?_range h]
theorem lst_fnOf (l : List Chg) : lst (fnOf l) l.length = l := by
  apply List.ext_getElem?
  intro i
  rcases Nat.lt_or_ge i l.length with h | h
  · simp [lst, fnOf, List.getElem?_map, List.getElem?_range h, List.getD, List.getElem?_eq_getElem h]
  · rw [List.getElem?_eq_none (by rw [lst_length]; exact h), List.getElem?_eq_none h]
theorem lst_succ (X : Nat → Chg) (n : Nat) : lst X (n + 1) = lst X n ++ [X n] := by simp [lst, List.range_succ]
theorem lst_congr {X Y : Nat → Chg} {n : Nat} (h : ∀ i, i < n → X i = Y i) : lst X n = lst Y n := by
  unfold lst
  exact List.map_congr_left fun i hi => h i (List.mem_range.1 hi)
theorem mem_lst {X : Nat → Chg} {n : Nat} {x : Chg} : x ∈ lst X n ↔ ∃ i, i < n ∧ X i = x := by simp [lst]
theorem lst_add (X : Nat → Chg) (h n : Nat) : lst X (h + n) = lst X h ++ lst (fun i => X (h + i)) n := by
  induction n with
  | zero => simp [lst]
  | succ n ih => rw [← Nat.add_assoc, lst_succ, ih, lst_succ, List.append_assoc]
/-- The change as it is answered. -/
def plainC (x : Chg) : Chg := if x.del then ⟨x.key, true, []⟩ else x
theorem plainC_key (x : Chg) : (plainC x).key = x.key := by
  unfold plainC
  split <;> rfl
def ordC (a b : Chg) : Prop := numK a.key ≤ numK b.key
def leC (a b : Chg) : Bool := decide (numK a.key ≤ numK b.key)
theorem leC_iff (a b : Chg) : leC a b = true ↔ ordC a b := by simp [leC, ordC]
def Sorted (l : List Chg) : Prop := l.Pairwise ordC
theorem sorted_merge {a b : List Chg} (ha : Sorted a) (hb : Sorted b) : Sorted (a.merge b leC) := by
  have h := List.pairwise_merge (le := leC) (fun x y z h1 h2 => by simp [leC] at *; omega) (fun x y => by simp [leC]; omega) a b (ha.imp fun h => (leC_iff _ _).2 h) (hb.imp fun h => (leC_iff _ _).2 h)
  exact h.imp fun h => (leC_iff _ _).1 h
/-- Two lists at the places i and j. -/
theorem merge_none {l : List Chg} : List.merge [] l leC = l ∧ List.merge l [] leC = l := by simp
theorem merge_step {a b : List Chg} {x y : Chg} : List.merge (x :: a) (y :: b) leC = if numK x.key ≤ numK y.key then x :: List.merge a (y :: b) leC else y :: List.merge (x :: a) b leC := by
  rw [List.cons_merge_cons]
  simp [leC]
def GoodK (x : Chg) : Prop := IsB x.key ∧ x.key.length = 32
theorem sorted_at {l : List Chg} (h : Sorted l) {i j : Nat} (hij : i < j) (hj : j < l.length) : numK (l.getD i default).key ≤ numK (l.getD j default).key := by
  have := List.pairwise_iff_getElem.1 h i j (by omega) hj hij
  simpa [List.getD, List.getElem?_eq_getElem hj, List.getElem?_eq_getElem (show i < l.length by omega), ordC] using this
/-- Is a key at the places i - 1 and i, for an i below n? -/
def adjS (l : List Chg) : Nat → Bool
  | 0 => false
  | n + 1 => adjS l n || (decide (0 < n) && decide ((l.getD n default).key = (l.getD (n - 1) default).key))
theorem adjS_at {l : List Chg} {n i : Nat} (h : i < n) (h0 : 0 < i) (he : (l.getD i default).key = (l.getD (i - 1) default).key) : adjS l n = true := by
  induction n with
  | zero => omega
  | succ n ih =>
    rw [adjS]
    by_cases e : i = n
    · subst e; rw [decide_eq_true h0, decide_eq_true he]; simp
    · rw [ih (by omega), Bool.true_or]
theorem adjS_of {l : List Chg} {n : Nat} (h : adjS l n = true) : ∃ i, 0 < i ∧ i < n ∧ (l.getD i default).key = (l.getD (i - 1) default).key := by
  induction n with
  | zero => simp [adjS] at h
  | succ n ih =>
    rw [adjS, Bool.or_eq_true, Bool.and_eq_true] at h
    rcases h with h | ⟨h1, h2⟩
    · obtain ⟨i, a, b, c⟩ := ih h
      exact ⟨i, a, by omega, c⟩
    · exact ⟨n, of_decide_eq_true h1, by omega, of_decide_eq_true h2⟩
def keysOf (l : List Chg) : List (List Nat) := l.map (·.key)
theorem nodup_rep {X : Nat → Chg} {n : Nat} : 0 ≤ repN X n ↔ ¬ (keysOf (lst X n)).Nodup := by
  induction n with
  | zero => simp [repN, lst, keysOf]
  | succ n ih =>
    have hk : ∀ m, hasKey X (X n).key m = true ↔ ∃ i, i < m ∧ (X n).key = (X i).key := fun m => by
      induction m with
      | zero => simp [hasKey]
      | succ m ihm =>
        rw [hasKey, Bool.or_eq_true, ihm]
        constructor
        · rintro (⟨i, h1, h2⟩ | h)
          · exact ⟨i, by omega, h2⟩
          · exact ⟨m, by omega, of_decide_eq_true h⟩
        · rintro ⟨i, h1, h2⟩
          by_cases e : i = m
          · subst e; exact .inr (decide_eq_true h2)
          · exact .inl ⟨i, by omega, h2⟩
    have hs : keysOf (lst X (n + 1)) = keysOf (lst X n) ++ [(X n).key] := by simp [keysOf, lst_succ]
    have hm : (X n).key ∈ keysOf (lst X n) ↔ hasKey X (X n).key n = true := by
      rw [hk]
      simp [keysOf, lst, eq_comm]
    rw [hs, List.nodup_append, repN]
    by_cases h1 : 0 ≤ repN X n
    · rw [if_pos h1]
      exact ⟨fun _ h => (ih.1 h1) h.1, fun _ => h1⟩
    · rw [if_neg h1]
      have h2 : (keysOf (lst X n)).Nodup := Classical.byContradiction fun h => h1 (ih.2 h)
      by_cases h3 : hasKey X (X n).key n = true
      · rw [if_pos h3]
        refine ⟨fun _ h => h.2.2 _ (hm.2 h3) _ (by simp) rfl, fun _ => by omega⟩
      · rw [if_neg h3]
        refine ⟨fun h => absurd h (by decide), fun h => absurd ⟨h2, by simp, fun a ha b hb => ?_⟩ h⟩
        simp at hb
        subst hb
        exact fun e => h3 (hm.1 (e ▸ ha))
theorem nodup_perm {a b : List Chg} (h : a.Perm b) : (keysOf a).Nodup ↔ (keysOf b).Nodup := (h.map _).nodup_iff
theorem adjS_keys {l : List Chg} (h : Sorted l) (hg : ∀ x, x ∈ l → GoodK x) : adjS l l.length = true ↔ ¬ (keysOf l).Nodup := by
  have hmem : ∀ i, i < l.length → l.getD i default ∈ l := fun i hi => by
    rw [List.getD, List.getElem?_eq_getElem hi]
    exact List.getElem_mem hi
  have hkey : ∀ i (hi : i < l.length), (keysOf l)[i]'(by simpa [keysOf] using hi) = (l.getD i default).key := fun i hi => by
    simp [keysOf, List.getD, List.getElem?_eq_getElem hi]
  constructor
  · intro ha hn
    obtain ⟨i, h0, hi, he⟩ := adjS_of ha
    have := List.pairwise_iff_getElem.1 hn (i - 1) i (by simp [keysOf]; omega) (by simpa [keysOf] using hi) (by omega)
    rw [hkey _ (by omega), hkey _ hi] at this
    exact this he.symm
  · intro hn
    cases hc : adjS l l.length with
    | true => rfl
    | false =>
      exfalso
      apply hn
      refine List.pairwise_iff_getElem.2 fun i j hi hj hij e => ?_
      have hi' : i < l.length := by simpa [keysOf] using hi
      have hj' : j < l.length := by simpa [keysOf] using hj
      rw [hkey _ hi', hkey _ hj'] at e
      have h1 : numK (l.getD (j - 1) default).key ≤ numK (l.getD j default).key := sorted_at h (by omega) hj'
      have h2 : numK (l.getD i default).key ≤ numK (l.getD (j - 1) default).key := by
        by_cases e2 : i = j - 1
        · rw [← e2]; exact Nat.le_refl _
        · exact sorted_at h (by omega) (by omega)
      have g1 := hg _ (hmem _ hj')
      have g2 := hg _ (hmem (j - 1) (by omega))
      have e3 : (l.getD j default).key = (l.getD (j - 1) default).key := numK_inj g1.1 g2.1 g1.2 g2.2 (by rw [e] at h2; omega)
      rw [adjS_at hj' (by omega) e3] at hc
      cases hc
/-- Two lists in order with the same content and no key twice are one. -/
theorem sorted_unique : ∀ {a b : List Chg}, a.Perm b → Sorted a → Sorted b → (∀ x, x ∈ a → GoodK x) → (keysOf a).Nodup → a = b
  | [], b, hp, _, _, _, _ => by rw [List.nil_perm.1 hp]
  | x :: a, b, hp, ha, hb, hg, hn => by
    cases b with
    | nil => exact absurd hp.length_eq (by simp)
    | cons y b =>
      have hxy : x = y := by
        have hx : x ∈ y :: b := hp.subset List.mem_cons_self
        have hy : y ∈ x :: a := hp.symm.subset List.mem_cons_self
        rcases List.mem_cons.1 hx with h | h
        · exact h
        · rcases List.mem_cons.1 hy with h' | h'
          · exact h'.symm
          · have h1 := (List.pairwise_cons.1 hb).1 x h
            have h2 := (List.pairwise_cons.1 ha).1 y h'
            have g1 := hg x List.mem_cons_self
            have g2 := hg y (List.mem_cons_of_mem _ h')
            have e := numK_inj g1.1 g2.1 g1.2 g2.2 (by unfold ordC at h1 h2; omega)
            have h3 := (List.pairwise_cons.1 hn).1 y.key (List.mem_map_of_mem (f := (·.key)) h')
            exact absurd e h3
      subst hxy
      have := sorted_unique (List.perm_cons _ |>.1 hp) (List.pairwise_cons.1 ha).2 (List.pairwise_cons.1 hb).2 (fun z hz => hg z (List.mem_cons_of_mem _ hz)) (List.pairwise_cons.1 hn).2
      rw [this]
end Go.Proofs.Ytkpbeibcfaenhaa

/- ledgerref3.merged. (printed by gen_merged.py) -/
namespace Go.Proofs.Ytkpbeibcfaenhaa
open Go.RowKit
theorem ChsOwn.congr {w : World} {base n : Nat} {v : Value} {X X' : Nat → Chg} {Ad : Nat → Option Addr} {Cp : Nat → Nat} (h : ChsOwn w base v n X Ad Cp) (he : ∀ i, i < n → X i = X' i) : ChsOwn w base v n X' Ad Cp :=
  { own := by rw [← flat_congr (X := X) (Ad := Ad) (Cp := Cp) fun i hi => ⟨he i hi, rfl, rfl⟩]; exact h.own
    key := fun i hi => by rw [← he i hi]; exact h.key i hi
    val := fun i hi => by rw [← he i hi]; exact h.val i hi
    apart := fun i hi => by rw [← he i hi]; exact h.apart i hi }
theorem lst_upd (Z : Nat → Chg) (n : Nat) (x : Chg) : lst (upd Z n x) (n + 1) = lst Z n ++ [x] := by
  rw [lst_succ, upd_same, lst_congr (Y := Z) fun i hi => upd_other _ _ (by omega)]
theorem lst_drop {X : Nat → Chg} {n i : Nat} (h : i < n) : (lst X n).drop i = X i :: (lst X n).drop (i + 1) := by
  rw [List.drop_eq_getElem_cons (by rw [lst_length]; exact h)]
  congr 1
  simp [lst]
theorem lst_out {X : Nat → Chg} {n i : Nat} (h : n ≤ i) : (lst X n).drop i = [] := List.drop_of_length_le (by rw [lst_length]; exact h)
theorem merge_length (a b : List Chg) : (a.merge b leC).length = a.length + b.length := by simp
/-- How far the merging is. -/
def MergI (X Y Z : Nat → Chg) (N M i j : Nat) : Prop := (lst X N).merge (lst Y M) leC = lst Z (i + j) ++ ((lst X N).drop i).merge ((lst Y M).drop j) leC
theorem MergI.left {X Y Z : Nat → Chg} {N M i j : Nat} (h : MergI X Y Z N M i j) (hi : i < N) (hj : j < M → numK (X i).key ≤ numK (Y j).key) : MergI X Y (upd Z (i + j) (X i)) N M (i + 1) j := by
  unfold MergI at *
  rw [show i + 1 + j = (i + j) + 1 by omega, lst_upd, h, List.append_assoc]
  congr 1
  rw [lst_drop hi]
  by_cases hj' : j < M
  · rw [lst_drop hj', merge_step, if_pos (hj hj')]
    rfl
  · rw [lst_out (X := Y) (by omega), merge_none.2, merge_none.2]
    rfl
theorem MergI.right {X Y Z : Nat → Chg} {N M i j : Nat} (h : MergI X Y Z N M i j) (hj : j < M) (hi : i < N → ¬ numK (X i).key ≤ numK (Y j).key) : MergI X Y (upd Z (i + j) (Y j)) N M i (j + 1) := by
  unfold MergI at *
  rw [show i + (j + 1) = (i + j) + 1 by omega, lst_upd, h, List.append_assoc]
  congr 1
  rw [lst_drop hj]
  by_cases hi' : i < N
  · rw [lst_drop hi', merge_step, if_neg (hi hi')]
    rfl
  · rw [lst_out (X := X) (by omega), merge_none.1, merge_none.1]
    rfl
theorem MergI.done {X Y Z : Nat → Chg} {N M : Nat} (h : MergI X Y Z N M N M) : ∀ k, k < N + M → Z k = fnOf ((lst X N).merge (lst Y M) leC) k := fun k hk => by
  unfold MergI at h
  rw [lst_out (Nat.le_refl _), lst_out (Nat.le_refl _), merge_none.1, List.append_nil] at h
  rw [h, fnOf, lst_getD hk]
theorem cmpZ_le (a b : Nat) : cmpZ a b ≤ 0 ↔ a ≤ b := by
  unfold cmpZ
  split
  · simp; omega
  · split
    · simp; omega
    · simp; omega
set_option maxRecDepth 100000 in
set_option maxHeartbeats 4000000 in
theorem merged_any (A B : Option Addr) (N M c d : Nat) (X Y : Nat → Chg) (w : World) (hx : ChsAt w A N X) (hy : ChsAt w B M Y) (hn : (N + M) * 64 ≤ 140737488355328) :
    Calls Try.prog 98 #[.slice A N c, .slice B M d] w (ChsRet (N + M) (fnOf ((lst X N).merge (lst Y M) leC)) w) := by
  have HX := Lib.hid hx
  have HY := Lib.hid hy
  have hu := und_key
  clear hx hy
  go_enter Try.func98, Try.ntmps98
  go_wp2_with fail
  go_loopw [5, 6, 7] (fun v p q wr => ∃ i j : Nat, i ≤ N ∧ j ≤ M ∧ p = .int .i64 i ∧ q = .int .i64 j ∧ (∃ Z Ad Cp, Hid (ChsOwn wr w.heap.size v (i + j) Z Ad Cp) ∧ Hid (MergI X Y Z N M i j)) ∧ Hid (Below w.heap.size w wr)) (fun _ p q _ => (N - (intOf p).toNat) + (M - (intOf q).toNat))
  case atStart => exact ⟨0, 0, by omega, by omega, rfl, rfl, ⟨fun _ => default, fun _ => none, fun _ => 0, ChsOwn.nil _ _ _ _ _, (by show _ = _; simp [lst])⟩, Below.refl _ _⟩
  case round =>
    obtain ⟨i, j, hi, hj, rfl, rfl, ⟨Z, Ad, Cp, HO, HM⟩, HB⟩ := hrel
    obtain ⟨w1, rfl⟩ : ∃ w1, w1 = wr := ⟨_, rfl⟩
    by_cases hi1 : i < N
    · have hi2 : (i : Int) < N := by omega
      obtain ⟨bbx, ox, Ax, Cx, rfl, hbx, hrx, hkBx, hklx, hvrx, hvCx, hCmx, hnilx⟩ := HX.out.2 i hi1
      have HKx := Lib.hid (show IsB (X i).key ∧ (X i).key.length = 32 from ⟨hkBx, hklx⟩)
      have hszx : (Try.prog.info? 25).map (·.size) = some (bvs (X i).key).length := by rw [size_key]; simp [bvs, hklx]
      have HRRx : Hid (∀ W, Below w.heap.size w W → W.rangeAt bbx (ox + i * 34) (chC (X i) Ax Cx)) := fun W hW => range_below hW hbx hrx
      have HVVx : Hid (∀ W, Below w.heap.size w W → RB W Ax (X i).val.length (X i).val ∧ (X i).val.length ≤ Cx ∧ Cx ≤ maxLen ∧ (Ax = none → Cx = 0)) := fun W hW => ⟨hvrx.below hW, hvCx, hCmx, hnilx⟩
      have HAPx : Hid (0 < (X i).val.length → ∀ ad, Ax = some ad → some ad.block ≠ u5.ownBlock) := fun h0 ad e he => by
        obtain ⟨ad', e', q1, _⟩ := hvrx.2.2 h0
        rw [e] at e'
        injection e' with e'
        rw [← e'] at q1
        have q2 := HO.out.ge _ he.symm
        omega
      clear hbx hrx hkBx hklx hvrx hvCx hCmx hnilx
      by_cases hj1 : j < M
      · have hj2 : (j : Int) < M := by omega
        have hj3 : ¬ (M : Int) ≤ j := by omega
        have hj4 : decide ((M : Int) ≤ j) = false := decide_eq_false hj3
        obtain ⟨bby, oy, Ay, Cy, rfl, hby, hry, hkBy, hkly, hvry, hvCy, hCmy, hnily⟩ := HY.out.2 j hj1
        have HKy := Lib.hid (show IsB (Y j).key ∧ (Y j).key.length = 32 from ⟨hkBy, hkly⟩)
        have hszy : (Try.prog.info? 25).map (·.size) = some (bvs (Y j).key).length := by rw [size_key]; simp [bvs, hkly]
        have HRRy : Hid (∀ W, Below w.heap.size w W → W.rangeAt bby (oy + j * 34) (chC (Y j) Ay Cy)) := fun W hW => range_below hW hby hry
        have HVVy : Hid (∀ W, Below w.heap.size w W → RB W Ay (Y j).val.length (Y j).val ∧ (Y j).val.length ≤ Cy ∧ Cy ≤ maxLen ∧ (Ay = none → Cy = 0)) := fun W hW => ⟨hvry.below hW, hvCy, hCmy, hnily⟩
        have HAPy : Hid (0 < (Y j).val.length → ∀ ad, Ay = some ad → some ad.block ≠ u5.ownBlock) := fun h0 ad e he => by
          obtain ⟨ad', e', q1, _⟩ := hvry.2.2 h0
          rw [e] at e'
          injection e' with e'
          rw [← e'] at q1
          have q2 := HO.out.ge _ he.symm
          omega
        clear hby hry hkBy hkly hvry hvCy hCmy hnily
        have HML : Hid (numK (X i).key ≤ numK (Y j).key → MergI X Y (upd Z (i + j) (X i)) N M (i + 1) j) := fun h => HM.out.left hi1 (fun _ => h)
        have HMR : Hid (¬ numK (X i).key ≤ numK (Y j).key → MergI X Y (upd Z (i + j) (Y j)) N M i (j + 1)) := fun h => HM.out.right hj1 (fun _ => h)
        have KS : Hid (∀ W, Below w.heap.size w W → W.rangeAt bbx (ox + i * 34) (bvs (X i).key) ∧ W.rangeAt bby (oy + j * 34) (bvs (Y j).key)) := fun W hW => ⟨ch_key (HRRx.out W hW), ch_key (HRRy.out W hW)⟩
        generalize X i = x at *
        generalize Y j = y at *
        go_wp2_with fail
        rename_i KK hKK
        have HKK := Lib.hid hKK
        clear hKK
        refine wp_region_held_drew (S := fun w' => w'.rangeAt bbx (ox + i * 34) (bvs x.key) ∧ w'.rangeAt bby (oy + j * 34) (bvs y.key)) (by kernel_rfl) (KS.out _ (drewN_below HB.out 1)) fun hH => ?_
        refine wpAnyH_take (i := 0) (oi := ⟨some 34, _, _, _, _, _⟩) rfl (by kernel_rfl) (by kernel_rfl) (by kernel_rfl) (fun _ _ _ h => h) (Or.inl ⟨by rfl, fun w hw => by ((try dsimp only at hw); go_split_ands; go_simp; with_reducible rfl)⟩) (by assumption) ?_
        try simp only [Act.put, List.setIfInBounds_toArray, List.set_cons_zero, List.set_cons_succ]
        refine wpAnyH_take (i := 1) (oi := ⟨some 35, _, _, _, _, _⟩) rfl (by kernel_rfl) (by kernel_rfl) (by kernel_rfl) (fun _ _ _ h => h) (Or.inl ⟨by rfl, fun w hw => by ((try dsimp only at hw); go_split_ands; go_simp; with_reducible rfl)⟩) (by assumption) ?_
        try simp only [Act.put, List.setIfInBounds_toArray, List.set_cons_zero, List.set_cons_succ]
        refine wpAnyH_take (i := 2) (oi := ⟨some 36, _, _, _, _, _⟩) rfl (by kernel_rfl) (by kernel_rfl) (by kernel_rfl) (fun _ _ _ h => h) (Or.inl ⟨by rfl, fun w hw => by ((try dsimp only at hw); go_split_ands; go_simp; with_reducible rfl)⟩) (by assumption) ?_
        try simp only [Act.put, List.setIfInBounds_toArray, List.set_cons_zero, List.set_cons_succ]
        refine wpAnyH_take (i := 3) (oi := ⟨some 37, _, _, _, _, _⟩) rfl (by kernel_rfl) (by kernel_rfl) (by kernel_rfl) (fun _ _ _ h => h) (Or.inl ⟨by rfl, fun w hw => by ((try dsimp only at hw); go_split_ands; go_simp; with_reducible rfl)⟩) (by assumption) ?_
        try simp only [Act.put, List.setIfInBounds_toArray, List.set_cons_zero, List.set_cons_succ]
        refine wpAnyH_take (i := 4) (oi := ⟨some 38, _, _, _, _, _⟩) rfl (by kernel_rfl) (by kernel_rfl) (by kernel_rfl) (fun _ _ _ h => h) (yieldsIf_load_mid (by rfl) _ _ rfl _ _ rfl _ _ (fun w hw => by (try dsimp only at hw); go_split_ands; assumption) (by assumption) rfl (by assumption)) (by assumption) ?_
        try simp only [Act.put, List.setIfInBounds_toArray, List.set_cons_zero, List.set_cons_succ]
        refine wpAnyH_take (i := 5) (oi := ⟨some 39, _, _, _, _, _⟩) rfl (by kernel_rfl) (by kernel_rfl) (by kernel_rfl) (fun _ _ _ h => h) (Or.inl ⟨by rfl, fun w hw => by ((try dsimp only at hw); go_split_ands; go_simp; with_reducible rfl)⟩) (by assumption) ?_
        try simp only [Act.put, List.setIfInBounds_toArray, List.set_cons_zero, List.set_cons_succ]
        refine wpAnyH_take (i := 6) (oi := ⟨some 40, _, _, _, _, _⟩) rfl (by kernel_rfl) (by kernel_rfl) (by kernel_rfl) (fun _ _ _ h => h) (Or.inl ⟨by rfl, fun w hw => by ((try dsimp only at hw); go_split_ands; go_simp; with_reducible rfl)⟩) (by assumption) ?_
        try simp only [Act.put, List.setIfInBounds_toArray, List.set_cons_zero, List.set_cons_succ]
        refine wpAnyH_take (i := 7) (oi := ⟨some 41, _, _, _, _, _⟩) rfl (by kernel_rfl) (by kernel_rfl) (by kernel_rfl) (fun _ _ _ h => h) (Or.inl ⟨by rfl, fun w hw => by ((try dsimp only at hw); go_split_ands; go_simp; with_reducible rfl)⟩) (by assumption) ?_
        try simp only [Act.put, List.setIfInBounds_toArray, List.set_cons_zero, List.set_cons_succ]
        refine wpAnyH_take (i := 8) (oi := ⟨some 42, _, _, _, _, _⟩) rfl (by kernel_rfl) (by kernel_rfl) (by kernel_rfl) (fun _ _ _ h => h) (Or.inl ⟨by rfl, fun w hw => by ((try dsimp only at hw); go_split_ands; go_simp; with_reducible rfl)⟩) (by assumption) ?_
        try simp only [Act.put, List.setIfInBounds_toArray, List.set_cons_zero, List.set_cons_succ]
        refine wpAnyH_take (i := 9) (oi := ⟨some 43, _, _, _, _, _⟩) rfl (by kernel_rfl) (by kernel_rfl) (by kernel_rfl) (fun _ _ _ h => h) (yieldsIf_load_mid (by rfl) _ _ rfl _ _ rfl _ _ (fun w hw => by (try dsimp only at hw); go_split_ands; assumption) (by assumption) rfl (by assumption)) (by assumption) ?_
        try simp only [Act.put, List.setIfInBounds_toArray, List.set_cons_zero, List.set_cons_succ]
        refine wpAnyH_ready (rs := [10]) (by kernel_rfl) (by simp) ?_
        refine AllReadyH.cons rfl (fun K hK => ?_) (AllReadyH.nil)
        go_simp
        refine (refcompare_num x.key y.key _ HKx.out.1 HKx.out.2 HKy.out.1 HKy.out.2).mono ?_
        rintro e w2 ⟨rfl, hb2⟩
        have HBW : Hid (Below w.heap.size w w2) := (drewN_below HB.out 1).trans (hb2.mono (drewN_below HB.out 1).size)
        have HOW := Lib.hid ((HO.out.later (drewN_below (Below.refl _ _) 1)).later hb2)
        refine hK.out _ _ (KS.out _ HBW.out) (fun hH2 => ?_)
        clear hK hH hb2
        refine wpAnyH_take (i := 11) (oi := ⟨some 9, _, _, _, _, _⟩) rfl (by kernel_rfl) (by kernel_rfl) (by kernel_rfl) (fun _ _ _ h => h) (Or.inl ⟨by rfl, fun w hw => by ((try dsimp only at hw); go_split_ands; go_simp; with_reducible rfl)⟩) (by assumption) ?_
        try simp only [Act.put, List.setIfInBounds_toArray, List.set_cons_zero, List.set_cons_succ]
        refine wpAnyH_done (by kernel_rfl) ?_ _
        change KK _ _
        refine HKK.out _ _ ?_
        clear hH2 hu hszx hszy
        by_cases hle : numK x.key ≤ numK y.key
        · have hz : cmpZ (numK x.key) (numK y.key) ≤ 0 := (cmpZ_le _ _).2 hle
          have HMn := Lib.hid (HML.out hle)
          have HRx := Lib.hid (HRRx.out _ HBW.out)
          have HVx := Lib.hid (HVVx.out _ HBW.out)
          generalize cmpZ (numK x.key) (numK y.key) = z at *
          have hzd : decide (z ≤ 0) = true := decide_eq_true hz
          go_wp2_with (first
          | ((with_reducible refine stopAt (o := ⟨some 52, _, _, _, _, _⟩) ?_); refine loadRange (o := ⟨some 52, _, _, _, _, _⟩) (by rfl) 45 (.tmp 51) rfl bbx (ox + i * 34) (chC x Ax Cx) rfl HRx.out row_chg (by rw [size_chg, chC_length HKx.out.2]) ?_)
          | ((with_reducible refine stopAt (o := ⟨some 53, _, _, _, _, _⟩) ?_); refine buildSlice1 (o := ⟨some 53, _, _, _, _, _⟩) rfl w2 30 45 _ 34 (.tmp 52) rfl und_chl info_chg (by decide) (by decide) (chC x Ax Cx).toArray rfl (by rw [List.size_toArray, chC_length HKx.out.2]) ?_)
          | ((with_reducible refine stopAt (o := ⟨some 54, _, _, _, _, _⟩) ?_); refine append1C (o := ⟨some 54, _, _, _, _, _⟩) und_chl info_chg3 rfl w2 rfl (.tmp 48) (.tmp 53) rfl w.heap.size u5 (i + j) _ HOW.out.own (chC x Ax Cx) (chC_length HKx.out.2) chC_one rfl rfl (by omega) (by omega) HBW.out.size ?_; intro v3 w3 ho3 hg3 hl3; have HO3 := Lib.hid (HOW.out.more HKx.out HVx.out HAPx.out ho3 hg3 hl3); have HB3 : Hid (Below w.heap.size w w3) := HBW.out.grown hg3 HBW.out.size HOW.out.ge; clear ho3 hg3 hl3))
          go_roundw
          case rel => exact ⟨i + 1, j, by omega, by omega, by go_num, by go_num, ⟨_, _, _, by show ChsOwn _ _ _ _ _ _ _; have h := HO3.out; rwa [show i + j + 1 = i + 1 + j by omega] at h, HMn.out⟩, HB3.out⟩
          case measure => simp [intOf]; omega
        · have hz : ¬ cmpZ (numK x.key) (numK y.key) ≤ 0 := fun h => hle ((cmpZ_le _ _).1 h)
          have HMn := Lib.hid (HMR.out hle)
          have HRy := Lib.hid (HRRy.out _ HBW.out)
          have HVy := Lib.hid (HVVy.out _ HBW.out)
          generalize cmpZ (numK x.key) (numK y.key) = z at *
          have hzd : decide (z ≤ 0) = false := decide_eq_false hz
          go_wp2_with (first
          | ((with_reducible refine stopAt (o := ⟨some 61, _, _, _, _, _⟩) ?_); refine loadRange (o := ⟨some 61, _, _, _, _, _⟩) (by rfl) 45 (.tmp 60) rfl bby (oy + j * 34) (chC y Ay Cy) rfl HRy.out row_chg (by rw [size_chg, chC_length HKy.out.2]) ?_)
          | ((with_reducible refine stopAt (o := ⟨some 62, _, _, _, _, _⟩) ?_); refine buildSlice1 (o := ⟨some 62, _, _, _, _, _⟩) rfl w2 30 45 _ 34 (.tmp 61) rfl und_chl info_chg (by decide) (by decide) (chC y Ay Cy).toArray rfl (by rw [List.size_toArray, chC_length HKy.out.2]) ?_)
          | ((with_reducible refine stopAt (o := ⟨some 63, _, _, _, _, _⟩) ?_); refine append1C (o := ⟨some 63, _, _, _, _, _⟩) und_chl info_chg3 rfl w2 rfl (.tmp 57) (.tmp 62) rfl w.heap.size u5 (i + j) _ HOW.out.own (chC y Ay Cy) (chC_length HKy.out.2) chC_one rfl rfl (by omega) (by omega) HBW.out.size ?_; intro v3 w3 ho3 hg3 hl3; have HO3 := Lib.hid (HOW.out.more HKy.out HVy.out HAPy.out ho3 hg3 hl3); have HB3 : Hid (Below w.heap.size w w3) := HBW.out.grown hg3 HBW.out.size HOW.out.ge; clear ho3 hg3 hl3))
          go_roundw
          case rel => exact ⟨i, j + 1, by omega, by omega, by go_num, by go_num, ⟨_, _, _, by show ChsOwn _ _ _ _ _ _ _; have h := HO3.out; rwa [show i + j + 1 = i + j + 1 by omega] at h, HMn.out⟩, HB3.out⟩
          case measure => simp [intOf]; omega
      · have hj2 : ¬ (j : Int) < M := by omega
        have hj3 : (M : Int) ≤ j := by omega
        have hj4 : decide ((M : Int) ≤ j) = true := decide_eq_true hj3
        have HMn : Hid (MergI X Y (upd Z (i + j) (X i)) N M (i + 1) j) := HM.out.left hi1 (fun h => absurd h hj1)
        have HBW := HB
        have HOW := HO
        have HRx := Lib.hid (HRRx.out _ HBW.out)
        have HVx := Lib.hid (HVVx.out _ HBW.out)
        generalize X i = x at *
        go_wp2_with (first
          | ((with_reducible refine stopAt (o := ⟨some 52, _, _, _, _, _⟩) ?_); refine loadRange (o := ⟨some 52, _, _, _, _, _⟩) (by rfl) 45 (.tmp 51) rfl bbx (ox + i * 34) (chC x Ax Cx) rfl HRx.out row_chg (by rw [size_chg, chC_length HKx.out.2]) ?_)
          | ((with_reducible refine stopAt (o := ⟨some 53, _, _, _, _, _⟩) ?_); refine buildSlice1 (o := ⟨some 53, _, _, _, _, _⟩) rfl w1 30 45 _ 34 (.tmp 52) rfl und_chl info_chg (by decide) (by decide) (chC x Ax Cx).toArray rfl (by rw [List.size_toArray, chC_length HKx.out.2]) ?_)
          | ((with_reducible refine stopAt (o := ⟨some 54, _, _, _, _, _⟩) ?_); refine append1C (o := ⟨some 54, _, _, _, _, _⟩) und_chl info_chg3 rfl w1 rfl (.tmp 48) (.tmp 53) rfl w.heap.size u5 (i + j) _ HOW.out.own (chC x Ax Cx) (chC_length HKx.out.2) chC_one rfl rfl (by omega) (by omega) HBW.out.size ?_; intro v3 w3 ho3 hg3 hl3; have HO3 := Lib.hid (HOW.out.more HKx.out HVx.out HAPx.out ho3 hg3 hl3); have HB3 : Hid (Below w.heap.size w w3) := HBW.out.grown hg3 HBW.out.size HOW.out.ge; clear ho3 hg3 hl3))
        go_roundw
        case rel => exact ⟨i + 1, j, by omega, by omega, by go_num, by go_num, ⟨_, _, _, by show ChsOwn _ _ _ _ _ _ _; have h := HO3.out; rwa [show i + j + 1 = i + 1 + j by omega] at h, HMn.out⟩, HB3.out⟩
        case measure => simp [intOf]; omega
    · have hi2 : ¬ (i : Int) < N := by omega
      by_cases hj1 : j < M
      · have hj2 : (j : Int) < M := by omega
        have hj3 : ¬ (M : Int) ≤ j := by omega
        have hj4 : decide ((M : Int) ≤ j) = false := decide_eq_false hj3
        obtain ⟨bby, oy, Ay, Cy, rfl, hby, hry, hkBy, hkly, hvry, hvCy, hCmy, hnily⟩ := HY.out.2 j hj1
        have HKy := Lib.hid (show IsB (Y j).key ∧ (Y j).key.length = 32 from ⟨hkBy, hkly⟩)
        have hszy : (Try.prog.info? 25).map (·.size) = some (bvs (Y j).key).length := by rw [size_key]; simp [bvs, hkly]
        have HRRy : Hid (∀ W, Below w.heap.size w W → W.rangeAt bby (oy + j * 34) (chC (Y j) Ay Cy)) := fun W hW => range_below hW hby hry
        have HVVy : Hid (∀ W, Below w.heap.size w W → RB W Ay (Y j).val.length (Y j).val ∧ (Y j).val.length ≤ Cy ∧ Cy ≤ maxLen ∧ (Ay = none → Cy = 0)) := fun W hW => ⟨hvry.below hW, hvCy, hCmy, hnily⟩
        have HAPy : Hid (0 < (Y j).val.length → ∀ ad, Ay = some ad → some ad.block ≠ u5.ownBlock) := fun h0 ad e he => by
          obtain ⟨ad', e', q1, _⟩ := hvry.2.2 h0
          rw [e] at e'
          injection e' with e'
          rw [← e'] at q1
          have q2 := HO.out.ge _ he.symm
          omega
        clear hby hry hkBy hkly hvry hvCy hCmy hnily
        have HMn : Hid (MergI X Y (upd Z (i + j) (Y j)) N M i (j + 1)) := HM.out.right hj1 (fun h => absurd h hi1)
        have HBW := HB
        have HOW := HO
        have HRy := Lib.hid (HRRy.out _ HBW.out)
        have HVy := Lib.hid (HVVy.out _ HBW.out)
        generalize Y j = y at *
        go_wp2_with (first
          | ((with_reducible refine stopAt (o := ⟨some 61, _, _, _, _, _⟩) ?_); refine loadRange (o := ⟨some 61, _, _, _, _, _⟩) (by rfl) 45 (.tmp 60) rfl bby (oy + j * 34) (chC y Ay Cy) rfl HRy.out row_chg (by rw [size_chg, chC_length HKy.out.2]) ?_)
          | ((with_reducible refine stopAt (o := ⟨some 62, _, _, _, _, _⟩) ?_); refine buildSlice1 (o := ⟨some 62, _, _, _, _, _⟩) rfl w1 30 45 _ 34 (.tmp 61) rfl und_chl info_chg (by decide) (by decide) (chC y Ay Cy).toArray rfl (by rw [List.size_toArray, chC_length HKy.out.2]) ?_)
          | ((with_reducible refine stopAt (o := ⟨some 63, _, _, _, _, _⟩) ?_); refine append1C (o := ⟨some 63, _, _, _, _, _⟩) und_chl info_chg3 rfl w1 rfl (.tmp 57) (.tmp 62) rfl w.heap.size u5 (i + j) _ HOW.out.own (chC y Ay Cy) (chC_length HKy.out.2) chC_one rfl rfl (by omega) (by omega) HBW.out.size ?_; intro v3 w3 ho3 hg3 hl3; have HO3 := Lib.hid (HOW.out.more HKy.out HVy.out HAPy.out ho3 hg3 hl3); have HB3 : Hid (Below w.heap.size w w3) := HBW.out.grown hg3 HBW.out.size HOW.out.ge; clear ho3 hg3 hl3))
        go_roundw
        case rel => exact ⟨i, j + 1, by omega, by omega, by go_num, by go_num, ⟨_, _, _, by show ChsOwn _ _ _ _ _ _ _; have h := HO3.out; rwa [show i + j + 1 = i + j + 1 by omega] at h, HMn.out⟩, HB3.out⟩
        case measure => simp [intOf]; omega
      · have hj2 : ¬ (j : Int) < M := by omega
        obtain rfl : i = N := by omega
        obtain rfl : j = M := by omega
        go_wp2_with fail
        go_ret
        exact ⟨_, _, _, rfl, HO.out.congr HM.out.done, HB.out⟩
end Go.Proofs.Ytkpbeibcfaenhaa
