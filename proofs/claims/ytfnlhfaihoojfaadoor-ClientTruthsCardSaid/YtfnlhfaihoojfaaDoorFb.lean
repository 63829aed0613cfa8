/- RefKeys, BatN, NumK, SortN, CopyC, Merged (merged) -/
import Derived.Test.YtfnlhfaihoojfaaDoorFa
import Derived.Test.YtfnlhfaihoojfaaDoorKeys
/- ledgerref3.Bit, Common, Compare. -/
namespace Go.Proofs.YtfnlhfaihoojfaaDoor
open Go.RowKit
theorem half_next {x j i : Nat} (h : i ≤ j) : x / 2 ^ (j - i) / 2 = x / 2 ^ (j + 1 - i) := by
  rw [show j + 1 - i = (j - i) + 1 by omega, Nat.pow_succ, Nat.div_div_eq_div_mul]
set_option maxRecDepth 100000 in
theorem refbit_in (ks : List Nat) (i : Nat) (w : World) (hB : IsB ks) (hl : ks.length = 32) (hi : i < 256) :
    Calls Tryd.prog 72 #[.agg (bvs ks).toArray, .int .i64 i] w fun e w' => e = .returned (.int .i64 (bitK ks i : Nat)) ∧ Below w.heap.size w w' := by
  have hc := BlkB.cell (BlkIs.new w 31 (bvs ks).toArray : BlkB _ _ _ ks) (i := i / 8) (by omega)
  have hx8 := byte_at hB (i / 8)
  have HBK : Hid (bitK ks i = ks.getD (i / 8) 0 / 2 ^ (7 - i % 8) % 2) := rfl
  have HW := Lib.hid ((Below.refl w.heap.size w).alloc (Nat.le_refl _) (.cells (bvs ks).toArray 31))
  clear hB hl
  generalize ks.getD (i / 8) 0 = x at *
  generalize bitK ks i = z at *
  generalize hww : w.alloc (.cells (bvs ks).toArray 31) = w1 at *
  have hq : ((i : Int).tdiv 8) = ((i / 8 : Nat) : Int) := by rw [Int.tdiv_eq_ediv_of_nonneg (by omega)]; rfl
  have hr : ((i : Int).tmod 8) = ((i % 8 : Nat) : Int) := by rw [Int.tmod_eq_emod_of_nonneg (by omega)]; rfl
  have h00 : ¬ (i : Int) < 0 := by omega
  have h255 : ¬ (255 : Int) < (i : Int) := by omega
  go_enter Tryd.func72, Tryd.ntmps72
  go_wp2_with fail
  clear hq hr h00 h255 hc hww
  go_loopw [5, 6] (fun v j wr => ∃ k : Nat, i % 8 ≤ k ∧ k ≤ 7 ∧ j = .int .i64 k ∧ v = .int .i64 ((x / 2 ^ (k - i % 8) : Nat) : Int) ∧ wr = w1) (fun _ j _ => 8 - (intOf j).toNat)
  case atStart => exact ⟨i % 8, by omega, by omega, rfl, by rw [Nat.sub_self]; simp, rfl⟩
  case round =>
    obtain ⟨k, hk1, hk2, rfl, rfl, rfl⟩ := hrel
    have hd8 : x / 2 ^ (k - i % 8) < 256 := Nat.lt_of_le_of_lt (Nat.div_le_self _ _) hx8
    by_cases hlt : k < 7
    · have HN := Lib.hid (half_next (x := x) hk1)
      have hlt' : (k : Int) < 7 := by omega
      generalize x / 2 ^ (k - i % 8) = y at *
      have hq2 : ((y : Int).tdiv 2) = ((y / 2 : Nat) : Int) := by rw [Int.tdiv_eq_ediv_of_nonneg (by omega)]; rfl
      go_wp2_with fail
      go_roundw
      case rel => exact ⟨k + 1, by omega, by omega, by go_num, by rw [← HN.out]; simp, trivial⟩
      case measure => simp [intOf]; omega
    · obtain rfl : k = 7 := by omega
      generalize x / 2 ^ (7 - i % 8) = y at *
      have hr2 : ((y : Int).tmod 2) = ((y % 2 : Nat) : Int) := by rw [Int.tmod_eq_emod_of_nonneg (by omega)]; rfl
      go_wp2_with fail
      go_ret
      exact ⟨by rw [HBK.out]; simp, HW.out⟩
theorem refbit_out (ks : List Nat) (i : Int) (w : World) (hi : i < 0 ∨ 256 ≤ i) :
    Calls Tryd.prog 72 #[.agg (bvs ks).toArray, .int .i64 i] w fun e w' => e = .returned (.int .i64 0) ∧ Below w.heap.size w w' := by
  go_enter Tryd.func72, Tryd.ntmps72
  go_wp2_with fail
  all_goals
    go_ret
    exact ⟨rfl, (Below.refl _ _).alloc (Nat.le_refl _) _⟩
set_option maxRecDepth 100000 in
set_option maxHeartbeats 1600000 in
theorem refcommon_any (ds es : List Nat) (n : Nat) (w : World) (hB : IsB ds) (hl : ds.length = 32) (hB2 : IsB es) (hl2 : es.length = 32) (hn : n ≤ 256) (hs : ∀ j, j < n → bitK ds j = bitK es j) (hd : n < 256 → ¬ bitK ds n = bitK es n) :
    Calls Tryd.prog 85 #[.agg (bvs ds).toArray, .agg (bvs es).toArray] w fun e w' => e = .returned (.int .i64 n) ∧ Below w.heap.size w w' := by
  have HB := Lib.hid hB
  have HL := Lib.hid hl
  have HB2 := Lib.hid hB2
  have HL2 := Lib.hid hl2
  have HS := Lib.hid hs
  have HD := Lib.hid hd
  clear hB hl hB2 hl2 hs hd
  go_enter Tryd.func85, Tryd.ntmps85
  go_wp2_with (first
    | ((with_reducible refine stopAt (o := ⟨some 2, _, _, _, _, _⟩) ?_); refine boxNew (o := ⟨some 2, _, _, _, _, _⟩) (by rfl) 31 (.tmp 0) rfl _ rfl ?_; intro w1 HA1 HW1 HS1)
    | ((with_reducible refine stopAt (o := ⟨some 3, _, _, _, _, _⟩) ?_); refine boxNew (o := ⟨some 3, _, _, _, _, _⟩) (by rfl) 31 (.tmp 1) rfl _ rfl ?_; intro w2 HA2 HW2 HS2))
  have HX : Hid (BlkB w2 w.heap.size 31 ds) := BlkIs.below HA1.out HW2.out
  have HY : Hid (BlkB w2 w1.heap.size 31 es) := HA2.out
  have HW := Lib.hid (HW1.out.trans (HW2.out.mono HW1.out.size))
  clear HA1 HA2 HW1 HW2 HS1 HS2
  go_loopw [5] (fun i wr => ∃ k : Nat, k ≤ n ∧ i = .int .i64 k ∧ Hid (BlkB wr w.heap.size 31 ds) ∧ Hid (BlkB wr w1.heap.size 31 es) ∧ Hid (Below w.heap.size w wr)) (fun i _ => 257 - (intOf i).toNat)
  case atStart => exact ⟨0, by omega, rfl, HX.out, HY.out, HW.out⟩
  case round =>
    clear HX HY HW
    obtain ⟨k, hk, rfl, HX, HY, HW⟩ := hrel
    by_cases h256 : k < 256
    · have hk2 : (k : Int) < 256 := by omega
      go_wp2_with (refine wpList_load_arr (o := ⟨some 12, _, _, _, _, _⟩) (by rfl) 31 (.tmp 2) rfl ⟨w.heap.size, 0, none⟩ 32 ds rfl (HX.out.whole HB.out HL.out) (by omega) row_key size_key ?_)
      refine (refbit_in ds k wr HB.out HL.out h256).mono ?_
      rintro e w3 ⟨rfl, hb⟩
      have HX3 : Hid (BlkB w3 w.heap.size 31 ds) := BlkIs.below HX.out hb
      have HY3 : Hid (BlkB w3 w1.heap.size 31 es) := BlkIs.below HY.out hb
      have HW3 := Lib.hid (HW.out.trans (hb.mono HW.out.size))
      clear hb HX HY HW
      go_wp2_with (refine wpList_load_arr (o := ⟨some 15, _, _, _, _, _⟩) (by rfl) 31 (.tmp 3) rfl ⟨w1.heap.size, 0, none⟩ 32 es rfl (HY3.out.whole HB2.out HL2.out) (by omega) row_key size_key ?_)
      refine (refbit_in es k w3 HB2.out HL2.out h256).mono ?_
      rintro e w4 ⟨rfl, hb⟩
      have HX4 : Hid (BlkB w4 w.heap.size 31 ds) := BlkIs.below HX3.out hb
      have HY4 : Hid (BlkB w4 w1.heap.size 31 es) := BlkIs.below HY3.out hb
      have HW4 := Lib.hid (HW3.out.trans (hb.mono HW3.out.size))
      clear hb HX3 HY3 HW3
      by_cases hlt : k < n
      · have hs := HS.out k hlt
        rw [hs]
        clear hs
        generalize bitK es k = z
        go_wp2_with fail
        go_roundw
        case rel => exact ⟨k + 1, by omega, by go_num, HX4.out, HY4.out, HW4.out⟩
        case measure => simp [intOf]; omega
      · obtain rfl : k = n := by omega
        have hd := HD.out h256
        generalize bitK es k = z at *
        generalize bitK ds k = y at *
        have hne : ¬ (y : Int) = (z : Int) := by omega
        have hne2 : ((y : Int) != (z : Int)) = true := by rw [bne_iff_ne]; exact hne
        go_wp2_with fail
        go_ret
        exact ⟨rfl, HW4.out⟩
    · obtain rfl : k = 256 := by omega
      obtain rfl : n = 256 := by omega
      go_wp2_with fail
      go_ret
      exact ⟨rfl, HW.out⟩
set_option maxRecDepth 100000 in
set_option maxHeartbeats 1600000 in
theorem refcompare_any (ds es : List Nat) (n : Nat) (z : Int) (w : World) (hB : IsB ds) (hl : ds.length = 32) (hB2 : IsB es) (hl2 : es.length = 32) (hn : n ≤ 32) (hs : ∀ j, j < n → ds.getD j 0 = es.getD j 0) (hd : n < 32 → ¬ ds.getD n 0 = es.getD n 0)
    (h32 : n = 32 → z = 0) (hz : n < 32 → z = if ds.getD n 0 < es.getD n 0 then -1 else 1) :
    Calls Tryd.prog 30 #[.agg (bvs ds).toArray, .agg (bvs es).toArray] w fun e w' => e = .returned (.int .i64 z) ∧ Below w.heap.size w w' := by
  have HB := Lib.hid hB
  have HL := Lib.hid hl
  have HB2 := Lib.hid hB2
  have HL2 := Lib.hid hl2
  have HS := Lib.hid hs
  have HD := Lib.hid hd
  have HZ := Lib.hid hz
  have H32 := Lib.hid h32
  clear hB hl hB2 hl2 hs hd hz h32
  go_enter Tryd.func30, Tryd.ntmps30
  go_wp2_with (first
    | ((with_reducible refine stopAt (o := ⟨some 2, _, _, _, _, _⟩) ?_); refine boxNew (o := ⟨some 2, _, _, _, _, _⟩) (by rfl) 31 (.tmp 0) rfl _ rfl ?_; intro w1 HA1 HW1 HS1)
    | ((with_reducible refine stopAt (o := ⟨some 3, _, _, _, _, _⟩) ?_); refine boxNew (o := ⟨some 3, _, _, _, _, _⟩) (by rfl) 31 (.tmp 1) rfl _ rfl ?_; intro w2 HA2 HW2 HS2))
  have HX : Hid (BlkB w2 w.heap.size 31 ds) := BlkIs.below HA1.out HW2.out
  have HY : Hid (BlkB w2 w1.heap.size 31 es) := HA2.out
  have HW := Lib.hid (HW1.out.trans (HW2.out.mono HW1.out.size))
  clear HA1 HA2 HW1 HW2 HS1 HS2
  go_loopw [5] (fun i wr => ∃ k : Nat, k ≤ n ∧ i = .int .i64 k ∧ Hid (BlkB wr w.heap.size 31 ds) ∧ Hid (BlkB wr w1.heap.size 31 es) ∧ Hid (Below w.heap.size w wr)) (fun i _ => 33 - (intOf i).toNat)
  case atStart => exact ⟨0, by omega, rfl, HX.out, HY.out, HW.out⟩
  case round =>
    clear HX HY HW
    obtain ⟨k, hk, rfl, HX, HY, HW⟩ := hrel
    by_cases h32 : k < 32
    · have hk2 : (k : Int) < 32 := by omega
      have hc1 := HX.out.cell (i := k) (by rw [HL.out]; omega)
      have hc2 := HY.out.cell (i := k) (by rw [HL2.out]; omega)
      by_cases hlt : k < n
      · have hs := HS.out k hlt
        rw [hs] at hc1
        clear hs
        generalize es.getD k 0 = y at *
        go_wp2_with fail
        go_quiet (fail)
        go_wp2_with fail
        go_roundw
        case rel => exact ⟨k + 1, by omega, by go_num, HX.out, HY.out, drewN_below HW.out _⟩
        case measure => simp [intOf]; omega
      · obtain rfl : k = n := by omega
        have hd := HD.out h32
        have hz := HZ.out h32
        generalize es.getD k 0 = y at *
        generalize ds.getD k 0 = x at *
        have hne : ¬ (x : Int) = (y : Int) := by omega
        have hne2 : ((x : Int) != (y : Int)) = true := by rw [bne_iff_ne]; exact hne
        by_cases hxy : x < y
        · rw [if_pos hxy] at hz
          have hxy2 : decide ((x : Int) < (y : Int)) = true := decide_eq_true (by omega)
          subst hz
          go_wp2_with fail
          go_quiet (fail)
          go_wp2_with fail
          go_quiet (fail)
          go_wp2_with fail
          go_ret
          exact ⟨rfl, drewN_below (drewN_below HW.out _) _⟩
        · rw [if_neg hxy] at hz
          have hxy2 : decide ((x : Int) < (y : Int)) = false := decide_eq_false (by omega)
          subst hz
          go_wp2_with fail
          go_quiet (fail)
          go_wp2_with fail
          go_quiet (fail)
          go_wp2_with fail
          go_ret
          exact ⟨rfl, drewN_below (drewN_below HW.out _) _⟩
    · have hk32 : k = 32 := by omega
      have hz := H32.out (by omega)
      subst hz
      have hk2 : ¬ (k : Int) < 32 := by omega
      go_wp2_with fail
      go_ret
      exact ⟨rfl, HW.out⟩
end Go.Proofs.YtfnlhfaihoojfaaDoor

/- What Build answers, in plain Lean. -/
namespace Go.Proofs.YtfnlhfaihoojfaaDoor
def long (x : Chg) : Bool := !x.del && decide (128 < x.val.length)
def anyLong (X : Nat → Chg) : Nat → Bool
  | 0 => false
  | n + 1 => anyLong X n || long (X n)
theorem anyLong_at {X : Nat → Chg} {n k : Nat} (h : k < n) (hl : long (X k) = true) : anyLong X n = true := by
  induction n with
  | zero => omega
  | succ n ih =>
    rw [anyLong]
    by_cases e : k = n
    · subst e; rw [hl, Bool.or_true]
    · rw [ih (by omega), Bool.true_or]
theorem anyLong_not {X : Nat → Chg} {n : Nat} (h : anyLong X n = false) {k : Nat} (hk : k < n) : long (X k) = false := by
  cases hl : long (X k) with
  | false => rfl
  | true => rw [anyLong_at hk hl] at h; cases h
def heldN (X : Nat → Chg) (n most : Nat) : Nat := if most < n then 31 else if anyLong X n then 32 else 0
/-- Has one of the first j changes the key k? -/
def hasKey (X : Nat → Chg) (k : List Nat) : Nat → Bool
  | 0 => false
  | j + 1 => hasKey X k j || decide (k = (X j).key)
theorem hasKey_at {X : Nat → Chg} {k : List Nat} {n j : Nat} (h : j < n) (hl : k = (X j).key) : hasKey X k n = true := by
  induction n with
  | zero => omega
  | succ n ih =>
    rw [hasKey]
    by_cases e : j = n
    · subst e; rw [decide_eq_true hl, Bool.or_true]
    · rw [ih (by omega), Bool.true_or]
/-- The number of the first change whose key an earlier one has; -1: there is none. -/
def repN (X : Nat → Chg) : Nat → Int
  | 0 => -1
  | n + 1 => if 0 ≤ repN X n then repN X n else if hasKey X (X n).key n then n else -1
theorem repN_keep {X : Nat → Chg} {k n : Nat} (h : k ≤ n) (h0 : 0 ≤ repN X k) : repN X n = repN X k := by
  induction n with
  | zero => rw [show k = 0 by omega]
  | succ n ih =>
    by_cases e : k = n + 1
    · rw [e]
    · rw [repN, ih (by omega), if_pos h0]
theorem repN_first {X : Nat → Chg} {k : Nat} (h0 : repN X k < 0) (hd : hasKey X (X k).key k = true) : repN X (k + 1) = k := by
  rw [repN, if_neg (by omega), if_pos hd]
theorem repN_none {X : Nat → Chg} {k : Nat} (h0 : repN X k < 0) (hd : hasKey X (X k).key k = false) : repN X (k + 1) < 0 := by
  rw [repN, if_neg (by omega), hd]
  simp
theorem repN_neg {X : Nat → Chg} {k : Nat} (h : repN X k < 0) : repN X k = -1 := by
  induction k with
  | zero => rfl
  | succ k ih =>
    rw [repN] at h ⊢
    split
    · rename_i h1
      rw [if_pos h1] at h
      omega
    · rename_i h1
      rw [if_neg h1] at h
      split
      · rename_i h2
        rw [if_pos h2] at h
        omega
      · rfl
/-- The bytes of a change. -/
def chB (x : Chg) : List Nat := if x.del then 2 :: x.key else 1 :: (x.key ++ (x.val.length % 256 :: x.val.length / 256 % 256 :: x.val))
def layF (X : Nat → Chg) : Nat → List Nat
  | 0 => []
  | n + 1 => layF X n ++ chB (X n)
def layN (X : Nat → Chg) (n : Nat) : List Nat := n % 256 :: n / 256 % 256 :: layF X n
def buildE (X : Nat → Chg) (n : Nat) : Nat := if heldN X n 64 = 0 then (if 0 ≤ repN X n then 33 else 0) else heldN X n 64
theorem heldN_le {X : Nat → Chg} {n m : Nat} (h : heldN X n m = 0) : n ≤ m ∧ anyLong X n = false := by
  unfold heldN at h
  split at h
  · omega
  · split at h
    · omega
    · rename_i h1 h2
      exact ⟨by omega, by simpa using h2⟩
theorem chB_length {x : Chg} (hk : x.key.length = 32) (hl : long x = false) : (chB x).length ≤ 163 := by
  unfold chB
  cases hd : x.del with
  | true => simp [hk]
  | false =>
    have : x.val.length ≤ 128 := by
      unfold long at hl
      rw [hd] at hl
      simpa using hl
    simp [hk]
    omega
theorem layF_length {X : Nat → Chg} {n : Nat} (hk : ∀ i, i < n → (X i).key.length = 32) (hl : anyLong X n = false) : (layF X n).length ≤ n * 163 := by
  induction n with
  | zero => simp [layF]
  | succ n ih =>
    have h1 := chB_length (hk n (by omega)) (anyLong_not hl (Nat.lt_succ_self n))
    have h2 := ih (fun i hi => hk i (by omega)) (by
      cases h : anyLong X n with
      | false => rfl
      | true => rw [anyLong, h] at hl; cases hl)
    rw [layF, List.length_append]
    omega
end Go.Proofs.YtfnlhfaihoojfaaDoor

/- Keys as numbers: the order of keys is that of numbers. -/
namespace Go.Proofs.YtfnlhfaihoojfaaDoor
open Go.RowKit
def numK : List Nat → Nat
  | [] => 0
  | x :: xs => x * 256 ^ xs.length + numK xs
theorem numK_lt : ∀ {xs : List Nat}, IsB xs → numK xs < 256 ^ xs.length
  | [], _ => by simp [numK]
  | x :: xs, h => by
    have h1 := numK_lt (xs := xs) (fun y hy => h y (List.mem_cons_of_mem _ hy))
    have h2 : x < 256 := h x List.mem_cons_self
    have h3 : x * 256 ^ xs.length ≤ 255 * 256 ^ xs.length := Nat.mul_le_mul_right _ (by omega)
    simp only [numK, List.length_cons, Nat.pow_succ]
    omega
theorem numK_less : ∀ (xs ys : List Nat) (i : Nat), IsB xs → IsB ys → xs.length = ys.length → i < xs.length → (∀ j, j < i → xs.getD j 0 = ys.getD j 0) → xs.getD i 0 < ys.getD i 0 → numK xs < numK ys
  | [], _, i, _, _, _, hi, _, _ => by simp at hi
  | _ :: _, [], i, _, _, hl, _, _, _ => by simp at hl
  | x :: xs, y :: ys, 0, hx, hy, hl, _, _, h => by
    have h1 := numK_lt (xs := xs) (fun z hz => hx z (List.mem_cons_of_mem _ hz))
    simp only [List.length_cons, Nat.add_right_cancel_iff] at hl
    simp only [List.getD_cons_zero] at h
    have h3 : (x + 1) * 256 ^ xs.length ≤ y * 256 ^ xs.length := Nat.mul_le_mul_right _ (by omega)
    rw [Nat.add_mul] at h3
    simp only [numK, ← hl]
    omega
  | x :: xs, y :: ys, i + 1, hx, hy, hl, hi, hs, h => by
    simp only [List.length_cons, Nat.add_right_cancel_iff] at hl
    simp only [List.length_cons] at hi
    have h0 := hs 0 (by omega)
    simp only [List.getD_cons_zero] at h0
    have h1 := numK_less xs ys i (fun z hz => hx z (List.mem_cons_of_mem _ hz)) (fun z hz => hy z (List.mem_cons_of_mem _ hz)) hl (by omega) (fun j hj => by
      have := hs (j + 1) (by omega)
      simpa using this) (by simpa using h)
    simp only [numK, ← hl, h0]
    omega
theorem numK_inj {xs ys : List Nat} (hx : IsB xs) (hy : IsB ys) (hl : xs.length = 32) (hl2 : ys.length = 32) (h : numK xs = numK ys) : xs = ys := by
  refine Classical.byContradiction fun hne => ?_
  obtain ⟨i, hi, hs, hd⟩ := diff_of hl hl2 hne
  rcases Nat.lt_or_gt_of_ne hd with h1 | h1
  · have := numK_less xs ys i hx hy (by omega) (by omega) hs h1
    omega
  · have := numK_less ys xs i hy hx (by omega) (by omega) (fun j hj => (hs j hj).symm) h1
    omega
def cmpZ (a b : Nat) : Int := if a < b then -1 else if b < a then 1 else 0
theorem refcompare_num (ds es : List Nat) (w : World) (hB : IsB ds) (hl : ds.length = 32) (hB2 : IsB es) (hl2 : es.length = 32) :
    Calls Tryd.prog 30 #[.agg (bvs ds).toArray, .agg (bvs es).toArray] w fun e w' => e = .returned (.int .i64 (cmpZ (numK ds) (numK es))) ∧ Below w.heap.size w w' := by
  by_cases h : ds = es
  · subst h
    exact refcompare_any ds ds 32 _ w hB hl hB hl (Nat.le_refl _) (fun _ _ => rfl) (fun h => by omega) (fun _ => by unfold cmpZ; simp) (fun h => by omega)
  · obtain ⟨d, hd⟩ := diff_of hl hl2 h
    refine refcompare_any ds es d _ w hB hl hB2 hl2 (by have := hd.1; omega) hd.2.1 (fun _ => hd.2.2) (fun e => by have := hd.1; omega) (fun _ => ?_)
    by_cases hlt : ds.getD d 0 < es.getD d 0
    · have := numK_less ds es d hB hB2 (by omega) (by have := hd.1; omega) hd.2.1 hlt
      unfold cmpZ
      rw [if_pos this, if_pos hlt]
    · have := numK_less es ds d hB2 hB (by omega) (by have := hd.1; omega) (fun j hj => (hd.2.1 j hj).symm) (by have := hd.2.2; omega)
      unfold cmpZ
      rw [if_neg (by omega), if_pos this, if_neg hlt]
end Go.Proofs.YtfnlhfaihoojfaaDoor

/- Lists of changes in order, in plain Lean. -/
namespace Go.Proofs.YtfnlhfaihoojfaaDoor
def lst (X : Nat → Chg) (n : Nat) : List Chg := (List.range n).map X
def fnOf (l : List Chg) : Nat → Chg := fun i => l.getD i default
theorem lst_length (X : Nat → Chg) (n : Nat) : (lst X n).length = n := by simp [lst]
theorem lst_getD {X : Nat → Chg} {n i : Nat} (h : i < n) : (lst X n).getD i default = X i := by
  simp [lst, List.getD, List.getElem?_map, List.getElem?_range h]
theorem lst_fnOf (l : List Chg) : lst (fnOf l) l.length = l := by
  apply List.ext_getElem?
  intro i
  rcases Nat.lt_or_ge i l.length with h | h
  · simp [lst, fnOf, List.getElem?_map, List.getElem?_range h, List.getD, List.getElem?_eq_getElem h]
  · rw [List.getElem?_eq_none (by rw [lst_length]; exact h), List.getElem?_eq_none h]
theorem lst_succ (X : Nat → Chg) (n : Nat) : lst X (n + 1) = lst X n ++ [X n] := by simp [lst, List.range_succ]
theorem lst_congr {X Y : Nat → Chg} {n : Nat} (h : ∀ i, i < n → X i = Y i) : lst X n = lst Y n := by
  unfold lst
  exact List.map_congr_left fun i hi => h i (List.mem_range.1 hi)
theorem mem_lst {X : Nat → Chg} {n : Nat} {x : Chg} : x ∈ lst X n ↔ ∃ i, i < n ∧ X i = x := by simp [lst]
theorem lst_add (X : Nat → Chg) (h n : Nat) : lst X (h + n) = lst X h ++ lst (fun i => X (h + i)) n := by
  induction n with
  | zero => simp [lst]
  | succ n ih => rw [← Nat.add_assoc, lst_succ, ih, lst_succ, List.append_assoc]
/-- The change as it is answered. -/
def plainC (x : Chg) : Chg := if x.del then ⟨x.key, true, []⟩ else x
theorem plainC_key (x : Chg) : (plainC x).key = x.key := by
  unfold plainC
  split <;> rfl
def ordC (a b : Chg) : Prop := numK a.key ≤ numK b.key
def leC (a b : Chg) : Bool := decide (numK a.key ≤ numK b.key)
theorem leC_iff (a b : Chg) : leC a b = true ↔ ordC a b := by simp [leC, ordC]
def Sorted (l : List Chg) : Prop := l.Pairwise ordC
theorem sorted_merge {a b : List Chg} (ha : Sorted a) (hb : Sorted b) : Sorted (a.merge b leC) := by
  have h := List.pairwise_merge (le := leC) (fun x y z h1 h2 => by simp [leC] at *; omega) (fun x y => by simp [leC]; omega) a b (ha.imp fun h => (leC_iff _ _).2 h) (hb.imp fun h => (leC_iff _ _).2 h)
  exact h.imp fun h => (leC_iff _ _).1 h
/-- Two lists at the places i and j. -/
theorem merge_none {l : List Chg} : List.merge [] l leC = l ∧ List.merge l [] leC = l := by simp
theorem merge_step {a b : List Chg} {x y : Chg} : List.merge (x :: a) (y :: b) leC = if numK x.key ≤ numK y.key then x :: List.merge a (y :: b) leC else y :: List.merge (x :: a) b leC := by
  rw [List.cons_merge_cons]
  simp [leC]
def GoodK (x : Chg) : Prop := IsB x.key ∧ x.key.length = 32
theorem sorted_at {l : List Chg} (h : Sorted l) {i j : Nat} (hij : i < j) (hj : j < l.length) : numK (l.getD i default).key ≤ numK (l.getD j default).key := by
  have := List.pairwise_iff_getElem.1 h i j (by omega) hj hij
  simpa [List.getD, List.getElem?_eq_getElem hj, List.getElem?_eq_getElem (show i < l.length by omega), ordC] using this
/-- Is a key at the places i - 1 and i, for an i below n? -/
def adjS (l : List Chg) : Nat → Bool
  | 0 => false
  | n + 1 => adjS l n || (decide (0 < n) && decide ((l.getD n default).key = (l.getD (n - 1) default).key))
theorem adjS_at {l : List Chg} {n i : Nat} (h : i < n) (h0 : 0 < i) (he : (l.getD i default).key = (l.getD (i - 1) default).key) : adjS l n = true := by
  induction n with
  | zero => omega
  | succ n ih =>
    rw [adjS]
    by_cases e : i = n
    · subst e; rw [decide_eq_true h0, decide_eq_true he]; simp
    · rw [ih (by omega), Bool.true_or]
theorem adjS_of {l : List Chg} {n : Nat} (h : adjS l n = true) : ∃ i, 0 < i ∧ i < n ∧ (l.getD i default).key = (l.getD (i - 1) default).key := by
  induction n with
  | zero => simp [adjS] at h
  | succ n ih =>
    rw [adjS, Bool.or_eq_true, Bool.and_eq_true] at h
    rcases h with h | ⟨h1, h2⟩
    · obtain ⟨i, a, b, c⟩ := ih h
      exact ⟨i, a, by omega, c⟩
    · exact ⟨n, of_decide_eq_true h1, by omega, of_decide_eq_true h2⟩
def keysOf (l : List Chg) : List (List Nat) := l.map (·.key)
theorem nodup_rep {X : Nat → Chg} {n : Nat} : 0 ≤ repN X n ↔ ¬ (keysOf (lst X n)).Nodup := by
  induction n with
  | zero => simp [repN, lst, keysOf]
  | succ n ih =>
    have hk : ∀ m, hasKey X (X n).key m = true ↔ ∃ i, i < m ∧ (X n).key = (X i).key := fun m => by
      induction m with
      | zero => simp [hasKey]
      | succ m ihm =>
        rw [hasKey, Bool.or_eq_true, ihm]
        constructor
        · rintro (⟨i, h1, h2⟩ | h)
          · exact ⟨i, by omega, h2⟩
          · exact ⟨m, by omega, of_decide_eq_true h⟩
        · rintro ⟨i, h1, h2⟩
          by_cases e : i = m
          · subst e; exact .inr (decide_eq_true h2)
          · exact .inl ⟨i, by omega, h2⟩
    have hs : keysOf (lst X (n + 1)) = keysOf (lst X n) ++ [(X n).key] := by simp [keysOf, lst_succ]
    have hm : (X n).key ∈ keysOf (lst X n) ↔ hasKey X (X n).key n = true := by
      rw [hk]
      simp [keysOf, lst, eq_comm]
    rw [hs, List.nodup_append, repN]
    by_cases h1 : 0 ≤ repN X n
    · rw [if_pos h1]
      exact ⟨fun _ h => (ih.1 h1) h.1, fun _ => h1⟩
    · rw [if_neg h1]
      have h2 : (keysOf (lst X n)).Nodup := Classical.byContradiction fun h => h1 (ih.2 h)
      by_cases h3 : hasKey X (X n).key n = true
      · rw [if_pos h3]
        refine ⟨fun _ h => h.2.2 _ (hm.2 h3) _ (by simp) rfl, fun _ => by omega⟩
      · rw [if_neg h3]
        refine ⟨fun h => absurd h (by decide), fun h => absurd ⟨h2, by simp, fun a ha b hb => ?_⟩ h⟩
        simp at hb
        subst hb
        exact fun e => h3 (hm.1 (e ▸ ha))
theorem nodup_perm {a b : List Chg} (h : a.Perm b) : (keysOf a).Nodup ↔ (keysOf b).Nodup := (h.map _).nodup_iff
theorem adjS_keys {l : List Chg} (h : Sorted l) (hg : ∀ x, x ∈ l → GoodK x) : adjS l l.length = true ↔ ¬ (keysOf l).Nodup := by
  have hmem : ∀ i, i < l.length → l.getD i default ∈ l := fun i hi => by
    rw [List.getD, List.getElem?_eq_getElem hi]
    exact List.getElem_mem hi
  have hkey : ∀ i (hi : i < l.length), (keysOf l)[i]'(by simpa [keysOf] using hi) = (l.getD i default).key := fun i hi => by
    simp [keysOf, List.getD, List.getElem?_eq_getElem hi]
  constructor
  · intro ha hn
    obtain ⟨i, h0, hi, he⟩ := adjS_of ha
    have := List.pairwise_iff_getElem.1 hn (i - 1) i (by simp [keysOf]; omega) (by simpa [keysOf] using hi) (by omega)
    rw [hkey _ (by omega), hkey _ hi] at this
    exact this he.symm
  · intro hn
    cases hc : adjS l l.length with
    | true => rfl
    | false =>
      exfalso
      apply hn
      refine List.pairwise_iff_getElem.2 fun i j hi hj hij e => ?_
      have hi' : i < l.length := by simpa [keysOf] using hi
      have hj' : j < l.length := by simpa [keysOf] using hj
      rw [hkey _ hi', hkey _ hj'] at e
      have h1 : numK (l.getD (j - 1) default).key ≤ numK (l.getD j default).key := sorted_at h (by omega) hj'
      have h2 : numK (l.getD i default).key ≤ numK (l.getD (j - 1) default).key := by
        by_cases e2 : i = j - 1
        · rw [← e2]; exact Nat.le_refl _
        · exact sorted_at h (by omega) (by omega)
      have g1 := hg _ (hmem _ hj')
      have g2 := hg _ (hmem (j - 1) (by omega))
      have e3 : (l.getD j default).key = (l.getD (j - 1) default).key := numK_inj g1.1 g2.1 g1.2 g2.2 (by rw [e] at h2; omega)
      rw [adjS_at hj' (by omega) e3] at hc
      cases hc
/-- Two lists in order with the same content and no key twice are one. -/
theorem sorted_unique : ∀ {a b : List Chg}, a.Perm b → Sorted a → Sorted b → (∀ x, x ∈ a → GoodK x) → (keysOf a).Nodup → a = b
  | [], b, hp, _, _, _, _ => by rw [List.nil_perm.1 hp]
  | x :: a, b, hp, ha, hb, hg, hn => by
    cases b with
    | nil => exact absurd hp.length_eq (by simp)
    | cons y b =>
      have hxy : x = y := by
        have hx : x ∈ y :: b := hp.subset List.mem_cons_self
        have hy : y ∈ x :: a := hp.symm.subset List.mem_cons_self
        rcases List.mem_cons.1 hx with h | h
        · exact h
        · rcases List.mem_cons.1 hy with h' | h'
          · exact h'.symm
          · have h1 := (List.pairwise_cons.1 hb).1 x h
            have h2 := (List.pairwise_cons.1 ha).1 y h'
            have g1 := hg x List.mem_cons_self
            have g2 := hg y (List.mem_cons_of_mem _ h')
            have e := numK_inj g1.1 g2.1 g1.2 g2.2 (by unfold ordC at h1 h2; omega)
            have h3 := (List.pairwise_cons.1 hn).1 y.key (List.mem_map_of_mem (f := (·.key)) h')
            exact absurd e h3
      subst hxy
      have := sorted_unique (List.perm_cons _ |>.1 hp) (List.pairwise_cons.1 ha).2 (List.pairwise_cons.1 hb).2 (fun z hz => hg z (List.mem_cons_of_mem _ hz)) (List.pairwise_cons.1 hn).2
      rw [this]
end Go.Proofs.YtfnlhfaihoojfaaDoor

/- ledgerlaw3.copyChanges. -/
namespace Go.Proofs.YtfnlhfaihoojfaaDoor
open Go.RowKit
theorem own_max {e : TypeId} {w : World} {base n c : Nat} {A : Option Addr} {xs : List Nat} (h : Own e w base (.slice A n c) xs) : c ≤ maxLen := by
  rcases h.1.2 with ⟨e1, _⟩ | ⟨g, cap, cur, e1, _, _, _, hm, _⟩
  · injection e1 with _ _ e3
    rw [e3]
    exact Nat.zero_le _
  · injection e1 with _ _ e3
    rw [e3]
    exact hm
/-- A list of changes in new memory. -/
def ChsRet (N : Nat) (X : Nat → Chg) (w : World) (e : Ending) (w' : World) : Prop := ∃ v Ad Cp, e = .returned v ∧ ChsOwn w' w.heap.size v N X Ad Cp ∧ Below w.heap.size w w'
end Go.Proofs.YtfnlhfaihoojfaaDoor

/- ledgerref3.merged. (printed by gen_merged.py) -/
namespace Go.Proofs.YtfnlhfaihoojfaaDoor
open Go.RowKit
theorem ChsOwn.congr {w : World} {base n : Nat} {v : Value} {X X' : Nat → Chg} {Ad : Nat → Option Addr} {Cp : Nat → Nat} (h : ChsOwn w base v n X Ad Cp) (he : ∀ i, i < n → X i = X' i) : ChsOwn w base v n X' Ad Cp :=
  { own := by rw [← flatX_congr (X := X) (Ad := Ad) (Cp := Cp) fun i hi => ⟨he i hi, rfl, rfl⟩]; exact h.own
    key := fun i hi => by rw [← he i hi]; exact h.key i hi
    val := fun i hi => by rw [← he i hi]; exact h.val i hi
    apart := fun i hi => by rw [← he i hi]; exact h.apart i hi }
theorem lst_upd (Z : Nat → Chg) (n : Nat) (x : Chg) : lst (upd Z n x) (n + 1) = lst Z n ++ [x] := by
  rw [lst_succ, upd_same, lst_congr (Y := Z) fun i hi => upd_other _ _ (by omega)]
theorem lst_drop {X : Nat → Chg} {n i : Nat} (h : i < n) : (lst X n).drop i = X i :: (lst X n).drop (i + 1) := by
  rw [List.drop_eq_getElem_cons (by rw [lst_length]; exact h)]
  congr 1
  simp [lst]
theorem lst_out {X : Nat → Chg} {n i : Nat} (h : n ≤ i) : (lst X n).drop i = [] := List.drop_of_length_le (by rw [lst_length]; exact h)
theorem merge_length (a b : List Chg) : (a.merge b leC).length = a.length + b.length := by simp
/-- How far the merging is. -/
def MergI (X Y Z : Nat → Chg) (N M i j : Nat) : Prop := (lst X N).merge (lst Y M) leC = lst Z (i + j) ++ ((lst X N).drop i).merge ((lst Y M).drop j) leC
theorem MergI.left {X Y Z : Nat → Chg} {N M i j : Nat} (h : MergI X Y Z N M i j) (hi : i < N) (hj : j < M → numK (X i).key ≤ numK (Y j).key) : MergI X Y (upd Z (i + j) (X i)) N M (i + 1) j := by
  unfold MergI at *
  rw [show i + 1 + j = (i + j) + 1 by omega, lst_upd, h, List.append_assoc]
  congr 1
  rw [lst_drop hi]
  by_cases hj' : j < M
  · rw [lst_drop hj', merge_step, if_pos (hj hj')]
    rfl
  · rw [lst_out (X := Y) (by omega), merge_none.2, merge_none.2]
    rfl
theorem MergI.right {X Y Z : Nat → Chg} {N M i j : Nat} (h : MergI X Y Z N M i j) (hj : j < M) (hi : i < N → ¬ numK (X i).key ≤ numK (Y j).key) : MergI X Y (upd Z (i + j) (Y j)) N M i (j + 1) := by
  unfold MergI at *
  rw [show i + (j + 1) = (i + j) + 1 by omega, lst_upd, h, List.append_assoc]
  congr 1
  rw [lst_drop hj]
  by_cases hi' : i < N
  · rw [lst_drop hi', merge_step, if_neg (hi hi')]
    rfl
  · rw [lst_out (X := X) (by omega), merge_none.1, merge_none.1]
    rfl
theorem MergI.done {X Y Z : Nat → Chg} {N M : Nat} (h : MergI X Y Z N M N M) : ∀ k, k < N + M → Z k = fnOf ((lst X N).merge (lst Y M) leC) k := fun k hk => by
  unfold MergI at h
  rw [lst_out (Nat.le_refl _), lst_out (Nat.le_refl _), merge_none.1, List.append_nil] at h
  rw [h, fnOf, lst_getD hk]
theorem cmpZ_le (a b : Nat) : cmpZ a b ≤ 0 ↔ a ≤ b := by
  unfold cmpZ
  split
  · simp; omega
  · split
    · simp; omega
    · simp; omega
set_option maxRecDepth 100000 in
set_option maxHeartbeats 4000000 in
theorem merged_any (A B : Option Addr) (N M c d : Nat) (X Y : Nat → Chg) (w : World) (hx : ChsAt w A N X) (hy : ChsAt w B M Y) (hn : (N + M) * 64 ≤ 140737488355328) :
    Calls Tryd.prog 69 #[.slice A N c, .slice B M d] w (ChsRet (N + M) (fnOf ((lst X N).merge (lst Y M) leC)) w) := by
  have HX := Lib.hid hx
  have HY := Lib.hid hy
  have hu := und_key
  clear hx hy
  go_enter Tryd.func69, Tryd.ntmps69
  go_wp2_with fail
  go_loopw [5, 6, 7] (fun v p q wr => ∃ i j : Nat, i ≤ N ∧ j ≤ M ∧ p = .int .i64 i ∧ q = .int .i64 j ∧ (∃ Z Ad Cp, Hid (ChsOwn wr w.heap.size v (i + j) Z Ad Cp) ∧ Hid (MergI X Y Z N M i j)) ∧ Hid (Below w.heap.size w wr)) (fun _ p q _ => (N - (intOf p).toNat) + (M - (intOf q).toNat))
  case atStart => exact ⟨0, 0, by omega, by omega, rfl, rfl, ⟨fun _ => default, fun _ => none, fun _ => 0, ChsOwn.nil _ _ _ _ _, (by show _ = _; simp [lst])⟩, Below.refl _ _⟩
  case round =>
    obtain ⟨i, j, hi, hj, rfl, rfl, ⟨Z, Ad, Cp, HO, HM⟩, HB⟩ := hrel
    obtain ⟨w1, rfl⟩ : ∃ w1, w1 = wr := ⟨_, rfl⟩
    by_cases hi1 : i < N
    · have hi2 : (i : Int) < N := by omega
      obtain ⟨bbx, ox, Ax, Cx, rfl, hbx, hrx, hkBx, hklx, hvrx, hvCx, hCmx, hnilx⟩ := HX.out.2 i hi1
      have HKx := Lib.hid (show IsB (X i).key ∧ (X i).key.length = 32 from ⟨hkBx, hklx⟩)
      have hszx : (Tryd.prog.info? 31).map (·.size) = some (bvs (X i).key).length := by rw [size_key]; simp [bvs, hklx]
      have HRRx : Hid (∀ W, Below w.heap.size w W → W.rangeAt bbx (ox + i * 34) (chC (X i) Ax Cx)) := fun W hW => range_below hW hbx hrx
      have HVVx : Hid (∀ W, Below w.heap.size w W → RB W Ax (X i).val.length (X i).val ∧ (X i).val.length ≤ Cx ∧ Cx ≤ maxLen ∧ (Ax = none → Cx = 0)) := fun W hW => ⟨hvrx.below hW, hvCx, hCmx, hnilx⟩
      have HAPx : Hid (0 < (X i).val.length → ∀ ad, Ax = some ad → some ad.block ≠ u5.ownBlock) := fun h0 ad e he => by
        obtain ⟨ad', e', q1, _⟩ := hvrx.2.2 h0
        rw [e] at e'
        injection e' with e'
        rw [← e'] at q1
        have q2 := HO.out.ge _ he.symm
        omega
      clear hbx hrx hkBx hklx hvrx hvCx hCmx hnilx
      by_cases hj1 : j < M
      · have hj2 : (j : Int) < M := by omega
        have hj3 : ¬ (M : Int) ≤ j := by omega
        have hj4 : decide ((M : Int) ≤ j) = false := decide_eq_false hj3
        obtain ⟨bby, oy, Ay, Cy, rfl, hby, hry, hkBy, hkly, hvry, hvCy, hCmy, hnily⟩ := HY.out.2 j hj1
        have HKy := Lib.hid (show IsB (Y j).key ∧ (Y j).key.length = 32 from ⟨hkBy, hkly⟩)
        have hszy : (Tryd.prog.info? 31).map (·.size) = some (bvs (Y j).key).length := by rw [size_key]; simp [bvs, hkly]
        have HRRy : Hid (∀ W, Below w.heap.size w W → W.rangeAt bby (oy + j * 34) (chC (Y j) Ay Cy)) := fun W hW => range_below hW hby hry
        have HVVy : Hid (∀ W, Below w.heap.size w W → RB W Ay (Y j).val.length (Y j).val ∧ (Y j).val.length ≤ Cy ∧ Cy ≤ maxLen ∧ (Ay = none → Cy = 0)) := fun W hW => ⟨hvry.below hW, hvCy, hCmy, hnily⟩
        have HAPy : Hid (0 < (Y j).val.length → ∀ ad, Ay = some ad → some ad.block ≠ u5.ownBlock) := fun h0 ad e he => by
          obtain ⟨ad', e', q1, _⟩ := hvry.2.2 h0
          rw [e] at e'
          injection e' with e'
          rw [← e'] at q1
          have q2 := HO.out.ge _ he.symm
          omega
        clear hby hry hkBy hkly hvry hvCy hCmy hnily
        have HML : Hid (numK (X i).key ≤ numK (Y j).key → MergI X Y (upd Z (i + j) (X i)) N M (i + 1) j) := fun h => HM.out.left hi1 (fun _ => h)
        have HMR : Hid (¬ numK (X i).key ≤ numK (Y j).key → MergI X Y (upd Z (i + j) (Y j)) N M i (j + 1)) := fun h => HM.out.right hj1 (fun _ => h)
        have KS : Hid (∀ W, Below w.heap.size w W → W.rangeAt bbx (ox + i * 34) (bvs (X i).key) ∧ W.rangeAt bby (oy + j * 34) (bvs (Y j).key)) := fun W hW => ⟨ch_key (HRRx.out W hW), ch_key (HRRy.out W hW)⟩
        generalize X i = x at *
        generalize Y j = y at *
        go_wp2_with fail
        rename_i KK hKK
        have HKK := Lib.hid hKK
        clear hKK
        refine wp_region_held_drew (S := fun w' => w'.rangeAt bbx (ox + i * 34) (bvs x.key) ∧ w'.rangeAt bby (oy + j * 34) (bvs y.key)) (by kernel_rfl) (KS.out _ (drewN_below HB.out 1)) fun hH => ?_
        refine wpAnyH_take (i := 0) (oi := ⟨some 34, _, _, _, _, _⟩) rfl (by kernel_rfl) (by kernel_rfl) (by kernel_rfl) (fun _ _ _ h => h) (Or.inl ⟨by rfl, fun w hw => by ((try dsimp only at hw); go_split_ands; go_simp; with_reducible rfl)⟩) (by assumption) ?_
        try simp only [Act.put, List.setIfInBounds_toArray, List.set_cons_zero, List.set_cons_succ]
        refine wpAnyH_take (i := 1) (oi := ⟨some 35, _, _, _, _, _⟩) rfl (by kernel_rfl) (by kernel_rfl) (by kernel_rfl) (fun _ _ _ h => h) (Or.inl ⟨by rfl, fun w hw => by ((try dsimp only at hw); go_split_ands; go_simp; with_reducible rfl)⟩) (by assumption) ?_
        try simp only [Act.put, List.setIfInBounds_toArray, List.set_cons_zero, List.set_cons_succ]
        refine wpAnyH_take (i := 2) (oi := ⟨some 36, _, _, _, _, _⟩) rfl (by kernel_rfl) (by kernel_rfl) (by kernel_rfl) (fun _ _ _ h => h) (Or.inl ⟨by rfl, fun w hw => by ((try dsimp only at hw); go_split_ands; go_simp; with_reducible rfl)⟩) (by assumption) ?_
        try simp only [Act.put, List.setIfInBounds_toArray, List.set_cons_zero, List.set_cons_succ]
        refine wpAnyH_take (i := 3) (oi := ⟨some 37, _, _, _, _, _⟩) rfl (by kernel_rfl) (by kernel_rfl) (by kernel_rfl) (fun _ _ _ h => h) (Or.inl ⟨by rfl, fun w hw => by ((try dsimp only at hw); go_split_ands; go_simp; with_reducible rfl)⟩) (by assumption) ?_
        try simp only [Act.put, List.setIfInBounds_toArray, List.set_cons_zero, List.set_cons_succ]
        refine wpAnyH_take (i := 4) (oi := ⟨some 38, _, _, _, _, _⟩) rfl (by kernel_rfl) (by kernel_rfl) (by kernel_rfl) (fun _ _ _ h => h) (yieldsIf_load_mid (by rfl) _ _ rfl _ _ rfl _ _ (fun w hw => by (try dsimp only at hw); go_split_ands; assumption) (by assumption) rfl (by assumption)) (by assumption) ?_
        try simp only [Act.put, List.setIfInBounds_toArray, List.set_cons_zero, List.set_cons_succ]
        refine wpAnyH_take (i := 5) (oi := ⟨some 39, _, _, _, _, _⟩) rfl (by kernel_rfl) (by kernel_rfl) (by kernel_rfl) (fun _ _ _ h => h) (Or.inl ⟨by rfl, fun w hw => by ((try dsimp only at hw); go_split_ands; go_simp; with_reducible rfl)⟩) (by assumption) ?_
        try simp only [Act.put, List.setIfInBounds_toArray, List.set_cons_zero, List.set_cons_succ]
        refine wpAnyH_take (i := 6) (oi := ⟨some 40, _, _, _, _, _⟩) rfl (by kernel_rfl) (by kernel_rfl) (by kernel_rfl) (fun _ _ _ h => h) (Or.inl ⟨by rfl, fun w hw => by ((try dsimp only at hw); go_split_ands; go_simp; with_reducible rfl)⟩) (by assumption) ?_
        try simp only [Act.put, List.setIfInBounds_toArray, List.set_cons_zero, List.set_cons_succ]
        refine wpAnyH_take (i := 7) (oi := ⟨some 41, _, _, _, _, _⟩) rfl (by kernel_rfl) (by kernel_rfl) (by kernel_rfl) (fun _ _ _ h => h) (Or.inl ⟨by rfl, fun w hw => by ((try dsimp only at hw); go_split_ands; go_simp; with_reducible rfl)⟩) (by assumption) ?_
        try simp only [Act.put, List.setIfInBounds_toArray, List.set_cons_zero, List.set_cons_succ]
        refine wpAnyH_take (i := 8) (oi := ⟨some 42, _, _, _, _, _⟩) rfl (by kernel_rfl) (by kernel_rfl) (by kernel_rfl) (fun _ _ _ h => h) (Or.inl ⟨by rfl, fun w hw => by ((try dsimp only at hw); go_split_ands; go_simp; with_reducible rfl)⟩) (by assumption) ?_
        try simp only [Act.put, List.setIfInBounds_toArray, List.set_cons_zero, List.set_cons_succ]
        refine wpAnyH_take (i := 9) (oi := ⟨some 43, _, _, _, _, _⟩) rfl (by kernel_rfl) (by kernel_rfl) (by kernel_rfl) (fun _ _ _ h => h) (yieldsIf_load_mid (by rfl) _ _ rfl _ _ rfl _ _ (fun w hw => by (try dsimp only at hw); go_split_ands; assumption) (by assumption) rfl (by assumption)) (by assumption) ?_
        try simp only [Act.put, List.setIfInBounds_toArray, List.set_cons_zero, List.set_cons_succ]
        refine wpAnyH_ready (rs := [10]) (by kernel_rfl) (by simp) ?_
        refine AllReadyH.cons rfl (fun K hK => ?_) (AllReadyH.nil)
        go_simp
        refine (refcompare_num x.key y.key _ HKx.out.1 HKx.out.2 HKy.out.1 HKy.out.2).mono ?_
        rintro e w2 ⟨rfl, hb2⟩
        have HBW : Hid (Below w.heap.size w w2) := (drewN_below HB.out 1).trans (hb2.mono (drewN_below HB.out 1).size)
        have HOW := Lib.hid ((HO.out.later (drewN_below (Below.refl _ _) 1)).later hb2)
        refine hK.out _ _ (KS.out _ HBW.out) (fun hH2 => ?_)
        clear hK hH hb2
        refine wpAnyH_take (i := 11) (oi := ⟨some 9, _, _, _, _, _⟩) rfl (by kernel_rfl) (by kernel_rfl) (by kernel_rfl) (fun _ _ _ h => h) (Or.inl ⟨by rfl, fun w hw => by ((try dsimp only at hw); go_split_ands; go_simp; with_reducible rfl)⟩) (by assumption) ?_
        try simp only [Act.put, List.setIfInBounds_toArray, List.set_cons_zero, List.set_cons_succ]
        refine wpAnyH_done (by kernel_rfl) ?_ _
        change KK _ _
        refine HKK.out _ _ ?_
        clear hH2 hu hszx hszy
        by_cases hle : numK x.key ≤ numK y.key
        · have hz : cmpZ (numK x.key) (numK y.key) ≤ 0 := (cmpZ_le _ _).2 hle
          have HMn := Lib.hid (HML.out hle)
          have HRx := Lib.hid (HRRx.out _ HBW.out)
          have HVx := Lib.hid (HVVx.out _ HBW.out)
          generalize cmpZ (numK x.key) (numK y.key) = z at *
          have hzd : decide (z ≤ 0) = true := decide_eq_true hz
          go_wp2_with (first
          | ((with_reducible refine stopAt (o := ⟨some 52, _, _, _, _, _⟩) ?_); refine loadRange (o := ⟨some 52, _, _, _, _, _⟩) (by rfl) 93 (.tmp 51) rfl bbx (ox + i * 34) (chC x Ax Cx) rfl HRx.out row_chg (by rw [size_chg, chC_length HKx.out.2]) ?_)
          | ((with_reducible refine stopAt (o := ⟨some 53, _, _, _, _, _⟩) ?_); refine buildSlice1 (o := ⟨some 53, _, _, _, _, _⟩) rfl w2 33 93 _ 34 (.tmp 52) rfl und_chl info_chg (by decide) (by decide) (chC x Ax Cx).toArray rfl (by rw [List.size_toArray, chC_length HKx.out.2]) ?_)
          | ((with_reducible refine stopAt (o := ⟨some 54, _, _, _, _, _⟩) ?_); refine append1C (o := ⟨some 54, _, _, _, _, _⟩) und_chl info_chg3 rfl w2 rfl (.tmp 48) (.tmp 53) rfl w.heap.size u5 (i + j) _ HOW.out.own (chC x Ax Cx) (chC_length HKx.out.2) chC_one rfl rfl (by omega) (by omega) HBW.out.size ?_; intro v3 w3 ho3 hg3 hl3; have HO3 := Lib.hid (HOW.out.more HKx.out HVx.out HAPx.out ho3 hg3 hl3); have HB3 : Hid (Below w.heap.size w w3) := HBW.out.grown hg3 HBW.out.size HOW.out.ge; clear ho3 hg3 hl3))
          go_roundw
          case rel => exact ⟨i + 1, j, by omega, by omega, by go_num, by go_num, ⟨_, _, _, by show ChsOwn _ _ _ _ _ _ _; have h := HO3.out; rwa [show i + j + 1 = i + 1 + j by omega] at h, HMn.out⟩, HB3.out⟩
          case measure => simp [intOf]; omega
        · have hz : ¬ cmpZ (numK x.key) (numK y.key) ≤ 0 := fun h => hle ((cmpZ_le _ _).1 h)
          have HMn := Lib.hid (HMR.out hle)
          have HRy := Lib.hid (HRRy.out _ HBW.out)
          have HVy := Lib.hid (HVVy.out _ HBW.out)
          generalize cmpZ (numK x.key) (numK y.key) = z at *
          have hzd : decide (z ≤ 0) = false := decide_eq_false hz
          go_wp2_with (first
          | ((with_reducible refine stopAt (o := ⟨some 61, _, _, _, _, _⟩) ?_); refine loadRange (o := ⟨some 61, _, _, _, _, _⟩) (by rfl) 93 (.tmp 60) rfl bby (oy + j * 34) (chC y Ay Cy) rfl HRy.out row_chg (by rw [size_chg, chC_length HKy.out.2]) ?_)
          | ((with_reducible refine stopAt (o := ⟨some 62, _, _, _, _, _⟩) ?_); refine buildSlice1 (o := ⟨some 62, _, _, _, _, _⟩) rfl w2 33 93 _ 34 (.tmp 61) rfl und_chl info_chg (by decide) (by decide) (chC y Ay Cy).toArray rfl (by rw [List.size_toArray, chC_length HKy.out.2]) ?_)
          | ((with_reducible refine stopAt (o := ⟨some 63, _, _, _, _, _⟩) ?_); refine append1C (o := ⟨some 63, _, _, _, _, _⟩) und_chl info_chg3 rfl w2 rfl (.tmp 57) (.tmp 62) rfl w.heap.size u5 (i + j) _ HOW.out.own (chC y Ay Cy) (chC_length HKy.out.2) chC_one rfl rfl (by omega) (by omega) HBW.out.size ?_; intro v3 w3 ho3 hg3 hl3; have HO3 := Lib.hid (HOW.out.more HKy.out HVy.out HAPy.out ho3 hg3 hl3); have HB3 : Hid (Below w.heap.size w w3) := HBW.out.grown hg3 HBW.out.size HOW.out.ge; clear ho3 hg3 hl3))
          go_roundw
          case rel => exact ⟨i, j + 1, by omega, by omega, by go_num, by go_num, ⟨_, _, _, by show ChsOwn _ _ _ _ _ _ _; have h := HO3.out; rwa [show i + j + 1 = i + j + 1 by omega] at h, HMn.out⟩, HB3.out⟩
          case measure => simp [intOf]; omega
      · have hj2 : ¬ (j : Int) < M := by omega
        have hj3 : (M : Int) ≤ j := by omega
        have hj4 : decide ((M : Int) ≤ j) = true := decide_eq_true hj3
        have HMn : Hid (MergI X Y (upd Z (i + j) (X i)) N M (i + 1) j) := HM.out.left hi1 (fun h => absurd h hj1)
        have HBW := HB
        have HOW := HO
        have HRx := Lib.hid (HRRx.out _ HBW.out)
        have HVx := Lib.hid (HVVx.out _ HBW.out)
        generalize X i = x at *
        go_wp2_with (first
          | ((with_reducible refine stopAt (o := ⟨some 52, _, _, _, _, _⟩) ?_); refine loadRange (o := ⟨some 52, _, _, _, _, _⟩) (by rfl) 93 (.tmp 51) rfl bbx (ox + i * 34) (chC x Ax Cx) rfl HRx.out row_chg (by rw [size_chg, chC_length HKx.out.2]) ?_)
          | ((with_reducible refine stopAt (o := ⟨some 53, _, _, _, _, _⟩) ?_); refine buildSlice1 (o := ⟨some 53, _, _, _, _, _⟩) rfl w1 33 93 _ 34 (.tmp 52) rfl und_chl info_chg (by decide) (by decide) (chC x Ax Cx).toArray rfl (by rw [List.size_toArray, chC_length HKx.out.2]) ?_)
          | ((with_reducible refine stopAt (o := ⟨some 54, _, _, _, _, _⟩) ?_); refine append1C (o := ⟨some 54, _, _, _, _, _⟩) und_chl info_chg3 rfl w1 rfl (.tmp 48) (.tmp 53) rfl w.heap.size u5 (i + j) _ HOW.out.own (chC x Ax Cx) (chC_length HKx.out.2) chC_one rfl rfl (by omega) (by omega) HBW.out.size ?_; intro v3 w3 ho3 hg3 hl3; have HO3 := Lib.hid (HOW.out.more HKx.out HVx.out HAPx.out ho3 hg3 hl3); have HB3 : Hid (Below w.heap.size w w3) := HBW.out.grown hg3 HBW.out.size HOW.out.ge; clear ho3 hg3 hl3))
        go_roundw
        case rel => exact ⟨i + 1, j, by omega, by omega, by go_num, by go_num, ⟨_, _, _, by show ChsOwn _ _ _ _ _ _ _; have h := HO3.out; rwa [show i + j + 1 = i + 1 + j by omega] at h, HMn.out⟩, HB3.out⟩
        case measure => simp [intOf]; omega
    · have hi2 : ¬ (i : Int) < N := by omega
      by_cases hj1 : j < M
      · have hj2 : (j : Int) < M := by omega
        have hj3 : ¬ (M : Int) ≤ j := by omega
        have hj4 : decide ((M : Int) ≤ j) = false := decide_eq_false hj3
        obtain ⟨bby, oy, Ay, Cy, rfl, hby, hry, hkBy, hkly, hvry, hvCy, hCmy, hnily⟩ := HY.out.2 j hj1
        have HKy := Lib.hid (show IsB (Y j).key ∧ (Y j).key.length = 32 from ⟨hkBy, hkly⟩)
        have hszy : (Tryd.prog.info? 31).map (·.size) = some (bvs (Y j).key).length := by rw [size_key]; simp [bvs, hkly]
        have HRRy : Hid (∀ W, Below w.heap.size w W → W.rangeAt bby (oy + j * 34) (chC (Y j) Ay Cy)) := fun W hW => range_below hW hby hry
        have HVVy : Hid (∀ W, Below w.heap.size w W → RB W Ay (Y j).val.length (Y j).val ∧ (Y j).val.length ≤ Cy ∧ Cy ≤ maxLen ∧ (Ay = none → Cy = 0)) := fun W hW => ⟨hvry.below hW, hvCy, hCmy, hnily⟩
        have HAPy : Hid (0 < (Y j).val.length → ∀ ad, Ay = some ad → some ad.block ≠ u5.ownBlock) := fun h0 ad e he => by
          obtain ⟨ad', e', q1, _⟩ := hvry.2.2 h0
          rw [e] at e'
          injection e' with e'
          rw [← e'] at q1
          have q2 := HO.out.ge _ he.symm
          omega
        clear hby hry hkBy hkly hvry hvCy hCmy hnily
        have HMn : Hid (MergI X Y (upd Z (i + j) (Y j)) N M i (j + 1)) := HM.out.right hj1 (fun h => absurd h hi1)
        have HBW := HB
        have HOW := HO
        have HRy := Lib.hid (HRRy.out _ HBW.out)
        have HVy := Lib.hid (HVVy.out _ HBW.out)
        generalize Y j = y at *
        go_wp2_with (first
          | ((with_reducible refine stopAt (o := ⟨some 61, _, _, _, _, _⟩) ?_); refine loadRange (o := ⟨some 61, _, _, _, _, _⟩) (by rfl) 93 (.tmp 60) rfl bby (oy + j * 34) (chC y Ay Cy) rfl HRy.out row_chg (by rw [size_chg, chC_length HKy.out.2]) ?_)
          | ((with_reducible refine stopAt (o := ⟨some 62, _, _, _, _, _⟩) ?_); refine buildSlice1 (o := ⟨some 62, _, _, _, _, _⟩) rfl w1 33 93 _ 34 (.tmp 61) rfl und_chl info_chg (by decide) (by decide) (chC y Ay Cy).toArray rfl (by rw [List.size_toArray, chC_length HKy.out.2]) ?_)
          | ((with_reducible refine stopAt (o := ⟨some 63, _, _, _, _, _⟩) ?_); refine append1C (o := ⟨some 63, _, _, _, _, _⟩) und_chl info_chg3 rfl w1 rfl (.tmp 57) (.tmp 62) rfl w.heap.size u5 (i + j) _ HOW.out.own (chC y Ay Cy) (chC_length HKy.out.2) chC_one rfl rfl (by omega) (by omega) HBW.out.size ?_; intro v3 w3 ho3 hg3 hl3; have HO3 := Lib.hid (HOW.out.more HKy.out HVy.out HAPy.out ho3 hg3 hl3); have HB3 : Hid (Below w.heap.size w w3) := HBW.out.grown hg3 HBW.out.size HOW.out.ge; clear ho3 hg3 hl3))
        go_roundw
        case rel => exact ⟨i, j + 1, by omega, by omega, by go_num, by go_num, ⟨_, _, _, by show ChsOwn _ _ _ _ _ _ _; have h := HO3.out; rwa [show i + j + 1 = i + j + 1 by omega] at h, HMn.out⟩, HB3.out⟩
        case measure => simp [intOf]; omega
      · have hj2 : ¬ (j : Int) < M := by omega
        obtain rfl : i = N := by omega
        obtain rfl : j = M := by omega
        go_wp2_with fail
        go_ret
        exact ⟨_, _, _, rfl, HO.out.congr HM.out.done, HB.out⟩
end Go.Proofs.YtfnlhfaihoojfaaDoor
