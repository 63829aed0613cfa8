/- ledgerref3.one. -/
import Derived.Test.YtkpbeibcfaenhaaParse
import Derived.Test.YtkpbeibcfaenhaaBytesR
namespace Go.Proofs.Ytkpbeibcfaenhaa
open Go.RowKit
theorem chS_setkey {key : List Nat} {d : Bool} {v : Value} {j : Nat} (x : Nat) (h : j < key.length) : (chS key d v).set j (.int .u8 (x : Int)) = chS (key.set j x) d v := by
  unfold chS
  rw [List.set_append_left _ _ (by simp [bvs, h])]
  simp [bvs, bv, List.map_set]
theorem chs_setkey {w : World} {g : Nat} {t : TypeId} {key : List Nat} {d : Bool} {v : Value} (h : BlkIs w g t (chS key d v).toArray) {j : Nat} (hj : j < key.length) (x : Nat) : BlkIs (w.setCell ⟨g, j, none⟩ (.int .u8 (x : Int))) g t (chS (key.set j x) d v).toArray := by
  have h1 := BlkIs.stored h j (.int .u8 (x : Int))
  rwa [List.setIfInBounds_toArray, chS_setkey x hj] at h1
theorem chS_atkey {key : List Nat} {d : Bool} {v : Value} {j : Nat} (h : j < key.length) : (chS key d v)[j]? = some (.int .u8 (key.getD j 0 : Nat)) := by
  unfold chS
  rw [List.getElem?_append_left (by simp [bvs, h])]
  simp [bvs, bv, List.getD, List.getElem?_eq_getElem h]
/-- The key when j of its bytes are there; r begins at the change. -/
def keyJ (r : List Nat) (j : Nat) : List Nat := (r.drop 1).take j ++ zs (32 - j)
theorem keyJ_length {r : List Nat} (h : 33 ≤ r.length) {j : Nat} (hj : j ≤ 32) : (keyJ r j).length = 32 := by
  simp [keyJ, zs]
  omega
theorem keyJ_next {r : List Nat} (h : 33 ≤ r.length) {j : Nat} (hj : j < 32) : (keyJ r j).set j (r.getD (1 + j) 0) = keyJ r (j + 1) := by
  have hl : ((r.drop 1).take j).length = j := by rw [List.length_take, List.length_drop]; omega
  unfold keyJ
  rw [List.set_append_right _ _ (by omega), hl, Nat.sub_self, show 32 - j = (32 - (j + 1)) + 1 by omega, zs, List.replicate_succ, List.set_cons_zero, take_succ_getD (by rw [List.length_drop]; omega)]
  simp [zs, List.getD, Nat.add_comm]
theorem keyJ_end (r : List Nat) : keyJ r 32 = (r.drop 1).take 32 := by simp [keyJ, zs]
def OnePost (xs : List Nat) (pl : Nat) (w : World) (e : Ending) (w' : World) : Prop :=
  ∃ (cs : List Value) (p : Nat), e = .returned (.tuple #[.agg cs.toArray, .int .i64 (p : Int), .int .i64 (takeE (xs.drop pl) : Nat)]) ∧ Below w.heap.size w w' ∧ cs.length = 34 ∧ (∀ v ∈ cs, v.oneCell' = true) ∧
    (takeE (xs.drop pl) = 0 → p ≤ xs.length ∧ xs.drop p = takeR (xs.drop pl) ∧ ∃ Av Cv, cs = chC (takeC (xs.drop pl)) Av Cv ∧ RB w' Av (takeC (xs.drop pl)).val.length (takeC (xs.drop pl)).val ∧ (takeC (xs.drop pl)).val.length ≤ Cv ∧ Cv ≤ maxLen ∧ (Av = none → Cv = 0) ∧ (∀ ad, Av = some ad → w.heap.size ≤ ad.block))
theorem one_bad {xs : List Nat} {pl : Nat} (h : xs.length ≤ pl ∨ (¬ xs.getD pl 0 = 1 ∧ ¬ xs.getD pl 0 = 2) ∨ xs.length < pl + 33) : takeE (xs.drop pl) = 30 := by
  unfold takeE
  by_cases h1 : (xs.drop pl).length < 33
  · rw [if_pos h1]
  · rw [List.length_drop] at h1
    have h2 : ¬ xs.getD pl 0 = 1 ∧ ¬ xs.getD pl 0 = 2 := by
      rcases h with h | h | h
      · omega
      · exact h
      · omega
    have h3 : (xs.drop pl).getD 0 0 = xs.getD pl 0 := by simp [List.getD]
    rw [if_neg (by rw [List.length_drop]; exact h1), h3, if_neg h2.2, if_neg h2.1]
set_option maxRecDepth 100000 in
set_option maxHeartbeats 4000000 in
theorem one_short (A : Option Addr) (n c pl : Nat) (xs : List Nat) (w : World) (hx : RB w A n xs) (hn : n ≤ 140737488355328) (hp : pl ≤ n) (hb : n ≤ pl ∨ (¬ xs.getD pl 0 = 1 ∧ ¬ xs.getD pl 0 = 2) ∨ n < pl + 33) :
    Calls Try.prog 92 #[.slice A n c, .int .i64 (pl : Int)] w (OnePost xs pl w) := by
  have HX := Lib.hid hx
  have HE := Lib.hid (one_bad (xs := xs) (pl := pl) (by rw [hx.1]; exact hb))
  clear hx
  go_enter Try.func92, Try.ntmps92
  by_cases h0 : n ≤ pl
  · have h0' : (n : Int) ≤ (pl : Int) := by omega
    have h0d : decide ((n : Int) ≤ (pl : Int)) = true := decide_eq_true h0'
    clear hb
    go_wp2_with (first
      | ((with_reducible refine stopAt (o := ⟨some 4, _, _, _, _, _⟩) ?_); refine allocNew (o := ⟨some 4, _, _, _, _, _⟩) (by rfl) 45 rfl _ _ info_chS ?_; intro w1 HA1 HW1 HS1)
      | ((with_reducible refine stopAt (o := ⟨some 7, _, _, _, _, _⟩) ?_); refine allocNew (o := ⟨some 7, _, _, _, _, _⟩) (by rfl) 45 rfl _ _ info_chS ?_; intro w2 HA2 HW2 HS2; have HA1' := Lib.hid (BlkIs.below HA1.out HW2.out); have HW := Lib.hid (HW1.out.trans (HW2.out.mono HW1.out.size)))
      | ((with_reducible refine stopAt (o := ⟨some 35, _, _, _, _, _⟩) ?_); refine loadRange (o := ⟨some 35, _, _, _, _, _⟩) (by rfl) 45 (.tmp 7) rfl w1.heap.size 0 _ rfl (BlkIs.range HA2.out) row_chg (by rw [size_chg]; rfl) ?_)
      | ((with_reducible refine stopAt (o := ⟨none, .store _ (.tmp 4) _, _, _, _, _⟩) ?_); refine storeV (o := ⟨none, _, _, _, _, _⟩) (by rfl) 45 (.tmp 4) (.tmp 35) rfl w.heap.size _ _ 45 rfl rfl HA1'.out (by rw [size_chg]; rfl) rfl (chS_one rfl) ?_; intro w3 HA3 HG3 HS3))
    refine chg_ret (g := w.heap.size) rfl rfl HA3.out rfl rfl rfl rfl ?_
    exact ⟨_, pl, by rw [HE.out]; rfl, HW.out.grown HG3.out HW.out.size (fun k hk => by injection hk with hk; omega), rfl, chS_one rfl, fun h => by rw [HE.out] at h; cases h⟩
  · have h0' : ¬ (n : Int) ≤ (pl : Int) := by omega
    have h0d : decide ((n : Int) ≤ (pl : Int)) = false := decide_eq_false h0'
    have hlt : pl < n := by omega
    have hlt' : (pl : Int) < n := by omega
    obtain ⟨ad, rfl, hbk, hc0⟩ := HX.out.at_ hlt
    have HC0 : Hid (∀ W, Below w.heap.size w W → W.cell? (ad.add pl) = some (.int .u8 ((xs.getD pl 0 : Nat) : Int))) := fun W hW => cell_later hbk hW hc0
    clear hc0 hbk
    by_cases h12 : xs.getD pl 0 = 1 ∨ xs.getD pl 0 = 2
    · have h33 : (n : Int) < (pl : Int) + 33 := by omega
      have h33d : decide ((n : Int) < (pl : Int) + 33) = true := decide_eq_true h33
      have e1 : ((((xs.getD pl 0 : Nat) : Int) != 1) = false ∧ True) ∨ ((((xs.getD pl 0 : Nat) : Int) != 1) = true ∧ (((xs.getD pl 0 : Nat) : Int) != 2) = false) := by
        rcases h12 with h | h <;> rw [h]
        · exact .inl ⟨rfl, trivial⟩
        · exact .inr ⟨rfl, rfl⟩
      clear hb h12
      generalize xs.getD pl 0 = x0 at *
      rcases e1 with ⟨e1, _⟩ | ⟨e1, e2⟩
      all_goals
        go_wp2_with (first
          | ((with_reducible refine stopAt (o := ⟨some 4, _, _, _, _, _⟩) ?_); refine allocNew (o := ⟨some 4, _, _, _, _, _⟩) (by rfl) 45 rfl _ _ info_chS ?_; intro w1 HA1 HW1 HS1)
          | ((with_reducible refine stopAt (o := ⟨some 7, _, _, _, _, _⟩) ?_); refine allocNew (o := ⟨some 7, _, _, _, _, _⟩) (by rfl) 45 rfl _ _ info_chS ?_; intro w2 HA2 HW2 HS2; have HA1' := Lib.hid (BlkIs.below HA1.out HW2.out); have HW := Lib.hid (HW1.out.trans (HW2.out.mono HW1.out.size)); have c0 := HC0.out w2 HW.out)
          | ((with_reducible refine stopAt (o := ⟨some 35, _, _, _, _, _⟩) ?_); refine loadRange (o := ⟨some 35, _, _, _, _, _⟩) (by rfl) 45 (.tmp 7) rfl w1.heap.size 0 _ rfl (BlkIs.range HA2.out) row_chg (by rw [size_chg]; rfl) ?_)
          | ((with_reducible refine stopAt (o := ⟨none, .store _ (.tmp 4) _, _, _, _, _⟩) ?_); refine storeV (o := ⟨none, _, _, _, _, _⟩) (by rfl) 45 (.tmp 4) (.tmp 35) rfl w.heap.size _ _ 45 rfl rfl HA1'.out (by rw [size_chg]; rfl) rfl (chS_one rfl) ?_; intro w3 HA3 HG3 HS3))
        refine chg_ret (g := w.heap.size) rfl rfl HA3.out rfl rfl rfl rfl ?_
        exact ⟨_, pl, by rw [HE.out]; rfl, HW.out.grown HG3.out HW.out.size (fun k hk => by injection hk with hk; omega), rfl, chS_one rfl, fun h => by rw [HE.out] at h; cases h⟩
    · have e1 : (((xs.getD pl 0 : Nat) : Int) != 1) = true := by rw [bne_iff_ne]; omega
      have e2 : (((xs.getD pl 0 : Nat) : Int) != 2) = true := by rw [bne_iff_ne]; omega
      clear hb h12
      generalize xs.getD pl 0 = x0 at *
      go_wp2_with (first
        | ((with_reducible refine stopAt (o := ⟨some 4, _, _, _, _, _⟩) ?_); refine allocNew (o := ⟨some 4, _, _, _, _, _⟩) (by rfl) 45 rfl _ _ info_chS ?_; intro w1 HA1 HW1 HS1)
        | ((with_reducible refine stopAt (o := ⟨some 7, _, _, _, _, _⟩) ?_); refine allocNew (o := ⟨some 7, _, _, _, _, _⟩) (by rfl) 45 rfl _ _ info_chS ?_; intro w2 HA2 HW2 HS2; have HA1' := Lib.hid (BlkIs.below HA1.out HW2.out); have HW := Lib.hid (HW1.out.trans (HW2.out.mono HW1.out.size)); have c0 := HC0.out w2 HW.out)
        | ((with_reducible refine stopAt (o := ⟨some 35, _, _, _, _, _⟩) ?_); refine loadRange (o := ⟨some 35, _, _, _, _, _⟩) (by rfl) 45 (.tmp 7) rfl w1.heap.size 0 _ rfl (BlkIs.range HA2.out) row_chg (by rw [size_chg]; rfl) ?_)
        | ((with_reducible refine stopAt (o := ⟨none, .store _ (.tmp 4) _, _, _, _, _⟩) ?_); refine storeV (o := ⟨none, _, _, _, _, _⟩) (by rfl) 45 (.tmp 4) (.tmp 35) rfl w.heap.size _ _ 45 rfl rfl HA1'.out (by rw [size_chg]; rfl) rfl (chS_one rfl) ?_; intro w3 HA3 HG3 HS3))
      refine chg_ret (g := w.heap.size) rfl rfl HA3.out rfl rfl rfl rfl ?_
      exact ⟨_, pl, by rw [HE.out]; rfl, HW.out.grown HG3.out HW.out.size (fun k hk => by injection hk with hk; omega), rfl, chS_one rfl, fun h => by rw [HE.out] at h; cases h⟩
end Go.Proofs.Ytkpbeibcfaenhaa
