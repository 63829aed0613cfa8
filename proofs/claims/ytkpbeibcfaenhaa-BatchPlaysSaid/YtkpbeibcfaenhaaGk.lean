/- RefOne, RefOne2, RefParse (merged by merge.py) -/
import Derived.Test.YtkpbeibcfaenhaaParse
import Derived.Test.YtkpbeibcfaenhaaBytesR
import Derived.Test.YtkpbeibcfaenhaaTwiceR
/- ledgerref3.one. -/
namespace Go.Proofs.Ytkpbeibcfaenhaa
open Go.RowKit
theorem chS_setkey {key : List Nat} {d : Bool} {v : Value} {j : Nat} (x : Nat) (h : j < key.length) : (chS key d v).set j (.int .u8 (x : Int)) = chS (key.set j x) d v := by
  unfold chS
  rw [List.set_append_left _ _ (by simp [bvs, h])]
  simp [bvs, bv, List.map_set]
theorem chs_setkey {w : World} {g : Nat} {t : TypeId} {key : List Nat} {d : Bool} {v : Value} (h : BlkIs w g t (chS key d v).toArray) {j : Nat} (hj : j < key.length) (x : Nat) : BlkIs (w.setCell ⟨g, j, none⟩ (.int .u8 (x : Int))) g t (chS (key.set j x) d v).toArray := by
  have h1 := BlkIs.stored h j (.int .u8 (x : Int))
  rwa [List.setIfInBounds_toArray, chS_setkey x hj] at h1
theorem chS_atkey {key : List Nat} {d : Bool} {v : Value} {j : Nat} (h : j < key.length) : (chS key d v)[j]? = some (.int .u8 (key.getD j 0 : Nat)) := by
  unfold chS
  rw [List.getElem?_append_left (by simp [bvs, h])]
  simp [bvs, bv, List.getD, List.getElem?_eq_getElem h]
/-- The key when j of its bytes are there; r begins at the change. -/
def keyJ (r : List Nat) (j : Nat) : List Nat := (r.drop 1).take j ++ zs (32 - j)
theorem keyJ_length {r : List Nat} (h : 33 ≤ r.length) {j : Nat} (hj : j ≤ 32) : (keyJ r j).length = 32 := by
  simp [keyJ, zs]
  omega
theorem keyJ_next {r : List Nat} (h : 33 ≤ r.length) {j : Nat} (hj : j < 32) : (keyJ r j).set j (r.getD (1 + j) 0) = keyJ r (j + 1) := by
  have hl : ((r.drop 1).take j).length = j := by rw [List.length_take, List.length_drop]; omega
  unfold keyJ
  rw [List.set_append_right _ _ (by omega), hl, Nat.sub_self, show 32 - j = (32 - (j + 1)) + 1 by omega, zs, List.replicate_succ, List.set_cons_zero, take_succ_getD (by rw [List.length_drop]; omega)]
  simp [zs, List.getD, Nat.add_comm]
theorem keyJ_end (r : List Nat) : keyJ r 32 = (r.drop 1).take 32 := by simp [keyJ, zs]
def OnePost (xs : List Nat) (pl : Nat) (w : World) (e : Ending) (w' : World) : Prop :=
  ∃ (cs : List Value) (p : Nat), e = .returned (.tuple #[.agg cs.toArray, .int .i64 (p : Int), .int .i64 (takeE (xs.drop pl) : Nat)]) ∧ Below w.heap.size w w' ∧ cs.length = 34 ∧ (∀ v ∈ cs, v.oneCell' = true) ∧
    (takeE (xs.drop pl) = 0 → p ≤ xs.length ∧ xs.drop p = takeR (xs.drop pl) ∧ ∃ Av Cv, cs = chC (takeC (xs.drop pl)) Av Cv ∧ RB w' Av (takeC (xs.drop pl)).val.length (takeC (xs.drop pl)).val ∧ (takeC (xs.drop pl)).val.length ≤ Cv ∧ Cv ≤ maxLen ∧ (Av = none → Cv = 0) ∧ (∀ ad, Av = some ad → w.heap.size ≤ ad.block))
theorem one_bad {xs : List Nat} {pl : Nat} (h : xs.length ≤ pl ∨ (¬ xs.getD pl 0 = 1 ∧ ¬ xs.getD pl 0 = 2) ∨ xs.length < pl + 33) : takeE (xs.drop pl) = 30 := by
  unfold takeE
  by_cases h1 : (xs.drop pl).length < 33
  · rw [if_pos h1]
  · rw [List.length_drop] at h1
    have h2 : ¬ xs.getD pl 0 = 1 ∧ ¬ xs.getD pl 0 = 2 := by
      rcases h with h | h | h
      · omega
      · exact h
      · omega
    have h3 : (xs.drop pl).getD 0 0 = xs.getD pl 0 := by simp [List.getD]
    rw [if_neg (by rw [List.length_drop]; exact h1), h3, if_neg h2.2, if_neg h2.1]
set_option maxRecDepth 100000 in
set_option maxHeartbeats 4000000 in
theorem one_short (A : Option Addr) (n c pl : Nat) (xs : List Nat) (w : World) (hx : RB w A n xs) (hn : n ≤ 140737488355328) (hp : pl ≤ n) (hb : n ≤ pl ∨ (¬ xs.getD pl 0 = 1 ∧ ¬ xs.getD pl 0 = 2) ∨ n < pl + 33) :
    Calls Try.prog 92 #[.slice A n c, .int .i64 (pl : Int)] w (OnePost xs pl w) := by
  have HX := Lib.hid hx
  have HE := Lib.hid (one_bad (xs := xs) (pl := pl) (by rw [hx.1]; exact hb))
  clear hx
  go_enter Try.func92, Try.ntmps92
  by_cases h0 : n ≤ pl
  · have h0' : (n : Int) ≤ (pl : Int) := by omega
    have h0d : decide ((n : Int) ≤ (pl : Int)) = true := decide_eq_true h0'
    clear hb
    go_wp2_with (first
      | ((with_reducible refine stopAt (o := ⟨some 4, _, _, _, _, _⟩) ?_); refine allocNew (o := ⟨some 4, _, _, _, _, _⟩) (by rfl) 45 rfl _ _ info_chS ?_; intro w1 HA1 HW1 HS1)
      | ((with_reducible refine stopAt (o := ⟨some 7, _, _, _, _, _⟩) ?_); refine allocNew (o := ⟨some 7, _, _, _, _, _⟩) (by rfl) 45 rfl _ _ info_chS ?_; intro w2 HA2 HW2 HS2; have HA1' := Lib.hid (BlkIs.below HA1.out HW2.out); have HW := Lib.hid (HW1.out.trans (HW2.out.mono HW1.out.size)))
      | ((with_reducible refine stopAt (o := ⟨some 35, _, _, _, _, _⟩) ?_); refine loadRange (o := ⟨some 35, _, _, _, _, _⟩) (by rfl) 45 (.tmp 7) rfl w1.heap.size 0 _ rfl (BlkIs.range HA2.out) row_chg (by rw [size_chg]; rfl) ?_)
      | ((with_reducible refine stopAt (o := ⟨none, .store _ (.tmp 4) _, _, _, _, _⟩) ?_); refine storeV (o := ⟨none, _, _, _, _, _⟩) (by rfl) 45 (.tmp 4) (.tmp 35) rfl w.heap.size _ _ 45 rfl rfl HA1'.out (by rw [size_chg]; rfl) rfl (chS_one rfl) ?_; intro w3 HA3 HG3 HS3))
    refine chg_ret (g := w.heap.size) rfl rfl HA3.out rfl rfl rfl rfl ?_
    exact ⟨_, pl, by rw [HE.out]; rfl, HW.out.grown HG3.out HW.out.size (fun k hk => by injection hk with hk; omega), rfl, chS_one rfl, fun h => by rw [HE.out] at h; cases h⟩
  · have h0' : ¬ (n : Int) ≤ (pl : Int) := by omega
    have h0d : decide ((n : Int) ≤ (pl : Int)) = false := decide_eq_false h0'
    have hlt : pl < n := by omega
    have hlt' : (pl : Int) < n := by omega
    obtain ⟨ad, rfl, hbk, hc0⟩ := HX.out.at_ hlt
    have HC0 : Hid (∀ W, Below w.heap.size w W → W.cell? (ad.add pl) = some (.int .u8 ((xs.getD pl 0 : Nat) : Int))) := fun W hW => cell_later hbk hW hc0
    clear hc0 hbk
    by_cases h12 : xs.getD pl 0 = 1 ∨ xs.getD pl 0 = 2
    · have h33 : (n : Int) < (pl : Int) + 33 := by omega
      have h33d : decide ((n : Int) < (pl : Int) + 33) = true := decide_eq_true h33
      have e1 : ((((xs.getD pl 0 : Nat) : Int) != 1) = false ∧ True) ∨ ((((xs.getD pl 0 : Nat) : Int) != 1) = true ∧ (((xs.getD pl 0 : Nat) : Int) != 2) = false) := by
        rcases h12 with h | h <;> rw [h]
        · exact .inl ⟨rfl, trivial⟩
        · exact .inr ⟨rfl, rfl⟩
      clear hb h12
      generalize xs.getD pl 0 = x0 at *
      rcases e1 with ⟨e1, _⟩ | ⟨e1, e2⟩
      all_goals
        go_wp2_with (first
          | ((with_reducible refine stopAt (o := ⟨some 4, _, _, _, _, _⟩) ?_); refine allocNew (o := ⟨some 4, _, _, _, _, _⟩) (by rfl) 45 rfl _ _ info_chS ?_; intro w1 HA1 HW1 HS1)
          | ((with_reducible refine stopAt (o := ⟨some 7, _, _, _, _, _⟩) ?_); refine allocNew (o := ⟨some 7, _, _, _, _, _⟩) (by rfl) 45 rfl _ _ info_chS ?_; intro w2 HA2 HW2 HS2; have HA1' := Lib.hid (BlkIs.below HA1.out HW2.out); have HW := Lib.hid (HW1.out.trans (HW2.out.mono HW1.out.size)); have c0 := HC0.out w2 HW.out)
          | ((with_reducible refine stopAt (o := ⟨some 35, _, _, _, _, _⟩) ?_); refine loadRange (o := ⟨some 35, _, _, _, _, _⟩) (by rfl) 45 (.tmp 7) rfl w1.heap.size 0 _ rfl (BlkIs.range HA2.out) row_chg (by rw [size_chg]; rfl) ?_)
          | ((with_reducible refine stopAt (o := ⟨none, .store _ (.tmp 4) _, _, _, _, _⟩) ?_); refine storeV (o := ⟨none, _, _, _, _, _⟩) (by rfl) 45 (.tmp 4) (.tmp 35) rfl w.heap.size _ _ 45 rfl rfl HA1'.out (by rw [size_chg]; rfl) rfl (chS_one rfl) ?_; intro w3 HA3 HG3 HS3))
        refine chg_ret (g := w.heap.size) rfl rfl HA3.out rfl rfl rfl rfl ?_
        exact ⟨_, pl, by rw [HE.out]; rfl, HW.out.grown HG3.out HW.out.size (fun k hk => by injection hk with hk; omega), rfl, chS_one rfl, fun h => by rw [HE.out] at h; cases h⟩
    · have e1 : (((xs.getD pl 0 : Nat) : Int) != 1) = true := by rw [bne_iff_ne]; omega
      have e2 : (((xs.getD pl 0 : Nat) : Int) != 2) = true := by rw [bne_iff_ne]; omega
      clear hb h12
      generalize xs.getD pl 0 = x0 at *
      go_wp2_with (first
        | ((with_reducible refine stopAt (o := ⟨some 4, _, _, _, _, _⟩) ?_); refine allocNew (o := ⟨some 4, _, _, _, _, _⟩) (by rfl) 45 rfl _ _ info_chS ?_; intro w1 HA1 HW1 HS1)
        | ((with_reducible refine stopAt (o := ⟨some 7, _, _, _, _, _⟩) ?_); refine allocNew (o := ⟨some 7, _, _, _, _, _⟩) (by rfl) 45 rfl _ _ info_chS ?_; intro w2 HA2 HW2 HS2; have HA1' := Lib.hid (BlkIs.below HA1.out HW2.out); have HW := Lib.hid (HW1.out.trans (HW2.out.mono HW1.out.size)); have c0 := HC0.out w2 HW.out)
        | ((with_reducible refine stopAt (o := ⟨some 35, _, _, _, _, _⟩) ?_); refine loadRange (o := ⟨some 35, _, _, _, _, _⟩) (by rfl) 45 (.tmp 7) rfl w1.heap.size 0 _ rfl (BlkIs.range HA2.out) row_chg (by rw [size_chg]; rfl) ?_)
        | ((with_reducible refine stopAt (o := ⟨none, .store _ (.tmp 4) _, _, _, _, _⟩) ?_); refine storeV (o := ⟨none, _, _, _, _, _⟩) (by rfl) 45 (.tmp 4) (.tmp 35) rfl w.heap.size _ _ 45 rfl rfl HA1'.out (by rw [size_chg]; rfl) rfl (chS_one rfl) ?_; intro w3 HA3 HG3 HS3))
      refine chg_ret (g := w.heap.size) rfl rfl HA3.out rfl rfl rfl rfl ?_
      exact ⟨_, pl, by rw [HE.out]; rfl, HW.out.grown HG3.out HW.out.size (fun k hk => by injection hk with hk; omega), rfl, chS_one rfl, fun h => by rw [HE.out] at h; cases h⟩
end Go.Proofs.Ytkpbeibcfaenhaa

/- ledgerref3.one: a change that begins as one. -/
namespace Go.Proofs.Ytkpbeibcfaenhaa
open Go.RowKit
/-- 'x[l:h]' of bytes. -/
theorem sliceMid {P : Program} {w : World} {ops : Array Oper} {rest : List Oper} {o : Oper} {a : Act} {Q : Exit → Act → World → Prop} (hgd : o.guard = none) (t : TypeId) (x il ih : Operand)
    (ho : o.op = .slice t x (some il) (some ih) none) (ht : P.underlying t = some (.slice (P.elem t))) (hsz : (P.info? (P.elem t)).map (·.size) = some 1) (A : Option Addr) (m d l h : Nat) (L H : Int) (hx : a.eval x = .slice A m d) (hl : a.eval il = .int .i64 L) (hh : a.eval ih = .int .i64 H)
    (hL : L = (l : Int)) (hH : H = (h : Int)) (hlh : l ≤ h) (hhd : h ≤ d)
    (hR : ∀ B, Hid ((l < h → B = A.map (·.add l)) ∧ (∀ ad, B = some ad → ∃ ad', A = some ad' ∧ ad'.block = ad.block)) → wpList P ops Q rest (a.put o.dst (.slice B (h - l) (d - l))) w) : wpList P ops Q (o :: rest) a w := by
  subst hL hH
  refine wpList_plain hgd fun K hK => ?_
  have hs : (sizeOf (P.elem t)).run P w = .ok 1 w := by
    cases hq : P.info? (P.elem t) with
    | none => simp [hq] at hsz
    | some i =>
      have h1 : i.size = 1 := by simpa [hq] using hsz
      simp [sizeOf, typeInfo, hq, h1]
  have hrun : (Instr.sliceAt t (.slice A m d) (some (.int .i64 (l : Int))) (some (.int .i64 (h : Int))) none).run P w = .ok (.slice (if d = l then A else A.map (·.add l)) (h - l) (d - l)) w := by
    rw [run_sliceAt_slice w t _ _ _ _ ht, run_slice_lh w t A m d ht .i64 .i64 (l : Int) (h : Int) (by omega) (by omega) (by omega), hs]
    simp only [Result.andThen_ok, sliced, Int.toNat_natCast, Nat.mul_one]
  have h2 := hR (if d = l then A else A.map (·.add l)) (show _ ∧ _ from ⟨fun hlt => if_neg (by omega), fun ad e => by
      split at e
      · exact ⟨ad, e, rfl⟩
      · rcases A with _ | b
        · cases e
        · injection e with e
          exact ⟨b, rfl, by rw [← e, block_add]⟩⟩)
  unfold Oper.wp execOp
  simp only [ho, hx, hl, hh, Option.map, Sem.run_bind, Sem.run_pure, hrun, Result.andThen_ok]
  exact hK _ _ h2
theorem drop_getD (xs : List Nat) (p j : Nat) : (xs.drop p).getD j 0 = xs.getD (p + j) 0 := by simp [List.getD]
theorem num_at (xs : List Nat) (p : Nat) : numN ((xs.drop p).drop 33) = xs.getD (p + 33) 0 + 256 * xs.getD (p + 34) 0 := by
  unfold numN
  rw [List.drop_drop, drop_getD, drop_getD]
set_option maxRecDepth 100000 in
set_option maxHeartbeats 4000000 in
theorem one_known (A : Option Addr) (n c pl : Nat) (xs : List Nat) (w : World) (hx : RB w A n xs) (hnc : n ≤ c) (hn : n ≤ 140737488355328) (hp : pl + 33 ≤ n) (h12 : xs.getD pl 0 = 1 ∨ xs.getD pl 0 = 2) :
    Calls Try.prog 92 #[.slice A n c, .int .i64 (pl : Int)] w (OnePost xs pl w) := by
  have HX := Lib.hid hx
  have HLX := Lib.hid hx.1
  have HR33 : Hid (33 ≤ (xs.drop pl).length) := by show _ ≤ _; rw [List.length_drop, hx.1]; omega
  obtain ⟨ad, rfl, hbk, hc0⟩ := hx.at_ (k := pl) (by omega)
  have HC0 : Hid (∀ W, Below w.heap.size w W → ∀ k, k < n → W.cell? (ad.add k) = some (.int .u8 ((xs.getD k 0 : Nat) : Int)) ∧ xs.getD k 0 < 256) := fun W hW k hk => by
    obtain ⟨ad', e, hb', hc'⟩ := (hx.below hW).at_ hk
    injection e with e
    subst e
    exact ⟨hc', hx.lt hk⟩
  clear hc0 hbk
  have h0' : ¬ (n : Int) ≤ (pl : Int) := by omega
  have h0d : decide ((n : Int) ≤ (pl : Int)) = false := decide_eq_false h0'
  have hlt : pl < n := by omega
  have hlt' : (pl : Int) < n := by omega
  have h33 : ¬ (n : Int) < (pl : Int) + 33 := by omega
  have h33d : decide ((n : Int) < (pl : Int) + 33) = false := decide_eq_false h33
  have HK : Hid ((xs.drop pl).getD 0 0 = xs.getD pl 0) := by show _ = _; rw [drop_getD, Nat.add_zero]
  have HNM : Hid (numN ((xs.drop pl).drop 33) = xs.getD (pl + 33) 0 + 256 * xs.getD (pl + 34) 0) := num_at xs pl
  have HZ : Hid (∀ j, (xs.drop pl).getD (1 + j) 0 = xs.getD (pl + 1 + j) 0) := fun j => by rw [drop_getD, Nat.add_assoc]
  obtain ⟨r, hr⟩ : ∃ r, xs.drop pl = r := ⟨_, rfl⟩
  have HR := Lib.hid hr
  rw [hr] at HR33 HK HNM HZ
  have e12 : ((((xs.getD pl 0 : Nat) : Int) != 1) = false ∧ (((xs.getD pl 0 : Nat) : Int) == 2) = false ∧ xs.getD pl 0 = 1) ∨ ((((xs.getD pl 0 : Nat) : Int) != 1) = true ∧ (((xs.getD pl 0 : Nat) : Int) == 2) = true ∧ xs.getD pl 0 = 2) := by
    rcases h12 with h | h <;> rw [h]
    · exact .inl ⟨rfl, rfl, rfl⟩
    · exact .inr ⟨rfl, rfl, rfl⟩
  have e2 : ((((xs.getD pl 0 : Nat) : Int) != 1) = true) → ((((xs.getD pl 0 : Nat) : Int) != 2) = false) := fun h => by
    rcases h12 with g | g <;> rw [g] at h ⊢
    · cases h
    · rfl
  clear hx h12 hr
  go_enter Try.func92, Try.ntmps92
  obtain ⟨x0, hx0⟩ : ∃ x0, xs.getD pl 0 = x0 := ⟨_, rfl⟩
  have HX0 := Lib.hid hx0
  rw [hx0] at HK e12 e2
  rcases e12 with ⟨e1, e3, e4⟩ | ⟨e1, e3, e4⟩
  · clear e2
    go_wp2_with (first
      | ((with_reducible refine stopAt (o := ⟨some 4, _, _, _, _, _⟩) ?_); refine allocNew (o := ⟨some 4, _, _, _, _, _⟩) (by rfl) 45 rfl _ _ info_chS ?_; intro w1 HA1 HW1 HS1)
      | ((with_reducible refine stopAt (o := ⟨some 7, _, _, _, _, _⟩) ?_); refine allocNew (o := ⟨some 7, _, _, _, _, _⟩) (by rfl) 45 rfl _ _ info_chS ?_; intro w2 HA2 HW2 HS2; have HA1' := Lib.hid (BlkIs.below HA1.out HW2.out); have HW := Lib.hid (HW1.out.trans (HW2.out.mono HW1.out.size)); have c0 := (HC0.out w2 HW.out pl hlt).1; rw [hx0] at c0))
    have hne : w.heap.size ≠ w1.heap.size := by have := BlkIs.lt HA1.out; omega
    have hle1 := HW1.out.size
    clear c0 HS1 HS2 hx0
    go_loopw [8] (fun i wr => ∃ j : Nat, j ≤ 32 ∧ i = .int .i64 (j : Int) ∧ Hid (BlkIs wr w.heap.size 45 (chS (zs 32) false (.slice none 0 0)).toArray) ∧ Hid (BlkIs wr w1.heap.size 45 (chS (keyJ r j) false (.slice none 0 0)).toArray) ∧ Hid (Below w.heap.size w wr)) (fun i _ => 32 - (intOf i).toNat)
    case atStart => exact ⟨0, by omega, rfl, HA1'.out, HA2.out, HW.out⟩
    case round =>
      clear HA1' HA2 HW HA1 HW1 HW2
      obtain ⟨j, hj, rfl, HP, HC, HW⟩ := hrel
      by_cases hj32 : j < 32
      · have hj' : (j : Int) < 32 := by omega
        have hkl := keyJ_length HR33.out (j := j) (by omega)
        have b0 : wr.cell? ⟨w1.heap.size, j, none⟩ = some (.int .u8 ((keyJ r j).getD j 0 : Nat)) := (BlkIs.cell HC.out j).trans (by rw [List.getElem?_toArray]; exact chS_atkey (by omega))
        have f0 := BlkIs.frozen HC.out j
        have hcj := (HC0.out wr HW.out (pl + 1 + j) (by omega)).1
        have hji : pl + 1 + j < n := by omega
        have hji' : (pl : Int) + 1 + (j : Int) < n := by omega
        have HN : Hid (BlkIs (wr.setCell ⟨w1.heap.size, j, none⟩ (.int .u8 ((xs.getD (pl + 1 + j) 0 : Nat) : Int))) w1.heap.size 45 (chS (keyJ r (j + 1)) false (.slice none 0 0)).toArray) := by
          have h := chs_setkey HC.out (j := j) (by omega) (r.getD (1 + j) 0)
          rwa [keyJ_next HR33.out hj32, HZ.out j] at h
        have HPn := Lib.hid (BlkIs.far HP.out (p := ⟨w1.heap.size, j, none⟩) hne (.int .u8 ((xs.getD (pl + 1 + j) 0 : Nat) : Int)))
        have HWn := Lib.hid (HW.out.setCell (p := ⟨w1.heap.size, j, none⟩) hle1 (.int .u8 ((xs.getD (pl + 1 + j) 0 : Nat) : Int)))
        generalize (keyJ r j).getD j 0 = z at *
        generalize xs.getD (pl + 1 + j) 0 = y at *
        clear hkl
        go_wp2_with fail
        go_roundw
        case rel => exact ⟨j + 1, by omega, by go_num, HPn.out, HN.out, HWn.out⟩
        case measure => simp [intOf]; omega
      · have hj' : ¬ (j : Int) < 32 := by omega
        have HKE : Hid (keyJ r j = (r.drop 1).take 32) := by rw [show j = 32 by omega]; exact keyJ_end r
        have HKL := Lib.hid (keyJ_length HR33.out (j := j) (by omega))
        generalize keyJ r j = ky at *
        have c0 := (HC0.out wr HW.out pl hlt).1
        rw [HX0.out] at c0
        have hk1 : r.getD 0 0 = 1 := by rw [HK.out, e4]
        have HRL : Hid (r.length = n - pl) := by show _ = _; rw [← HR.out, List.length_drop, HLX.out]
        have HE0 : Hid (takeE r = if n - pl < 35 then 30 else if 128 < numN (r.drop 33) then 32 else if n - pl < 35 + numN (r.drop 33) then 30 else 0) := by
          show _ = _
          unfold takeE
          rw [if_neg (by have := HR33.out; omega), if_neg (by omega), if_pos hk1, HRL.out]
        have HTC : Hid (takeC r = ⟨ky, false, (r.drop 35).take (numN (r.drop 33))⟩) := by
          show _ = _
          unfold takeC
          rw [if_neg (by omega), HKE.out]
        have HTR : Hid (takeR r = (r.drop 35).drop (numN (r.drop 33))) := by
          show _ = _
          unfold takeR
          rw [if_neg (by omega)]
        clear hk1
        by_cases h35 : n < pl + 35
        · have h35' : (n : Int) < (pl : Int) + 33 + 2 := by omega
          have h35d : decide ((n : Int) < (pl : Int) + 33 + 2) = true := decide_eq_true h35'
          have HE : Hid (takeE r = 30) := by show _ = _; rw [HE0.out, if_pos (by omega)]
          go_wp2_with (first
            | ((with_reducible refine stopAt (o := ⟨some 67, _, _, _, _, _⟩) ?_); refine loadRange (o := ⟨some 67, _, _, _, _, _⟩) (by rfl) 45 (.tmp 7) rfl w1.heap.size 0 _ rfl (BlkIs.range HC.out) row_chg (by rw [size_chg, chS_length _ _ HKL.out]) ?_)
            | ((with_reducible refine stopAt (o := ⟨none, .store _ (.tmp 4) _, _, _, _, _⟩) ?_); refine storeV (o := ⟨none, _, _, _, _, _⟩) (by rfl) 45 (.tmp 4) (.tmp 67) rfl w.heap.size _ _ 45 rfl rfl HP.out (by rw [size_chg, chS_length _ _ HKL.out]) (by rw [chS_length _ _ HKL.out]; rfl) (chS_one rfl) ?_; intro w3 HA3 HG3 HS3))
          refine chg_ret (g := w.heap.size) rfl rfl HA3.out (chS_length _ _ HKL.out) rfl rfl rfl ?_
          exact ⟨_, pl + 33, by rw [HR.out, HE.out]; rfl, HW.out.grown HG3.out HW.out.size (fun k hk => by injection hk with hk; omega), chS_length _ _ HKL.out, chS_one rfl, fun h => by rw [HR.out, HE.out] at h; cases h⟩
        · have h35' : ¬ (n : Int) < (pl : Int) + 33 + 2 := by omega
          have h35d : decide ((n : Int) < (pl : Int) + 33 + 2) = false := decide_eq_false h35'
          have hc33 := (HC0.out wr HW.out (pl + 33) (by omega)).1
          have hc34 := (HC0.out wr HW.out (pl + 33 + 1) (by omega)).1
          have hl33 := (HC0.out wr HW.out (pl + 33) (by omega)).2
          have hl34 := (HC0.out wr HW.out (pl + 33 + 1) (by omega)).2
          have hi33 : pl + 33 < n := by omega
          have hi34 : pl + 33 + 1 < n := by omega
          have hi33' : (pl : Int) + 33 < n := by omega
          have hi34' : (pl : Int) + 33 + 1 < n := by omega
          have HNM2 : Hid (numN (r.drop 33) = xs.getD (pl + 33) 0 + 256 * xs.getD (pl + 33 + 1) 0) := HNM.out
          generalize xs.getD (pl + 33) 0 = y0 at *
          generalize xs.getD (pl + 33 + 1) 0 = y1 at *
          go_wp2_with fail
          obtain ⟨p33, hp33⟩ : ∃ p33, pl + 33 = p33 := ⟨_, rfl⟩
          have hp33' : (pl : Int) + 33 = (p33 : Int) := by omega
          obtain ⟨p34, hp34⟩ : ∃ p34, p33 + 1 = p34 := ⟨_, rfl⟩
          have hp34' : (p33 : Int) + 1 = (p34 : Int) := by omega
          have hi33'' : (p33 : Int) < n := by omega
          have hi34'' : (p34 : Int) < n := by omega
          rw [hp33'] at h35' h35d ⊢
          rw [hp33] at hc33 hc34 hi33 hi34
          rw [hp34] at hc34 hi34
          clear hi33' hi34'
          go_quiet (fail)
          have HPq : Hid (BlkIs (wr.drewN nq) w.heap.size 45 (chS (zs 32) false (.slice none 0 0)).toArray) := HP.out.drewN nq
          have HCq : Hid (BlkIs (wr.drewN nq) w1.heap.size 45 (chS ky false (.slice none 0 0)).toArray) := HC.out.drewN nq
          have HWq : Hid (Below w.heap.size w (wr.drewN nq)) := drewN_below HW.out nq
          clear HP HC HW hc33 hc34 c0
          generalize wr.drewN nq = wq at *
          obtain ⟨num, hnum⟩ : ∃ num, numN (r.drop 33) = num := ⟨_, rfl⟩
          rw [hnum] at HNM2 HE0 HTC HTR
          have hni : (y0 : Int) + 256 * (y1 : Int) = (num : Int) := by have := HNM2.out; omega
          rw [hni]
          clear hni hnum
          by_cases hbig : 128 < num
          · have hbig' : (128 : Int) < (num : Int) := by omega
            have HE : Hid (takeE r = 32) := by show _ = _; rw [HE0.out, if_neg (by omega), if_pos hbig]
            go_wp2_with (first
              | ((with_reducible refine stopAt (o := ⟨some 84, _, _, _, _, _⟩) ?_); refine loadRange (o := ⟨some 84, _, _, _, _, _⟩) (by rfl) 45 (.tmp 7) rfl w1.heap.size 0 _ rfl (BlkIs.range HCq.out) row_chg (by rw [size_chg, chS_length _ _ HKL.out]) ?_)
              | ((with_reducible refine stopAt (o := ⟨none, .store _ (.tmp 4) _, _, _, _, _⟩) ?_); refine storeV (o := ⟨none, _, _, _, _, _⟩) (by rfl) 45 (.tmp 4) (.tmp 84) rfl w.heap.size _ _ 45 rfl rfl HPq.out (by rw [size_chg, chS_length _ _ HKL.out]) (by rw [chS_length _ _ HKL.out]; rfl) (chS_one rfl) ?_; intro w3 HA3 HG3 HS3))
            refine chg_ret (g := w.heap.size) rfl rfl HA3.out (chS_length _ _ HKL.out) rfl rfl rfl ?_
            exact ⟨_, p33, by rw [HR.out, HE.out]; rfl, HWq.out.grown HG3.out HWq.out.size (fun k hk => by injection hk with hk; omega), chS_length _ _ HKL.out, chS_one rfl, fun h => by rw [HR.out, HE.out] at h; cases h⟩
          · have hbig' : ¬ (128 : Int) < (num : Int) := by omega
            by_cases hsh : n < pl + 35 + num
            · have hsh' : (n : Int) < (p33 : Int) + 2 + (num : Int) := by omega
              have hshd : decide ((n : Int) < (p33 : Int) + 2 + (num : Int)) = true := decide_eq_true hsh'
              have HE : Hid (takeE r = 30) := by show _ = _; rw [HE0.out, if_neg (by omega), if_neg hbig, if_pos (by omega)]
              go_wp2_with (first
                | ((with_reducible refine stopAt (o := ⟨some 94, _, _, _, _, _⟩) ?_); refine loadRange (o := ⟨some 94, _, _, _, _, _⟩) (by rfl) 45 (.tmp 7) rfl w1.heap.size 0 _ rfl (BlkIs.range HCq.out) row_chg (by rw [size_chg, chS_length _ _ HKL.out]) ?_)
                | ((with_reducible refine stopAt (o := ⟨none, .store _ (.tmp 4) _, _, _, _, _⟩) ?_); refine storeV (o := ⟨none, _, _, _, _, _⟩) (by rfl) 45 (.tmp 4) (.tmp 94) rfl w.heap.size _ _ 45 rfl rfl HPq.out (by rw [size_chg, chS_length _ _ HKL.out]) (by rw [chS_length _ _ HKL.out]; rfl) (chS_one rfl) ?_; intro w3 HA3 HG3 HS3))
              refine chg_ret (g := w.heap.size) rfl rfl HA3.out (chS_length _ _ HKL.out) rfl rfl rfl ?_
              exact ⟨_, p33 + 2, by rw [HR.out, HE.out]; rfl, HWq.out.grown HG3.out HWq.out.size (fun k hk => by injection hk with hk; omega), chS_length _ _ HKL.out, chS_one rfl, fun h => by rw [HR.out, HE.out] at h; cases h⟩
            · have hsh' : ¬ (n : Int) < (p33 : Int) + 2 + (num : Int) := by omega
              have hshd : decide ((n : Int) < (p33 : Int) + 2 + (num : Int)) = false := decide_eq_false hsh'
              have HE : Hid (takeE r = 0) := by show _ = _; rw [HE0.out, if_neg (by omega), if_neg hbig, if_neg (by omega)]
              have HVL : Hid (((r.drop 35).take num).length = num) := by show _ = _; rw [List.length_take, List.length_drop, HRL.out]; omega
              go_wp2_with ((with_reducible refine stopAt (o := ⟨some 101, _, _, _, _, _⟩) ?_); refine sliceMid (o := ⟨some 101, _, _, _, _, _⟩) (by rfl) 31 (.tmp 96) (.tmp 97) (.tmp 100) rfl (by kernel_rfl) (by kernel_rfl) (some ad) n c (pl + 35) (pl + 35 + num) _ _ rfl rfl rfl (by omega) (by omega) (by omega) (by omega) ?_; intro B1 HF1)
              have HRB : Hid (RB wq B1 num ((r.drop 35).take num)) := by
                have h1 : RB wq (some ad) (pl + 35 + num) (xs.take (pl + 35 + num)) := (HX.out.below HWq.out).take (by omega)
                have h2 := h1.drop (k := pl + 35) (B := B1) (by omega) (fun h => HF1.out.1 (by omega))
                rw [List.drop_take, show pl + 35 + num - (pl + 35) = num by omega] at h2
                rwa [← HR.out, List.drop_drop]
              clear HF1
              refine (bytes_any B1 num _ _ wq HRB.out (by omega)).mono ?_
              rintro e w4 ⟨v4, rfl, ho, hb⟩
              obtain ⟨A4, C4, hv4, hr4, hge4, hnil4, hle4⟩ := ho.form
              subst hv4
              rw [HVL.out]
              have HO4 : Hid (RB w4 A4 num ((r.drop 35).take num) ∧ num ≤ C4 ∧ C4 ≤ maxLen ∧ (A4 = none → C4 = 0) ∧ (∀ ad, A4 = some ad → w.heap.size ≤ ad.block ∧ ad.block ≠ w.heap.size ∧ ad.block ≠ w1.heap.size)) := ⟨by rw [HVL.out] at hr4; exact hr4, by rw [HVL.out] at hle4; exact hle4, own_max' ho _ _ _ rfl, hnil4, fun ad e => by
                have q1 := (hge4 ad e).1
                have q2 := BlkIs.lt HCq.out
                omega⟩
              have HP4 := Lib.hid (BlkIs.below HPq.out hb)
              have HC4 := Lib.hid (BlkIs.below HCq.out hb)
              have HW4 := Lib.hid (HWq.out.trans (hb.mono HWq.out.size))
              have b33 : w4.cell? ⟨w1.heap.size, 33, none⟩ = some (.slice none 0 0) := (BlkIs.cell HC4.out 33).trans (by rw [List.getElem?_toArray]; exact chS_at33 HKL.out)
              have f33 := BlkIs.frozen HC4.out 33
              have HCv := Lib.hid (chs_setval HC4.out HKL.out (.slice A4 num C4))
              have HPv := Lib.hid (BlkIs.far HP4.out (p := ⟨w1.heap.size, 33, none⟩) hne (.slice A4 num C4))
              have HWv := Lib.hid (HW4.out.setCell (p := ⟨w1.heap.size, 33, none⟩) hle1 (.slice A4 num C4))
              have HGv : Hid (w4.grownBy (w4.setCell ⟨w1.heap.size, 33, none⟩ (.slice A4 num C4)) (some w1.heap.size)) := grown_setCell w4 33 _
              clear ho hb hr4 hge4 hnil4 hle4 HPq HCq HWq HP4 HC4 HW4
              go_wp2_with (first
                | ((with_reducible refine stopAt (o := ⟨some 104, _, _, _, _, _⟩) ?_); refine loadRange (o := ⟨some 104, _, _, _, _, _⟩) (by rfl) 45 (.tmp 7) rfl w1.heap.size 0 _ rfl (BlkIs.range HCv.out) row_chg (by rw [size_chg, chS_length _ _ HKL.out]) ?_)
                | ((with_reducible refine stopAt (o := ⟨none, .store _ (.tmp 4) _, _, _, _, _⟩) ?_); refine storeV (o := ⟨none, _, _, _, _, _⟩) (by rfl) 45 (.tmp 4) (.tmp 104) rfl w.heap.size _ _ 45 rfl rfl HPv.out (by rw [size_chg, chS_length _ _ HKL.out]) (by rw [chS_length _ _ HKL.out]; rfl) (chS_one rfl) ?_; intro w5 HA5 HG5 HS5))
              refine chg_ret (g := w.heap.size) rfl rfl HA5.out (chS_length _ _ HKL.out) rfl rfl rfl ?_
              refine ⟨_, p33 + 2 + num, by rw [HR.out, HE.out]; rfl, HWv.out.grown HG5.out HWv.out.size (fun k hk => by injection hk with hk; omega), chS_length _ _ HKL.out, chS_one rfl, fun _ => ⟨by rw [HLX.out]; omega, by rw [HR.out, HTR.out, ← HR.out, List.drop_drop, List.drop_drop]; congr 1; omega, A4, C4, ?_⟩⟩
              rw [HR.out, HTC.out]
              refine ⟨by simp only [chC, chS, HVL.out], ?_, ?_, HO4.out.2.2.1, HO4.out.2.2.2.1, fun ad e => (HO4.out.2.2.2.2 ad e).1⟩
              · show RB _ _ _ _
                have hq := HO4.out.2.2.2.2
                have h1 := HO4.out.1.grownBy HGv.out (fun _ ad e he => by injection he with he; exact (hq ad e).2.2 he)
                have h2 := h1.grownBy HG5.out (fun _ ad e he => by injection he with he; exact (hq ad e).2.1 he)
                simp only [HVL.out]
                exact h2
              · simp only [HVL.out]
                exact HO4.out.2.1
  · have e5 := e2 e1
    clear e2
    go_wp2_with (first
      | ((with_reducible refine stopAt (o := ⟨some 4, _, _, _, _, _⟩) ?_); refine allocNew (o := ⟨some 4, _, _, _, _, _⟩) (by rfl) 45 rfl _ _ info_chS ?_; intro w1 HA1 HW1 HS1)
      | ((with_reducible refine stopAt (o := ⟨some 7, _, _, _, _, _⟩) ?_); refine allocNew (o := ⟨some 7, _, _, _, _, _⟩) (by rfl) 45 rfl _ _ info_chS ?_; intro w2 HA2 HW2 HS2; have HA1' := Lib.hid (BlkIs.below HA1.out HW2.out); have HW := Lib.hid (HW1.out.trans (HW2.out.mono HW1.out.size)); have c0 := (HC0.out w2 HW.out pl hlt).1; rw [hx0] at c0))
    have hne : w.heap.size ≠ w1.heap.size := by have := BlkIs.lt HA1.out; omega
    have hle1 := HW1.out.size
    clear c0 HS1 HS2 hx0
    go_loopw [8] (fun i wr => ∃ j : Nat, j ≤ 32 ∧ i = .int .i64 (j : Int) ∧ Hid (BlkIs wr w.heap.size 45 (chS (zs 32) false (.slice none 0 0)).toArray) ∧ Hid (BlkIs wr w1.heap.size 45 (chS (keyJ r j) false (.slice none 0 0)).toArray) ∧ Hid (Below w.heap.size w wr)) (fun i _ => 32 - (intOf i).toNat)
    case atStart => exact ⟨0, by omega, rfl, HA1'.out, HA2.out, HW.out⟩
    case round =>
      clear HA1' HA2 HW HA1 HW1 HW2
      obtain ⟨j, hj, rfl, HP, HC, HW⟩ := hrel
      by_cases hj32 : j < 32
      · have hj' : (j : Int) < 32 := by omega
        have hkl := keyJ_length HR33.out (j := j) (by omega)
        have b0 : wr.cell? ⟨w1.heap.size, j, none⟩ = some (.int .u8 ((keyJ r j).getD j 0 : Nat)) := (BlkIs.cell HC.out j).trans (by rw [List.getElem?_toArray]; exact chS_atkey (by omega))
        have f0 := BlkIs.frozen HC.out j
        have hcj := (HC0.out wr HW.out (pl + 1 + j) (by omega)).1
        have hji : pl + 1 + j < n := by omega
        have hji' : (pl : Int) + 1 + (j : Int) < n := by omega
        have HN : Hid (BlkIs (wr.setCell ⟨w1.heap.size, j, none⟩ (.int .u8 ((xs.getD (pl + 1 + j) 0 : Nat) : Int))) w1.heap.size 45 (chS (keyJ r (j + 1)) false (.slice none 0 0)).toArray) := by
          have h := chs_setkey HC.out (j := j) (by omega) (r.getD (1 + j) 0)
          rwa [keyJ_next HR33.out hj32, HZ.out j] at h
        have HPn := Lib.hid (BlkIs.far HP.out (p := ⟨w1.heap.size, j, none⟩) hne (.int .u8 ((xs.getD (pl + 1 + j) 0 : Nat) : Int)))
        have HWn := Lib.hid (HW.out.setCell (p := ⟨w1.heap.size, j, none⟩) hle1 (.int .u8 ((xs.getD (pl + 1 + j) 0 : Nat) : Int)))
        generalize (keyJ r j).getD j 0 = z at *
        generalize xs.getD (pl + 1 + j) 0 = y at *
        clear hkl
        go_wp2_with fail
        go_roundw
        case rel => exact ⟨j + 1, by omega, by go_num, HPn.out, HN.out, HWn.out⟩
        case measure => simp [intOf]; omega
      · have hj' : ¬ (j : Int) < 32 := by omega
        have HKE : Hid (keyJ r j = (r.drop 1).take 32) := by rw [show j = 32 by omega]; exact keyJ_end r
        have HKL := Lib.hid (keyJ_length HR33.out (j := j) (by omega))
        generalize keyJ r j = ky at *
        have c0 := (HC0.out wr HW.out pl hlt).1
        rw [HX0.out] at c0
        have b32 : wr.cell? ⟨w1.heap.size, 32, none⟩ = some (.bool false) := (BlkIs.cell HC.out 32).trans (by rw [List.getElem?_toArray]; exact chS_at32 HKL.out)
        have f32 := BlkIs.frozen HC.out 32
        have HCd := Lib.hid (chs_setdel HC.out HKL.out true)
        have HPd := Lib.hid (BlkIs.far HP.out (p := ⟨w1.heap.size, 32, none⟩) hne (.bool true))
        have HWd := Lib.hid (HW.out.setCell (p := ⟨w1.heap.size, 32, none⟩) hle1 (.bool true))
        have HE : Hid (takeE r = 0 ∧ takeC r = ⟨ky, true, []⟩ ∧ takeR r = xs.drop (pl + 33)) := by
          have hk := HK.out
          rw [e4] at hk
          refine ⟨?_, ?_, ?_⟩
          · unfold takeE
            rw [if_neg (by have := HR33.out; omega), if_pos hk]
          · unfold takeC
            rw [if_pos hk, HKE.out]
          · unfold takeR
            rw [if_pos hk, ← HR.out, List.drop_drop]
        clear HC HP
        go_wp2_with (first
          | ((with_reducible refine stopAt (o := ⟨some 57, _, _, _, _, _⟩) ?_); refine loadRange (o := ⟨some 57, _, _, _, _, _⟩) (by rfl) 45 (.tmp 7) rfl w1.heap.size 0 _ rfl (BlkIs.range HCd.out) row_chg (by rw [size_chg, chS_length _ _ HKL.out]) ?_)
          | ((with_reducible refine stopAt (o := ⟨none, .store _ (.tmp 4) _, _, _, _, _⟩) ?_); refine storeV (o := ⟨none, _, _, _, _, _⟩) (by rfl) 45 (.tmp 4) (.tmp 57) rfl w.heap.size _ _ 45 rfl rfl HPd.out (by rw [size_chg, chS_length _ _ HKL.out]) (by rw [chS_length _ _ HKL.out]; rfl) (chS_one rfl) ?_; intro w3 HA3 HG3 HS3))
        refine chg_ret (g := w.heap.size) rfl rfl HA3.out (chS_length _ _ HKL.out) rfl rfl rfl ?_
        refine ⟨_, pl + 33, by rw [HR.out, HE.out.1]; rfl, HWd.out.grown HG3.out HWd.out.size (fun k hk => by injection hk with hk; omega), chS_length _ _ HKL.out, chS_one rfl, fun _ => ⟨by rw [HLX.out]; omega, by rw [HR.out, HE.out.2.2], none, 0, ?_⟩⟩
        rw [HR.out, HE.out.2.1]
        exact ⟨rfl, RB.nil _ _, Nat.le_refl _, Nat.zero_le _, fun _ => rfl, fun ad e => by cases e⟩
end Go.Proofs.Ytkpbeibcfaenhaa

/- ledgerref3.Parse. -/
namespace Go.Proofs.Ytkpbeibcfaenhaa
open Go.RowKit
theorem one_any (A : Option Addr) (n c pl : Nat) (xs : List Nat) (w : World) (hx : RB w A n xs) (hnc : n ≤ c) (hn : n ≤ 140737488355328) (hp : pl ≤ n) :
    Calls Try.prog 92 #[.slice A n c, .int .i64 (pl : Int)] w (OnePost xs pl w) := by
  by_cases h : n ≤ pl ∨ (¬ xs.getD pl 0 = 1 ∧ ¬ xs.getD pl 0 = 2) ∨ n < pl + 33
  · exact one_short A n c pl xs w hx hn hp h
  · refine one_known A n c pl xs w hx hnc hn (by omega) (by omega)
set_option maxRecDepth 100000 in
set_option maxHeartbeats 4000000 in
theorem refparse_any (A : Option Addr) (n c : Nat) (xs : List Nat) (w : World) (hx : RB w A n xs) (hnc : n ≤ c) (hn : n ≤ 140737488355328) :
    Calls Try.prog 83 #[.slice A n c] w (ParsePost xs w) := by
  have HX := Lib.hid hx
  have HLX := Lib.hid hx.1
  by_cases h2 : n < 2
  · have HE : Hid (parseE xs = (30, 0)) := by show _ = _; unfold parseE; rw [if_pos (by rw [HLX.out]; exact h2)]
    have h2' : (n : Int) < 2 := by omega
    clear hx
    go_enter Try.func83, Try.ntmps83
    go_wp2_with fail
    refine tmp3_ret rfl rfl rfl rfl rfl ?_
    exact ⟨_, by rw [HE.out]; rfl, Below.refl _ _, fun _ => rfl, fun h => by rw [HE.out] at h; cases h⟩
  · have h2' : ¬ (n : Int) < 2 := by omega
    obtain ⟨ad, rfl, hb, hc0⟩ := hx.at_ (k := 0) (by omega)
    obtain ⟨ad', e', _, hc1⟩ := hx.at_ (k := 1) (by omega)
    injection e' with e'
    subst e'
    rw [show ad.add 0 = ad by simp [Addr.add]] at hc0
    have hc1b : w.cell? ⟨ad.block, ad.off + 1, none⟩ = some (.int .u8 ((xs.getD 1 0 : Nat) : Int)) := hc1
    have hy0 := hx.lt (k := 0) (by omega)
    have hy1 := hx.lt (k := 1) (by omega)
    have HNM : Hid (numN xs = xs.getD 0 0 + 256 * xs.getD 1 0) := rfl
    have hn2 : (1 : Int) < n := by omega
    have hn3 : (0 : Int) < n := by omega
    have hn4 : 1 < n := by omega
    have hn5 : 0 < n := by omega
    clear hx hc1
    generalize xs.getD 0 0 = y0 at *
    generalize xs.getD 1 0 = y1 at *
    go_enter Try.func83, Try.ntmps83
    go_wp2_with fail
    go_quiet (fail)
    have HB1 : Hid (Below w.heap.size w (w.drewN nq)) := drewN_below (Below.refl _ _) nq
    generalize w.drewN nq = w1 at *
    obtain ⟨num, hnum⟩ : ∃ num, numN xs = num := ⟨_, rfl⟩
    have HNU := Lib.hid hnum
    have hni : (y0 : Int) + 256 * (y1 : Int) = (num : Int) := by have := HNM.out; omega
    rw [hni]
    have HEV : Hid (parseE xs = if 64 < num then (31, 0) else if 0 ≤ failK (xs.drop 2) num then (takeE (restK (xs.drop 2) (failK (xs.drop 2) num).toNat), failK (xs.drop 2) num) else
      if 0 < (restK (xs.drop 2) num).length then (30, num) else if 0 ≤ repN (parC (xs.drop 2)) num then (33, repN (parC (xs.drop 2)) num) else (0, 0)) := by
      show _ = _
      unfold parseE
      rw [if_neg (by rw [HLX.out]; exact h2), hnum]
    clear hc0 hc1b hnum
    by_cases hbig : 64 < num
    · have HE : Hid (parseE xs = (31, 0)) := by show _ = _; rw [HEV.out, if_pos hbig]
      have hbig' : (64 : Int) < (num : Int) := by omega
      go_wp2_with fail
      refine tmp3_ret rfl rfl rfl rfl rfl ?_
      exact ⟨_, by rw [HE.out]; rfl, HB1.out, fun _ => rfl, fun h => by rw [HE.out] at h; cases h⟩
    · have hbig' : ¬ (64 : Int) < (num : Int) := by omega
      go_wp2_with fail
      obtain ⟨r0, hr0⟩ : ∃ r0, xs.drop 2 = r0 := ⟨_, rfl⟩
      have HR0 := Lib.hid hr0
      rw [hr0] at HEV
      clear hr0 hb hni
      go_loopw [6, 7, 8] (fun v pv i wr => ∃ k p : Nat, k ≤ num ∧ p ≤ n ∧ i = .int .i64 k ∧ pv = .int .i64 (p : Int) ∧ Hid (xs.drop p = restK r0 k) ∧ (∃ Ad Cp, Hid (ChsOwn wr w.heap.size v k (parC r0) Ad Cp)) ∧ Hid (failK r0 k < 0) ∧ Hid (Below w.heap.size w wr)) (fun _ _ i _ => num - (intOf i).toNat)
      case atStart => exact ⟨0, 2, by omega, by omega, rfl, rfl, HR0.out, ⟨fun _ => none, fun _ => 0, ChsOwn.nil _ _ _ _ _⟩, (show (-1 : Int) < 0 by decide), HB1.out⟩
      case round =>
        clear HB1
        obtain ⟨k, p, hk, hpn, rfl, rfl, HP, ⟨Ad, Cp, HO⟩, HF, HB⟩ := hrel
        obtain ⟨w3, rfl⟩ : ∃ w3, w3 = wr := ⟨_, rfl⟩
        by_cases hlt : k < num
        · have hlt' : (k : Int) < num := by omega
          have HIB : Hid (IsB (restK r0 k)) := by rw [← HP.out]; exact HX.out.isB.drop p
          go_wp2_with fail
          refine (one_any (some ad) n c p xs w3 (HX.out.below HB.out) hnc hn hpn).mono ?_
          rintro e w4 ⟨cs, p4, rfl, hb4, hcl, hone, hok⟩
          rw [HP.out] at hok ⊢
          have HB4 := Lib.hid (HB.out.trans (hb4.mono HB.out.size))
          have HONE := Lib.hid hone
          have HCL := Lib.hid hcl
          by_cases h0 : takeE (restK r0 k) = 0
          · have HFn := Lib.hid (failK_next HF.out h0)
            obtain ⟨hp4, hrest, Av, Cv, hcs, hr, hle, hcm, hnil, hlo⟩ := hok h0
            rw [HLX.out] at hp4
            have HO4 := Lib.hid (HO.out.later hb4)
            have HK4 := Lib.hid (takeC_key h0 HIB.out)
            have HV4 := Lib.hid (show RB w4 Av (parC r0 k).val.length (parC r0 k).val ∧ (parC r0 k).val.length ≤ Cv ∧ Cv ≤ maxLen ∧ (Av = none → Cv = 0) from ⟨hr, hle, hcm, hnil⟩)
            have HAP : Hid (0 < (parC r0 k).val.length → ∀ ad, Av = some ad → some ad.block ≠ u6.ownBlock) := fun _ ad e he => by
              have q1 := hlo ad e
              have q2 := (HO.out.own.lt _ he.symm).2
              omega
            have HCS := Lib.hid hcs
            have HRS : Hid (xs.drop p4 = restK r0 (k + 1)) := hrest
            rw [h0]
            clear hr hle hcm hnil hlo hrest hok hb4 hone hcl hcs h0
            go_wp2_with (first
              | ((with_reducible refine stopAt (o := ⟨some 9, _, _, _, _, _⟩) ?_); refine allocNew (o := ⟨some 9, _, _, _, _, _⟩) (by rfl) 45 rfl _ _ info_chS ?_; intro w5 HA5 HW5 HS5)
              | ((with_reducible refine stopAt (o := ⟨none, .store _ (.tmp 9) _, _, _, _, _⟩) ?_); refine storeV (o := ⟨none, _, _, _, _, _⟩) (by rfl) 45 (.tmp 9) (.tmp 37) rfl w4.heap.size cs _ 45 rfl rfl HA5.out (by rw [size_chg, HCL.out]) (by rw [HCL.out]; rfl) HONE.out ?_; intro w6 HA6 HG6 HS6; have HW6 : Hid (Below w4.heap.size w4 w6) := HW5.out.grown HG6.out HW5.out.size (fun k hk => by injection hk with hk; omega); have HO6 := Lib.hid (HO4.out.later HW6.out); have HB6 := Lib.hid (HB4.out.trans (HW6.out.mono HB4.out.size)))
              | ((with_reducible refine stopAt (o := ⟨some 45, _, _, _, _, _⟩) ?_); refine loadRange (o := ⟨some 45, _, _, _, _, _⟩) (by rfl) 45 (.tmp 9) rfl w4.heap.size 0 cs rfl (BlkIs.range HA6.out) row_chg (by rw [size_chg, HCL.out]) ?_)
              | ((with_reducible refine stopAt (o := ⟨some 46, _, _, _, _, _⟩) ?_); refine buildSlice1 (o := ⟨some 46, _, _, _, _, _⟩) rfl w6 30 45 _ 34 (.tmp 45) rfl und_chl info_chg (by decide) (by decide) cs.toArray rfl (by rw [List.size_toArray, HCL.out]) ?_)
              | ((with_reducible refine stopAt (o := ⟨some 47, _, _, _, _, _⟩) ?_); refine append1C (o := ⟨some 47, _, _, _, _, _⟩) und_chl info_chg3 rfl w6 rfl (.tmp 44) (.tmp 46) rfl w.heap.size u6 k _ HO6.out.own cs HCL.out HONE.out rfl rfl (by omega) (by omega) HB6.out.size ?_; intro v7 w7 ho7 hg7 hl7; have HO7 := Lib.hid (HO6.out.more HK4.out ⟨HV4.out.1.below HW6.out, HV4.out.2⟩ HAP.out (HCS.out ▸ ho7) hg7 hl7); have HB7 : Hid (Below w.heap.size w w7) := HB6.out.grown hg7 HB6.out.size HO6.out.ge; clear ho7 hg7 hl7))
            go_roundw
            case rel => exact ⟨k + 1, p4, by omega, hp4, by go_num, rfl, HRS.out, ⟨_, _, by
              show ChsOwn _ _ _ _ _ _ _
              have h := HO7.out
              rwa [show takeC (restK r0 k) = parC r0 k from rfl, upd_self] at h⟩, HFn.out, HB7.out⟩
            case measure => simp [intOf]; omega
          · have hfk : failK r0 num = k := by
              have h := failK_here HF.out h0
              rw [failK_keep (show k + 1 ≤ num by omega) (by rw [h]; omega), h]
            have HE : Hid (parseE xs = (takeE (restK r0 k), (k : Int))) := by show _ = _; rw [HEV.out, if_neg hbig, hfk, if_pos (by omega), Int.toNat_natCast]
            have hz1 : ((takeE (restK r0 k) : Nat) : Int) ≠ 0 := by omega
            have hz2 : (((takeE (restK r0 k) : Nat) : Int) != 0) = true := by rw [bne_iff_ne]; exact hz1
            have HZ : Hid (¬ takeE (restK r0 k) = 0) := h0
            clear hok hb4 hone hcl h0 hfk
            generalize takeE (restK r0 k) = z at *
            go_wp2_with (first
              | ((with_reducible refine stopAt (o := ⟨some 9, _, _, _, _, _⟩) ?_); refine allocNew (o := ⟨some 9, _, _, _, _, _⟩) (by rfl) 45 rfl _ _ info_chS ?_; intro w5 HA5 HW5 HS5)
              | ((with_reducible refine stopAt (o := ⟨none, .store _ (.tmp 9) _, _, _, _, _⟩) ?_); refine storeV (o := ⟨none, _, _, _, _, _⟩) (by rfl) 45 (.tmp 9) (.tmp 37) rfl w4.heap.size cs _ 45 rfl rfl HA5.out (by rw [size_chg, HCL.out]) (by rw [HCL.out]; rfl) HONE.out ?_; intro w6 HA6 HG6 HS6; have HW6 : Hid (Below w4.heap.size w4 w6) := HW5.out.grown HG6.out HW5.out.size (fun k hk => by injection hk with hk; omega); have HB6 := Lib.hid (HB4.out.trans (HW6.out.mono HB4.out.size))))
            refine tmp3_ret rfl rfl rfl rfl rfl ?_
            exact ⟨_, by rw [HE.out]; rfl, HB6.out, fun _ => rfl, fun h => by rw [HE.out] at h; exact absurd h HZ.out⟩
        · have hnlt : ¬ (k : Int) < num := by omega
          obtain rfl : k = num := by omega
          have HLP : Hid ((restK r0 k).length = n - p) := by show _ = _; rw [← HP.out, List.length_drop, HLX.out]
          have HFN := HF.out
          have HLPo := HLP.out
          by_cases hm0 : p < n
          · have HE : Hid (parseE xs = (30, (k : Int))) := by show _ = _; rw [HEV.out, if_neg hbig, if_neg (by omega), if_pos (by omega)]
            have hm1 : ((p : Int) != (n : Int)) = true := by rw [bne_iff_ne]; omega
            clear HFN HLPo
            go_wp2_with fail
            refine tmp3_ret rfl rfl rfl rfl rfl ?_
            exact ⟨_, by rw [HE.out]; rfl, HB.out, fun _ => rfl, fun h => by rw [HE.out] at h; cases h⟩
          · have hm1 : ((p : Int) != (n : Int)) = false := by rw [show p = n by omega]; simp
            have HEV2 : Hid (parseE xs = if 0 ≤ repN (parC r0) k then (33, repN (parC r0) k) else (0, 0)) := by show _ = _; rw [HEV.out, if_neg hbig, if_neg (by omega), if_neg (by omega)]
            obtain ⟨Av, Cv, hv, hch, _⟩ := HO.out.form
            subst hv
            have HCH := Lib.hid hch
            clear HFN HLPo hch
            go_wp2_with fail
            refine (twice_any Av k Cv (parC r0) w3 HCH.out).mono ?_
            rintro e w4 ⟨rfl, q, hq⟩
            have HO4 : Hid (ChsOwn w4 w.heap.size (.slice Av k Cv) k (parC r0) Ad Cp) := by rw [hq]; exact HO.out.later (drewN_below (Below.refl _ _) q)
            have HB4 : Hid (Below w.heap.size w w4) := by rw [hq]; exact drewN_below HB.out q
            clear hq
            by_cases hr : 0 ≤ repN (parC r0) k
            · have HE : Hid (parseE xs = (33, repN (parC r0) k)) := by show _ = _; rw [HEV2.out, if_pos hr]
              generalize repN (parC r0) k = z at *
              go_wp2_with fail
              refine tmp3_ret rfl rfl rfl rfl rfl ?_
              exact ⟨_, by rw [HE.out]; rfl, HB4.out, fun _ => rfl, fun h => by rw [HE.out] at h; cases h⟩
            · have HE : Hid (parseE xs = (0, 0)) := by show _ = _; rw [HEV2.out, if_neg hr]
              generalize repN (parC r0) k = z at *
              go_wp2_with fail
              refine tmp3_ret rfl rfl rfl rfl rfl ?_
              exact ⟨_, by rw [HE.out]; rfl, HB4.out, fun h => absurd (by rw [HE.out]) h, fun _ => ⟨Ad, Cp, by rw [HNU.out, HR0.out]; exact HO4.out⟩⟩
end Go.Proofs.Ytkpbeibcfaenhaa
