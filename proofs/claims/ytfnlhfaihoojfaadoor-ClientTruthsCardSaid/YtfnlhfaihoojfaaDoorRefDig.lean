/- ledgerref1.Sum. -/
import Derived.Test.YtfnlhfaihoojfaaDoorFilled
namespace Go.Proofs.YtfnlhfaihoojfaaDoor
open Go.RowKit
theorem storeU {P : Program} {ops : Array Oper} {rest : List Oper} {o : Oper} {a : Act} {w : World} {Q : Exit → Act → World → Prop} (hgd : o.guard = none) (ty : TypeId) (x y : Operand) (ho : o.op = .store ty x y)
    (g n : Nat) (xs old : List Nat) (t : TypeId) (hx : a.eval x = .pointer (some ⟨g, 0, none⟩)) (hy : a.eval y = .agg (uvs xs).toArray) (hL : BlkU w g t old) (hi : (P.info? ty).map (·.size) = some n) (h1 : xs.length = n) (h2 : old.length = n)
    (h : ∀ w', Hid (BlkU w' g t xs) → Hid (w.grownBy w' (some g)) → Hid (w'.heap.size = w.heap.size) → wpList P ops Q rest (a.put o.dst undef) w') : wpList P ops Q (o :: rest) a w :=
  storeV hgd ty x y ho g (uvs xs) (uvs old) t hx hy hL (by rw [hi, uvs_length, h1]) (by rw [uvs_length, uvs_length, h1, h2]) (uvs_oneCell xs) h
theorem loadU {P : Program} {ops : Array Oper} {rest : List Oper} {o : Oper} {a : Act} {w : World} {Q : Exit → Act → World → Prop} (hgd : o.guard = none) (ty : TypeId) (x : Operand) (ho : o.op = .load ty x)
    (g n : Nat) (t : TypeId) (xs : List Nat) (hx : a.eval x = .pointer (some ⟨g, 0, none⟩)) (hb : BlkU w g t xs) (hrow : (P.underlying ty).map (·.isRow) = some true) (hi : (P.info? ty).map (·.size) = some n) (hl : xs.length = n)
    (h : wpList P ops Q rest (a.put o.dst (.agg (uvs xs).toArray)) w) : wpList P ops Q (o :: rest) a w :=
  loadRange hgd ty x ho g 0 (uvs xs) hx (BlkIs.range hb) hrow (by rw [hi, uvs_length, hl]) h
theorem flat_at (L : List Nat) {k : Nat} (h : k < 4 * L.length) : (L.flatMap beB).getD k 0 = L.getD (k / 4) 0 / 2 ^ (24 - 8 * (k % 4)) % 256 := by
  induction L generalizing k with
  | nil => simp at h
  | cons x r ih =>
    rw [List.flatMap_cons]
    rcases Nat.lt_or_ge k 4 with h4 | h4
    · have : k = 0 ∨ k = 1 ∨ k = 2 ∨ k = 3 := by omega
      rcases this with rfl | rfl | rfl | rfl <;> simp [beB, List.getD]
    · have e1 : (beB x ++ r.flatMap beB).getD k 0 = (r.flatMap beB).getD (k - 4) 0 := by
        simp only [List.getD]
        rw [List.getElem?_append_right (by simpa [beB] using h4)]
        rfl
      have e2 : (x :: r).getD (k / 4) 0 = r.getD ((k - 4) / 4) 0 := by
        rw [show k / 4 = (k - 4) / 4 + 1 by omega]
        rfl
      rw [e1, e2, ih (by simp only [List.length_cons] at h; omega), show (k - 4) % 4 = k % 4 by omega]
def cutZ (D : List Nat) (k : Nat) : List Nat := D.take k ++ zs (32 - k)
theorem cutZ_length {D : List Nat} (h : D.length = 32) {k : Nat} (hk : k ≤ 32) : (cutZ D k).length = 32 := by
  simp only [cutZ, List.length_append, List.length_take, zs_length, h]; omega
theorem cutZ_next {D : List Nat} (h : D.length = 32) {k : Nat} (hk : k < 32) : (cutZ D k).set k (D.getD k 0) = cutZ D (k + 1) := by
  unfold cutZ zs
  rw [List.set_append_right _ _ (by rw [List.length_take]; omega), List.length_take, show k - min k D.length = 0 by omega, show 32 - k = (32 - (k + 1)) + 1 by omega, List.replicate_succ, List.set_cons_zero,
    take_succ_getD (by omega)]
  simp
theorem cutZ_end {D : List Nat} (h : D.length = 32) : cutZ D 32 = D := by
  unfold cutZ
  rw [List.take_of_length_le (by omega)]
  simp [zs]
theorem behind_at (F ws : List Nat) (q : Nat) (w : World) (hB : IsB F) (hws : wordsN ((F.drop (64 * q)).take 64) 64 = ws) (ht : TabU w 3 kL) :
    Calls Tryd.prog 67 #[.agg (uvs (stAt F q).list).toArray, .agg (uvs ws).toArray] w fun e w' => e = .returned (.agg (uvs (stAt F (q + 1)).list).toArray) ∧ Below w.heap.size w w' := by
  subst hws
  exact behind_any (stAt F q) _ w (stAt_ok F q) (wordsN_w ((hB.drop _).take _) 64) (wordsN_length _ _) ht
structure Tabs1 (w : World) : Prop where
  first_ : TabU w 1 hL
  consts_ : TabU w 3 kL
theorem Tabs1.below {w w' : World} (h : Tabs1 w) (hb : Below w.heap.size w w') : Tabs1 w' := ⟨h.1.below hb, h.2.below hb⟩
theorem dig7 {w3 w5 w6 w7 : World} {gs : Nat} {t : TypeId} {L : List Nat} (HI : Hid (BlkU w3 gs t L)) (HB5 : Hid (Below w3.heap.size w3 w5)) (HW6 : Hid (Below w5.heap.size w5 w6)) (HG7 : Hid (w6.grownBy w7 (some w5.heap.size))) : BlkU w7 gs t L :=
  BlkIs.grown (BlkIs.below (BlkIs.below HI.out HB5.out) HW6.out) HG7.out (by
    have h1 := BlkIs.lt HI.out
    have h2 := HB5.out.size
    intro e; injection e with e; omega)
theorem dig7b {w2 w3 w5 w6 w7 : World} (HB : Hid (Below w2.heap.size w2 w3)) (HB5 : Hid (Below w3.heap.size w3 w5)) (HW6 : Hid (Below w5.heap.size w5 w6)) (HG7 : Hid (w6.grownBy w7 (some w5.heap.size))) : Below w2.heap.size w2 w7 := by
  have h1 := HB.out.size
  have h2 := HB5.out.size
  have h3 := HW6.out.size
  exact ((HB.out.trans (HB5.out.mono h1)).trans (HW6.out.mono (by omega))).grown HG7.out (by omega) (fun k hk => by injection hk with hk; omega)
set_option maxRecDepth 100000 in
set_option maxHeartbeats 4000000 in
theorem refdig_any (A : Option Addr) (n c : Nat) (xs : List Nat) (w : World) (hx : RB w A n xs) (hA : A = none → c = 0) (hn : n + 128 ≤ 140737488355328) (ht : Tabs1 w) :
    Calls Tryd.prog 43 #[.slice A n c] w fun e w' => e = .returned (.agg (bvs (shaN xs)).toArray) ∧ Below w.heap.size w w' := by
  have HX := Lib.hid hx
  have HA := Lib.hid hA
  have HT := Lib.hid ht
  have hlx := hx.1
  have HFL : Hid ((fillN xs).length % 64 = 0 ∧ (fillN xs).length ≤ n + 128 ∧ IsB (fillN xs)) := by
    refine ⟨fillN_length xs, ?_, ?_⟩
    · unfold fillN
      rw [List.length_append, padN_length, hlx]
      omega
    · refine hx.isB.app ?_
      have := tailL_pad xs.length
      rw [← this]
      exact (tailL_isB _ _ _).take _
  clear hx hA ht hlx
  obtain ⟨F, HF⟩ : ∃ F, Hid (∀ _ : Nat, fillN xs = F) := ⟨_, fun _ => rfl⟩
  rw [HF.out 0] at HFL
  go_enter Tryd.func43, Tryd.ntmps43
  go_wp2_with (first
    | ((with_reducible refine stopAt (o := ⟨some 2, _, _, _, _, _⟩) ?_); refine allocNew (o := ⟨some 2, _, _, _, _, _⟩) (by rfl) 29 rfl _ _ info_dig ?_; intro w1 HB1 HW1 HS1)
    | (go_at_call 65; ((refine (filled_any A n c xs _ (HX.out.below HW1.out) HA.out hn).mono ?_); rintro e w2 ⟨v2, rfl, hown2, hb2⟩; rw [HF.out 0] at hown2; obtain ⟨A2, c2, rfl, hr2, _⟩ := hown2.form; have HR2 := Lib.hid hr2; have HW2 := Lib.hid hb2; clear hown2 hb2 hr2))
    | ((with_reducible refine stopAt (o := ⟨some 11, _, _, _, _, _⟩) ?_); refine loadRange (o := ⟨some 11, _, _, _, _, _⟩) (by rfl) 82 (.global 1) rfl 1 0 (uvs hL) rfl ((HT.out.below HW1.out).below HW2.out).1.range row_8 (by rw [size_8]; rfl) ?_; (try simp only [Act.put, List.setIfInBounds_toArray, List.set_cons_zero, List.set_cons_succ]))
    | ((with_reducible refine stopAt (o := ⟨some 4, _, _, _, _, _⟩) ?_); refine allocNew (o := ⟨some 4, _, _, _, _, _⟩) (by rfl) 82 rfl _ _ info_8 ?_; intro w3 HB3 HW3 HS3; (try simp only [Act.put, List.setIfInBounds_toArray, List.set_cons_zero, List.set_cons_succ]))
    | ((with_reducible refine stopAt (o := ⟨none, .store _ _ _, _, _, _, _⟩) ?_); refine storeU (o := ⟨none, _, _, _, _, _⟩) (by rfl) 82 (.tmp 4) (.tmp 11) rfl w2.heap.size 8 hL (zs 8) 82 rfl rfl HB3.out size_8 (by rfl) (by rfl) ?_; intro w4 HB4 HG4 HS4))
  have HB0 : Hid (Below w2.heap.size w2 w4) := HW3.out.grown HG4.out HW3.out.size (fun k hk => by injection hk with hk; omega)
  have HT2 : Hid (Tabs1 w2) := (HT.out.below HW1.out).below HW2.out
  have HQ : Hid (∀ q, 64 * q < F.length → 64 * q + 64 ≤ F.length) := fun q hq => by
    have := HFL.out.1
    omega
  have HFn : Hid (F.length ≤ 140737488355328) := by
    have := HFL.out.2.1
    show _ ≤ _
    omega
  have HI0 : Hid (BlkU w4 w2.heap.size 82 (stAt F 0).list) := HB4.out
  have hfl : F.length ≤ 140737488355328 := HFn.out
  clear HB3 HW3 HS3 HB4 HG4 HS4
  go_loopw [5] (fun i wr => ∃ q : Nat, 64 * q ≤ F.length ∧ i = .int .i64 ((64 * q : Nat) : Int) ∧ Hid (BlkU wr w2.heap.size 82 (stAt F q).list) ∧ Hid (Below w2.heap.size w2 wr)) (fun i _ => F.length - (intOf i).toNat)
  case atStart => exact ⟨0, by omega, rfl, HI0.out, HB0.out⟩
  case round =>
    clear HI0 HB0
    obtain ⟨q, hq, rfl, HI, HB⟩ := hrel
    obtain ⟨w3, rfl⟩ : ∃ w3, w3 = wr := ⟨_, rfl⟩
    by_cases hlt : 64 * q < F.length
    · have h64 := HQ.out q hlt
      obtain ⟨ws, HWS⟩ : ∃ ws, Hid (∀ _ : Nat, wordsN ((F.drop (64 * q)).take 64) 64 = ws) := ⟨_, fun _ => rfl⟩
      have HWL : Hid (∀ _ : Nat, ws.length = 64) := fun _ => by rw [← HWS.out 0, wordsN_length]
      have HIL : Hid (∀ q, (stAt F q).list.length = 8) := fun _ => rfl
      go_wp2_with (first
        | (go_at_call 66; ((refine (words_all ws A2 F.length c2 (64 * q) F _ (HR2.out.below HB.out) h64 hfl (HWS.out 0)).mono ?_); rintro e w5 ⟨rfl, hb5⟩; have HB5 := Lib.hid hb5; clear hb5))
        | ((with_reducible refine stopAt (o := ⟨some 6, _, _, _, _, _⟩) ?_); refine allocNew (o := ⟨some 6, _, _, _, _, _⟩) (by rfl) 111 rfl _ _ info_64 ?_; intro w6 HB6 HW6 HS6; (try simp only [Act.put, List.setIfInBounds_toArray, List.set_cons_zero, List.set_cons_succ]))
        | ((with_reducible refine stopAt (o := ⟨none, .store _ (.tmp 6) _, _, _, _, _⟩) ?_); refine storeU (o := ⟨none, _, _, _, _, _⟩) (by rfl) 111 (.tmp 6) (.tmp 20) rfl w5.heap.size 64 ws (zs 64) 111 rfl rfl HB6.out size_64 (HWL.out 0) (zs_length 64) ?_; intro w7 HB7 HG7 HS7; have HI7 := Lib.hid (dig7 HI HB5 HW6 HG7); have HY7 := Lib.hid (dig7b HB HB5 HW6 HG7))
        | ((with_reducible refine stopAt (o := ⟨some 21, _, _, _, _, _⟩) ?_); refine loadU (o := ⟨some 21, _, _, _, _, _⟩) (by rfl) 82 (.tmp 4) rfl w2.heap.size 8 82 (stAt F q).list rfl HI7.out row_8 size_8 (HIL.out q) ?_; (try simp only [Act.put, List.setIfInBounds_toArray, List.set_cons_zero, List.set_cons_succ]))
        | ((with_reducible refine stopAt (o := ⟨some 22, _, _, _, _, _⟩) ?_); refine loadU (o := ⟨some 22, _, _, _, _, _⟩) (by rfl) 111 (.tmp 6) rfl w5.heap.size 64 111 ws rfl HB7.out row_64 size_64 (HWL.out 0) ?_; (try simp only [Act.put, List.setIfInBounds_toArray, List.set_cons_zero, List.set_cons_succ]))
        | (go_at_call 67; ((refine (behind_at F ws q _ HFL.out.2.2 (HWS.out 0) (HT2.out.2.below HY7.out)).mono ?_); rintro e w8 ⟨rfl, hb8⟩; have HB8 := Lib.hid hb8; clear hb8))
        | ((with_reducible refine stopAt (o := ⟨none, .store _ (.tmp 4) _, _, _, _, _⟩) ?_); refine storeU (o := ⟨none, _, _, _, _, _⟩) (by rfl) 82 (.tmp 4) (.tmp 23) rfl w2.heap.size 8 (stAt F (q + 1)).list (stAt F q).list 82 rfl rfl (BlkIs.below HI7.out HB8.out) size_8 (HIL.out (q + 1)) (HIL.out q) ?_; intro w9 HB9 HG9 HS9))
      have HBn : Hid (Below w2.heap.size w2 w9) := (HY7.out.trans (HB8.out.mono HY7.out.size)).grown HG9.out (by have h1 := HY7.out.size; have h2 := HB8.out.size; omega) (fun k hk => by injection hk with hk; omega)
      go_roundw
      case rel => exact ⟨q + 1, by omega, by go_num, HB9.out, HBn.out⟩
      case measure => simp [intOf]; omega
    · have HSF : Hid (∀ _ : Nat, (stAt F q).list.flatMap beB = shaN xs) := fun _ => by
        have h1 := HFL.out.1
        unfold shaN
        rw [HF.out 0, show F.length / 64 = q by omega]
      have HSL : Hid (∀ _ : Nat, (stAt F q).list.length = 8) := fun _ => rfl
      have HDA : Hid (∀ k, k < 32 → (shaN xs).getD k 0 = (stAt F q).list.getD (k / 4) 0 / 2 ^ (24 - 8 * (k % 4)) % 256) := fun k hk => by
        rw [← HSF.out 0]
        exact flat_at _ (by rw [HSL.out 0]; exact hk)
      obtain ⟨D, HD⟩ : ∃ D, Hid (∀ _ : Nat, shaN xs = D) := ⟨_, fun _ => rfl⟩
      rw [HD.out 0] at HDA
      have HDL : Hid (∀ _ : Nat, D.length = 32) := fun _ => by rw [← HD.out 0, shaN_length]
      have HDB : Hid (IsB D) := by
        rw [← HD.out 0]
        exact shaN_isB xs
      obtain ⟨L, HLL⟩ : ∃ L, Hid (∀ _ : Nat, (stAt F q).list = L) := ⟨_, fun _ => rfl⟩
      rw [HLL.out 0] at HDA HI HSL
      have HWd : Hid (Below w.heap.size w w3) := (HW1.out.trans (HW2.out.mono HW1.out.size)).trans (HB.out.mono (by have h1 := HW1.out.size; have h2 := HW2.out.size; omega))
      go_wp2_with (first
        | ((with_reducible refine stopAt (o := ⟨some 7, _, _, _, _, _⟩) ?_); refine allocNew (o := ⟨some 7, _, _, _, _, _⟩) (by rfl) 29 rfl _ _ info_dig ?_; intro w5 HB5 HW5 HS5; (try simp only [Act.put, List.setIfInBounds_toArray, List.set_cons_zero, List.set_cons_succ])))
      have HI5 : Hid (BlkU w5 w2.heap.size 82 L) := BlkIs.below HI.out HW5.out
      have HR5 : Hid (BlkB w5 w.heap.size 29 (zs 32)) := by
        have h1 : BlkIs w2 w.heap.size 29 (zarr 32) := BlkIs.below HB1.out HW2.out
        exact BlkIs.below (BlkIs.below h1 HB.out) HW5.out
      have HY5 : Hid (Below w.heap.size w w5) := HWd.out.trans (HW5.out.mono HWd.out.size)
      have HN5 : Hid (w.heap.size < w3.heap.size ∧ w2.heap.size < w3.heap.size) := ⟨by have h1 := HS1.out; have h2 := HW2.out.size; have h3 := HB.out.size; omega, BlkIs.lt HI.out⟩
      have HC5 : Hid (BlkB w5 w3.heap.size 29 (cutZ D 0)) := HB5.out
      clear HI HB HB5 HW5 HS5 HWd
      generalize w3.heap.size = gd at *
      go_loopw [8] (fun i wr => ∃ k : Nat, k ≤ 32 ∧ i = .int .i64 k ∧ Hid (BlkB wr gd 29 (cutZ D k)) ∧ Hid (BlkU wr w2.heap.size 82 L) ∧ Hid (BlkB wr w.heap.size 29 (zs 32)) ∧ Hid (Below w.heap.size w wr)) (fun i _ => 32 - (intOf i).toNat)
      case atStart => exact ⟨0, by omega, rfl, HC5.out, HI5.out, HR5.out, HY5.out⟩
      case round =>
        clear HC5 HI5 HR5 HY5
        obtain ⟨k, hk, rfl, HC, HI, HR, HY⟩ := hrel
        obtain ⟨w6, rfl⟩ : ∃ w6, w6 = wr := ⟨_, rfl⟩
        by_cases hlk : k < 32
        · have cs := HI.out.cell (i := k / 4) (by rw [HSL.out 0]; omega)
          have cd := HC.out.cell (i := k) (by rw [cutZ_length (HDL.out 0) hk]; exact hlk)
          have fd := BlkIs.frozen HC.out k
          have HCn : Hid (∀ e : Int, e = (((L.getD (k / 4) 0 / 2 ^ (24 - 8 * (k % 4)) % 256 : Nat)) : Int) → BlkB (w6.setCell ⟨gd, k, none⟩ (.int .u8 e)) gd 29 (cutZ D (k + 1))) := by
            intro e' he
            subst he
            have h1 := HC.out.set k (L.getD (k / 4) 0 / 2 ^ (24 - 8 * (k % 4)) % 256)
            rwa [← HDA.out k hlk, cutZ_next (HDL.out 0) hlk, HDA.out k hlk] at h1
          have HIn : Hid (∀ v, BlkU (w6.setCell ⟨gd, k, none⟩ v) w2.heap.size 82 L) := fun v => BlkIs.far HI.out (by have := HN5.out; show w2.heap.size ≠ gd; omega) v
          have HRn : Hid (∀ v, BlkB (w6.setCell ⟨gd, k, none⟩ v) w.heap.size 29 (zs 32)) := fun v => BlkIs.far HR.out (by have := HN5.out; show w.heap.size ≠ gd; omega) v
          have HYn : Hid (∀ v, Below w.heap.size w (w6.setCell ⟨gd, k, none⟩ v)) := fun v => HY.out.setCell (by have := HN5.out; show w.heap.size ≤ gd; omega) v
          generalize L.getD (k / 4) 0 = sv at *
          generalize (cutZ D k).getD k 0 = z at *
          have i0 : (0 : Int) ≤ (k : Int) / 4 := by omega
          have i1 : (k : Int) / 4 < 8 := by omega
          have n0 : ((k : Int) / 4).toNat = k / 4 := by omega
          have i2 : (0 : Int) ≤ 24 - 8 * ((k : Int) % 4) := by omega
          have i3 : IntKind.u64.wrap (24 - 8 * ((k : Int) % 4)) = 24 - 8 * ((k : Int) % 4) := IntWalk.u64_in _ (by omega)
          have n1 : (24 - 8 * ((k : Int) % 4)).toNat = 24 - 8 * (k % 4) := by omega
          have i4 : (k : Int) < 32 := by omega
          go_wp2_with fail
          go_roundw
          case rel => exact ⟨k + 1, by omega, by go_num, HCn.out _ (by simp), HIn.out _, HRn.out _, HYn.out _⟩
          case measure => simp [intOf]; omega
        · have HDf : Hid (BlkB w6 gd 29 D) := by
            have h1 := HC.out
            rwa [show k = 32 by omega, cutZ_end (HDL.out 0)] at h1
          have HX3 := Lib.hid (HDf.out.whole HDB.out (HDL.out 0))
          go_wp2_with (first
            | ((with_reducible refine stopAt (o := ⟨some 41, _, _, _, _, _⟩) ?_); refine wpList_load_arr (o := ⟨some 41, _, _, _, _, _⟩) (by rfl) 29 (.tmp 7) rfl ⟨gd, 0, none⟩ 32 D rfl HX3.out (by omega) row_dig size_dig ?_; (try simp only [Act.put, List.setIfInBounds_toArray, List.set_cons_zero, List.set_cons_succ]))
            | ((with_reducible refine stopAt (o := ⟨none, .store _ (.tmp 2) _, _, _, _, _⟩) ?_); refine storeA (o := ⟨none, _, _, _, _, _⟩) (by rfl) 29 (.tmp 2) (.tmp 41) rfl w.heap.size 32 D (zs 32) 29 rfl rfl HR.out size_dig (HDL.out 0) (zs_length 32) w.heap.size w HY.out (by omega) ?_; intro wf HRf HBf))
          exact arr_ret (g := w.heap.size) (n := 32) rfl rfl HRf.out (HDL.out 0) row_dig size_dig rfl ⟨by rw [HD.out 0], HBf⟩
end Go.Proofs.YtfnlhfaihoojfaaDoor
