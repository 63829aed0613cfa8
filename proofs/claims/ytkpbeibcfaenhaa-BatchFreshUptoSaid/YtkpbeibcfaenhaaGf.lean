/- TurnC, RooIs (merged by merge_k.py) -/
import Derived.Test.YtkpbeibcfaenhaaGe
import Derived.StillTailTactics
import Derived.Test.YtkpbeibcfaenhaaSameC
/- ledgerlaw3.turned: a list with room behind it is written over. -/
namespace Go.Proofs.Ytkpbeibcfaenhaa
open Go.RowKit
def turnC (b : Bool) (x : Chg) : Chg := if b then ⟨x.key, x.del, x.val.map (· ^^^ 90)⟩ else ⟨x.key.set 31 (x.key.getD 31 0 ^^^ 1), x.del, x.val⟩
def mixT (b : Bool) (X : Nat → Chg) (k i : Nat) : Chg := if i < k then turnC b (X i) else X i
theorem mixT_zero (b : Bool) (X : Nat → Chg) : mixT b X 0 = X := by
  funext i
  unfold mixT
  rw [if_neg (by omega)]
theorem mixT_here (b : Bool) (X : Nat → Chg) (k : Nat) : mixT b X k k = X k := by
  unfold mixT
  rw [if_neg (by omega)]
theorem mixT_step (b : Bool) (X : Nat → Chg) (k : Nat) : upd (mixT b X k) k (turnC b (X k)) = mixT b X (k + 1) := by
  funext i
  unfold upd mixT
  by_cases e : i = k
  · subst e
    rw [if_pos rfl, if_pos (by omega)]
  · rw [if_neg e]
    by_cases h : i < k
    · rw [if_pos h, if_pos (by omega)]
    · rw [if_neg h, if_neg (by omega)]
theorem mixT_end (b : Bool) (X : Nat → Chg) {k n : Nat} (h : k < n) : mixT b X n k = turnC b (X k) := by
  unfold mixT
  rw [if_pos h]
/-- A value, its first m bytes turned. -/
def turnV (xs : List Nat) (m : Nat) : List Nat := (xs.take m).map (· ^^^ 90) ++ xs.drop m
theorem turnV_zero (xs : List Nat) : turnV xs 0 = xs := by simp [turnV]
theorem turnV_length (xs : List Nat) (m : Nat) : (turnV xs m).length = xs.length := by simp [turnV]; omega
theorem turnV_all (xs : List Nat) : turnV xs xs.length = xs.map (· ^^^ 90) := by simp [turnV]
theorem turnV_at {xs : List Nat} {m : Nat} (h : m < xs.length) : (turnV xs m).getD m 0 = xs.getD m 0 := by
  have : ((xs.take m).map (· ^^^ 90)).length = m := by rw [List.length_map, List.length_take]; omega
  simp only [turnV, List.getD, List.getElem?_append_right (Nat.le_of_eq this), this, Nat.sub_self, List.getElem?_drop, Nat.add_zero]
theorem turnV_next {xs : List Nat} {m : Nat} (h : m < xs.length) : (turnV xs m).set m (xs.getD m 0 ^^^ 90) = turnV xs (m + 1) := by
  have hl : ((xs.take m).map (· ^^^ 90)).length = m := by rw [List.length_map, List.length_take]; omega
  unfold turnV
  rw [List.set_append_right _ _ (by omega), hl, Nat.sub_self, List.drop_eq_getElem_cons h, List.set_cons_zero, take_succ_getD h, List.map_append]
  simp
/-- Nothing but the blocks from base on, below top, has changed. -/
structure Inside (base top : Nat) (w w' : World) : Prop where
  os : w'.os = w.os
  tape : w'.tape = w.tape
  output : w'.output = w.output
  size : w.heap.size ≤ w'.heap.size
  block : ∀ k, k < w.heap.size → ¬ (base ≤ k ∧ k < top) → w'.heap[k]? = w.heap[k]?
theorem Inside.refl (base top : Nat) (w : World) : Inside base top w w := ⟨rfl, rfl, rfl, Nat.le_refl _, fun _ _ _ => rfl⟩
theorem Inside.trans {base top : Nat} {a b c : World} (h : Inside base top a b) (k : Inside base top b c) : Inside base top a c :=
  ⟨k.os.trans h.os, k.tape.trans h.tape, k.output.trans h.output, Nat.le_trans h.size k.size, fun i hi hn => (k.block i (Nat.lt_of_lt_of_le hi h.size) hn).trans (h.block i hi hn)⟩
theorem Inside.below {base top B : Nat} {w0 w w' : World} (hb : Below B w0 w) (h : Inside base top w w') (hB : B ≤ base) (hs : B ≤ w.heap.size) : Below B w0 w' :=
  hb.trans ⟨h.os, h.tape, h.output, by have := h.size; omega, fun k hk => h.block k (by omega) (by omega)⟩
theorem Inside.drew {base top : Nat} (w : World) : Inside base top w w.drew := ⟨rfl, rfl, rfl, Nat.le_refl _, fun _ _ _ => rfl⟩
theorem Inside.setCell {base top b o : Nat} (w : World) (v : Value) (h1 : base ≤ b) (h2 : b < top) : Inside base top w (w.setCell ⟨b, o, none⟩ v) :=
  ⟨rfl, rfl, rfl, by simp [World.setCell], fun k _ hn => Below.heap_setCell w _ v k (fun e => hn (by rw [e]; exact ⟨h1, h2⟩))⟩
theorem Inside.cell {base top : Nat} {w w' : World} (h : Inside base top w w') {p : Addr} (hp : p.block < w.heap.size) (hn : ¬ (base ≤ p.block ∧ p.block < top)) : w'.cell? p = w.cell? p := World.cell?_of_block (h.block _ hp hn)
theorem flat_setkey {X : Nat → Chg} {Ad : Nat → Option Addr} {Cp : Nat → Nat} {n i : Nat} (h : ∀ i, i < n → (X i).key.length = 32) (hi : i < n) (y : Nat) :
    (flat X Ad Cp n).set (i * 34 + 31) (.int .u8 (y : Int)) = flat (upd X i ⟨(X i).key.set 31 y, (X i).del, (X i).val⟩) Ad Cp n := by
  have h' : ∀ j, j < n → (upd X i ⟨(X i).key.set 31 y, (X i).del, (X i).val⟩ j).key.length = 32 := fun j hj => by
    by_cases e : j = i
    · subst e; rw [upd_same]; simpa using h j hj
    · rw [upd_other _ _ e]; exact h j hj
  have hl := flat_length (Ad := Ad) (Cp := Cp) h
  have hl' := flat_length (Ad := Ad) (Cp := Cp) h'
  apply List.ext_getElem?
  intro j
  by_cases hj : j < n * 34
  · have hq : j / 34 < n := by omega
    have hd : j = j / 34 * 34 + j % 34 := by omega
    rw [List.getElem?_set, hl]
    by_cases e : i * 34 + 31 = j
    · rw [if_pos e, if_pos (show i * 34 + 31 < n * 34 by omega)]
      have e1 : j / 34 = i := by omega
      have e2 : j % 34 = 31 := by omega
      rw [hd, e1, e2, flat_at h' hi (by omega), upd_same]
      unfold chC
      rw [List.getElem?_append_left (by simp [bvs, h i hi])]
      simp [bvs, bv, h i hi]
    · rw [if_neg e, hd, flat_at h hq (Nat.mod_lt _ (by omega)), flat_at h' hq (Nat.mod_lt _ (by omega))]
      by_cases e1 : j / 34 = i
      · rw [e1, upd_same]
        unfold chC
        by_cases e4 : j % 34 < 32
        · rw [List.getElem?_append_left (by simp [bvs, h i hi]; exact e4), List.getElem?_append_left (by simp [bvs, h i hi]; exact e4)]
          simp only [bvs, List.getElem?_map, List.getElem?_set]
          rw [if_neg (by omega)]
        · rw [List.getElem?_append_right (by simp [bvs, h i hi]; omega), List.getElem?_append_right (by simp [bvs, h i hi]; omega)]
          simp [bvs]
      · rw [upd_other _ _ e1]
  · rw [List.getElem?_eq_none (by rw [List.length_set]; omega), List.getElem?_eq_none (by omega)]
theorem flat_setval {X : Nat → Chg} {Ad : Nat → Option Addr} {Cp : Nat → Nat} {n i : Nat} {x : Chg} (hk : x.key = (X i).key) (hd : x.del = (X i).del) (hv : x.val.length = (X i).val.length) : flat (upd X i x) Ad Cp n = flat X Ad Cp n := by
  induction n with
  | zero => rfl
  | succ n ih =>
    rw [flat, flat, ih]
    congr 1
    by_cases e : n = i
    · rw [e, upd_same]
      unfold chC
      rw [hk, hd, hv]
    · rw [upd_other _ _ e]
section
variable {w : World} {base top g N : Nat} {X : Nat → Chg} {Gv : Nat → Nat} {V : Option Addr}
/-- A byte of a key is written. -/
theorem Roo.setKey (h : Roo w base top g N X Gv V) {i : Nat} (hi : i < N) {y : Nat} (hy : y < 256) : Roo (w.setCell ⟨g, i * 34 + 31, none⟩ (.int .u8 (y : Int))) base top g N (upd X i ⟨(X i).key.set 31 y, (X i).del, (X i).val⟩) Gv V := by
  obtain ⟨Z, Ad, Cp, hb, hr, h0, h1, h2, h3, h4, h5⟩ := h.blk
  have hk := h.keys ⟨fun i hi => (hr i hi).1, h0, h3⟩
  have hz := (hr i hi).1
  have hs := BlkIs.stored hb (i * 34 + 31) (.int .u8 (y : Int))
  rw [List.setIfInBounds_toArray, flat_setkey hk (by omega) y] at hs
  exact { h with
    blk := ⟨_, Ad, Cp, hs, fun j hj => ⟨by
      by_cases e : j = i
      · rw [e, upd_same, upd_same, hz]
      · rw [upd_other _ _ e, upd_other _ _ e]; exact (hr j hj).1, (hr j hj).2.1, by
      rw [(hr j hj).2.2]
      by_cases e : j = i
      · rw [e, upd_same]
      · rw [upd_other _ _ e]⟩, by rw [upd_other _ _ (by omega)]; exact h0, h1, h2, by rw [upd_other _ _ (by omega)]; exact h3, h4, h5⟩
    key := fun j hj => by
      by_cases e : j = i
      · rw [e, upd_same]
        refine ⟨fun z hz => ?_, by simpa using (h.key i hi).2⟩
        rcases List.mem_or_eq_of_mem_set hz with h6 | h6
        · exact (h.key i hi).1 z h6
        · omega
      · rw [upd_other _ _ e]; exact h.key j hj
    isB := fun j hj => by
      by_cases e : j = i
      · rw [e, upd_same]; exact h.isB i hi
      · rw [upd_other _ _ e]; exact h.isB j hj
    val := fun j hj => by
      have := BlkIs.far (h.val j hj) (p := ⟨g, i * 34 + 31, none⟩) (h.ng j (by omega)) (.int .u8 (y : Int))
      by_cases e : j = i
      · rw [e, upd_same]; rw [e] at this; exact this
      · rw [upd_other _ _ e]; exact this
    spv := BlkIs.far h.spv (p := ⟨g, i * 34 + 31, none⟩) (h.ng N (Nat.le_refl _)) _
    len := fun j hj => by
      by_cases e : j = i
      · rw [e, upd_same]; exact h.len i hi
      · rw [upd_other _ _ e]; exact h.len j hj
    room := ⟨h.room.1, by have := h.room.2; simpa [World.setCell] using this⟩
    vals := fun j hj => by
      obtain ⟨b, e1, e2, e3, e4, e5, e6⟩ := h.vals j hj
      refine ⟨b, e1, e2, e3, e4, e5, ?_⟩
      rw [World.cell?_of_block (w := w) (a := ⟨b, j, none⟩) (Below.heap_setCell w _ _ b e4), e6]
      by_cases e : j = i
      · rw [e, upd_same]
      · rw [upd_other _ _ e] }
/-- A byte of a value is written. -/
theorem Roo.setVal (h : Roo w base top g N X Gv V) {i m : Nat} (hi : i < N) (hm : m < (X i).val.length) {y : Nat} (hy : y < 256) : Roo (w.setCell ⟨Gv i, m, none⟩ (.int .u8 (y : Int))) base top g N (upd X i ⟨(X i).key, (X i).del, (X i).val.set m y⟩) Gv V := by
  obtain ⟨Z, Ad, Cp, hb, hr, h0, h1, h2, h3, h4, h5⟩ := h.blk
  have hz := (hr i hi).1
  have hng := h.ng i (by omega)
  have hs := BlkIs.far hb (p := ⟨Gv i, m, none⟩) (Ne.symm hng) (.int .u8 (y : Int))
  rw [← flat_setval (X := Z) (i := i) (x := ⟨(X i).key, (X i).del, (X i).val.set m y⟩) (by rw [hz]) (by rw [hz]) (by rw [hz]; simp)] at hs
  exact { h with
    blk := ⟨_, Ad, Cp, hs, fun j hj => ⟨by
      by_cases e : j = i
      · rw [e, upd_same, upd_same]
      · rw [upd_other _ _ e, upd_other _ _ e]; exact (hr j hj).1, (hr j hj).2.1, by
      rw [(hr j hj).2.2]
      by_cases e : j = i
      · rw [e, upd_same]; simp
      · rw [upd_other _ _ e]⟩, by rw [upd_other _ _ (by omega)]; exact h0, h1, h2, by rw [upd_other _ _ (by omega)]; exact h3, h4, h5⟩
    key := fun j hj => by
      by_cases e : j = i
      · rw [e, upd_same]; exact h.key i hi
      · rw [upd_other _ _ e]; exact h.key j hj
    isB := fun j hj => by
      by_cases e : j = i
      · rw [e, upd_same]
        intro z hz
        rcases List.mem_or_eq_of_mem_set hz with h6 | h6
        · exact h.isB i hi z h6
        · omega
      · rw [upd_other _ _ e]; exact h.isB j hj
    val := fun j hj => by
      by_cases e : j = i
      · rw [e, upd_same]
        have h6 := (h.val i hi).set m y
        have h7 : (rooN (X i).val).set m y = rooN ((X i).val.set m y) := by unfold rooN; rw [List.set_append_left _ _ hm]
        rwa [h7] at h6
      · rw [upd_other _ _ e]
        exact BlkIs.far (h.val j hj) (p := ⟨Gv i, m, none⟩) (fun e1 => e (h.inj j i (by omega) (by omega) e1)) _
    spv := BlkIs.far h.spv (p := ⟨Gv i, m, none⟩) (fun e1 => by have := h.inj N i (by omega) (by omega) e1; omega) _
    len := fun j hj => by
      by_cases e : j = i
      · rw [e, upd_same]; simpa using h.len i hi
      · rw [upd_other _ _ e]; exact h.len j hj
    room := ⟨h.room.1, by have := h.room.2; simpa [World.setCell] using this⟩
    vals := fun j hj => by
      obtain ⟨b, e1, e2, e3, e4, e5, e6⟩ := h.vals j hj
      refine ⟨b, e1, e2, e3, e4, e5, ?_⟩
      rw [World.cell?_of_block (w := w) (a := ⟨b, j, none⟩) (Below.heap_setCell w _ _ b (e5 i (by omega))), e6]
      by_cases e : j = i
      · rw [e, upd_same]; simp
      · rw [upd_other _ _ e] }
theorem Roo.congr (h : Roo w base top g N X Gv V) {Y : Nat → Chg} (he : ∀ i, i < N → X i = Y i) : Roo w base top g N Y Gv V := by
  obtain ⟨Z, Ad, Cp, hb, hr, hq⟩ := h.blk
  exact { h with
    blk := ⟨Z, Ad, Cp, hb, fun i hi => by rw [← he i hi]; exact hr i hi, hq⟩
    key := fun i hi => by rw [← he i hi]; exact h.key i hi
    isB := fun i hi => by rw [← he i hi]; exact h.isB i hi
    val := fun i hi => by rw [← he i hi]; exact h.val i hi
    len := fun i hi => by rw [← he i hi]; exact h.len i hi
    vals := fun i hi => by rw [← he i hi]; exact h.vals i hi }
/-- The cells of the change of number i. -/
theorem Roo.cells (h : Roo w base top g N X Gv V) {i : Nat} (hi : i < N) : w.rangeAt g (i * 34) (chC (X i) (some ⟨Gv i, 0, none⟩) ((X i).val.length + 100)) ∧ (∀ j, w.frozen? ⟨g, j, none⟩ = false) ∧ (∀ j, w.frozen? ⟨Gv i, j, none⟩ = false) := by
  obtain ⟨Z, Ad, Cp, hb, hr, h0, h1, h2, h3, h4, h5⟩ := h.blk
  have hk := h.keys ⟨fun i hi => (hr i hi).1, h0, h3⟩
  have h6 := flat_range hb hk (i := i) (by omega)
  obtain ⟨e1, e2, e3⟩ := hr i hi
  rw [e1, e2, e3] at h6
  exact ⟨h6, fun j => BlkIs.frozen hb j, fun j => BlkIs.frozen (h.val i hi) j⟩
end
def TurnPost (b : Bool) (base top g N : Nat) (X : Nat → Chg) (Gv : Nat → Nat) (V : Option Addr) (w : World) (e : Ending) (w' : World) : Prop := e = .returned (.tuple #[]) ∧ Roo w' base top g N (fun k => turnC b (X k)) Gv V ∧ Inside base top w w'
set_option maxRecDepth 100000 in
set_option maxHeartbeats 4000000 in
theorem turned_keys (base top g N c : Nat) (X : Nat → Chg) (Gv : Nat → Nat) (V : Option Addr) (w : World) (h : Roo w base top g N X Gv V) :
    Calls Try.prog 81 #[.slice (some ⟨g, 0, none⟩) N c, .bool false] w (TurnPost false base top g N X Gv V w) := by
  have H0 : Hid (Roo w base top g N (mixT false X 0) Gv V) := by rw [mixT_zero]; exact h
  have hn := h.room.1
  unfold maxLen at hn
  have HLO := Lib.hid h.lo
  clear h
  go_enter Try.func81, Try.ntmps81
  go_wp2_with fail
  go_loopw [4] (fun i wr => ∃ k : Nat, k ≤ N ∧ i = .int .i64 k ∧ Hid (Roo wr base top g N (mixT false X k) Gv V) ∧ Hid (Inside base top w wr)) (fun i _ => N - (intOf i).toNat)
  case atStart => exact ⟨0, by omega, rfl, H0.out, Inside.refl _ _ _⟩
  case round =>
    clear H0
    obtain ⟨k, hk, rfl, HR, HI⟩ := hrel
    obtain ⟨w1, rfl⟩ : ∃ w1, w1 = wr := ⟨_, rfl⟩
    by_cases hlt : k < N
    · have hlt' : (k : Int) < N := by omega
      have hcl := HR.out.cells hlt
      have hky := HR.out.key k hlt
      rw [mixT_here] at hcl hky
      have c31 := ch_key hcl.1 31 (.int .u8 ((X k).key.getD 31 0 : Nat)) (by simp [bvs, bv, hky.2])
      have f31 := hcl.2.1 (k * 34 + 31)
      have hx8 := hky.1 _ (getD_mem (show 31 < (X k).key.length by omega))
      have hxor : bits .xor .u8 (((X k).key.getD 31 0 : Nat) : Int) 1 = (((X k).key.getD 31 0 ^^^ 1 : Nat) : Int) := xor8 _ 1 hx8 (by omega)
      have hxl := xor_lt8 hx8 (show 1 < 256 by omega)
      have HRN : Hid (Roo (w1.setCell ⟨g, k * 34 + 31, none⟩ (.int .u8 (((X k).key.getD 31 0 ^^^ 1 : Nat) : Int))).drew base top g N (mixT false X (k + 1)) Gv V) := by
        have h := (HR.out.setKey hlt hxl).below (drewN_below (Below.refl _ _) 1)
        rw [mixT_here] at h
        rwa [← mixT_step]
      have HIN : Hid (Inside base top w (w1.setCell ⟨g, k * 34 + 31, none⟩ (.int .u8 (((X k).key.getD 31 0 ^^^ 1 : Nat) : Int))).drew) := HI.out.trans ((Inside.setCell _ _ HLO.out.1 HLO.out.2.1).trans (Inside.drew _))
      clear hcl hky hx8 hxl
      generalize (X k).key.getD 31 0 = x at *
      go_wp2_with fail
      refine wp_region_still_tail 12 (by kernel_rfl) (by kernel_rfl) ?_
      simp only [List.take_succ_cons, List.take_zero, List.drop_succ_cons, List.drop_zero]
      repeat (refine wpStill_step (fun K hK => ?_); go_simp; (try go_bits); refine hK _ ?_; clear hK K)
      try refine wpStill_nil ?_
      change wpList _ _ _ _ _ w1.drew
      go_wp2_with fail
      generalize (w1.setCell ⟨g, k * 34 + 31, none⟩ (.int .u8 ((x ^^^ 1 : Nat) : Int))).drew = w3 at *
      clear HR HI
      go_loopw [5] (fun j wr => Hid (wr = w3)) (fun _ _ => 0)
      case atStart => exact (show _ = _ from rfl)
      case round =>
        obtain rfl := hrel.out
        go_wp2_with fail
        go_roundw
        case rel => exact ⟨k + 1, by omega, by go_num, HRN.out, HIN.out⟩
        case measure => simp [intOf]; omega
    · have hnlt : ¬ (k : Int) < N := by omega
      obtain rfl : k = N := by omega
      go_wp2_with fail
      go_end0
      exact ⟨rfl, HR.out.congr fun i hi => mixT_end false X hi, HI.out⟩
/-- The list when m bytes of the value of number k are turned. -/
def midV (X : Nat → Chg) (k m : Nat) : Nat → Chg := upd (mixT true X k) k ⟨(X k).key, (X k).del, turnV (X k).val m⟩
theorem midV_zero (X : Nat → Chg) (k : Nat) : midV X k 0 = mixT true X k := by
  unfold midV
  rw [turnV_zero]
  have := upd_self (mixT true X k) k
  rw [mixT_here] at this
  exact this
theorem midV_end (X : Nat → Chg) (k : Nat) : midV X k (X k).val.length = mixT true X (k + 1) := by
  rw [← mixT_step]
  unfold midV turnC
  rw [turnV_all, if_pos rfl]
theorem midV_here (X : Nat → Chg) (k m : Nat) : midV X k m k = ⟨(X k).key, (X k).del, turnV (X k).val m⟩ := upd_same _ _ _
theorem midV_next {X : Nat → Chg} {k m : Nat} (h : m < (X k).val.length) : upd (midV X k m) k ⟨(midV X k m k).key, (midV X k m k).del, (midV X k m k).val.set m ((X k).val.getD m 0 ^^^ 90)⟩ = midV X k (m + 1) := by
  rw [midV_here]
  simp only
  rw [turnV_next h]
  funext i
  unfold midV upd
  split
  · rfl
  · rfl
set_option maxRecDepth 100000 in
set_option maxHeartbeats 4000000 in
theorem turned_vals (base top g N c : Nat) (X : Nat → Chg) (Gv : Nat → Nat) (V : Option Addr) (w : World) (h : Roo w base top g N X Gv V) :
    Calls Try.prog 81 #[.slice (some ⟨g, 0, none⟩) N c, .bool true] w (TurnPost true base top g N X Gv V w) := by
  have H0 : Hid (Roo w base top g N (mixT true X 0) Gv V) := by rw [mixT_zero]; exact h
  have hn := h.room.1
  unfold maxLen at hn
  have HLO := Lib.hid h.lo
  have HLE := Lib.hid h.len
  have HBV := Lib.hid h.isB
  clear h
  go_enter Try.func81, Try.ntmps81
  go_wp2_with fail
  go_loopw [4] (fun i wr => ∃ k : Nat, k ≤ N ∧ i = .int .i64 k ∧ Hid (Roo wr base top g N (mixT true X k) Gv V) ∧ Hid (Inside base top w wr)) (fun i _ => N - (intOf i).toNat)
  case atStart => exact ⟨0, by omega, rfl, H0.out, Inside.refl _ _ _⟩
  case round =>
    clear H0
    obtain ⟨k, hk, rfl, HR, HI⟩ := hrel
    obtain ⟨w1, rfl⟩ : ∃ w1, w1 = wr := ⟨_, rfl⟩
    by_cases hlt : k < N
    · have hlt' : (k : Int) < N := by omega
      rw [← midV_zero] at HR
      have hle := HLE.out k hlt
      go_wp2_with fail
      go_loopw [5] (fun j wr => ∃ m : Nat, m ≤ (X k).val.length ∧ j = .int .i64 m ∧ Hid (Roo wr base top g N (midV X k m) Gv V) ∧ Hid (Inside base top w wr)) (fun j _ => (X k).val.length - (intOf j).toNat)
      case atStart => exact ⟨0, by omega, rfl, HR.out, HI.out⟩
      case round =>
        clear HR HI
        obtain ⟨m, hm, rfl, HR, HI⟩ := hrel
        obtain ⟨w2, rfl⟩ : ∃ w2, w2 = wr := ⟨_, rfl⟩
        have hcl := HR.out.cells hlt
        have hky := HR.out.key k hlt
        have hvv := HR.out.val k hlt
        rw [midV_here] at hcl hky hvv
        have c33 := ch_val hcl.1 hky.2
        simp only [turnV_length] at c33 hvv
        by_cases hml : m < (X k).val.length
        · have hml' : (m : Int) < ((X k).val.length : Int) := by omega
          have hmr : m < (X k).val.length + 100 := by omega
          have hx8 : (X k).val.getD m 0 < 256 := HBV.out k hlt _ (getD_mem hml)
          have cb : w2.cell? ⟨Gv k, m, none⟩ = some (.int .u8 ((X k).val.getD m 0 : Nat)) := by
            have h1 := BlkB.cell hvv (i := m) (by rw [rooN_length, turnV_length]; omega)
            rwa [rooN_low (by rw [turnV_length]; exact hml), turnV_at hml] at h1
          have fb := hcl.2.2 m
          have hxor : bits .xor .u8 (((X k).val.getD m 0 : Nat) : Int) 90 = (((X k).val.getD m 0 ^^^ 90 : Nat) : Int) := xor8 _ 90 hx8 (by omega)
          have hxl := xor_lt8 hx8 (show 90 < 256 by omega)
          have HRN : Hid (Roo (w2.setCell ⟨Gv k, m, none⟩ (.int .u8 (((X k).val.getD m 0 ^^^ 90 : Nat) : Int))).drew base top g N (midV X k (m + 1)) Gv V) := by
            have h := (HR.out.setVal hlt (m := m) (by rw [midV_here]; simp only [turnV_length]; exact hml) hxl).below (drewN_below (Below.refl _ _) 1)
            rwa [midV_next hml] at h
          have HIN : Hid (Inside base top w (w2.setCell ⟨Gv k, m, none⟩ (.int .u8 (((X k).val.getD m 0 ^^^ 90 : Nat) : Int))).drew) := HI.out.trans ((Inside.setCell _ _ (HLO.out.2.2 k (by omega)).1 (HLO.out.2.2 k (by omega)).2).trans (Inside.drew _))
          clear hcl hky hvv hx8 hxl
          generalize (X k).val.getD m 0 = x at *
          generalize hvn : (X k).val.length = vn at *
          clear hvn
          go_wp2_with fail
          refine wp_region_still_tail 16 (by kernel_rfl) (by kernel_rfl) ?_
          simp only [List.take_succ_cons, List.take_zero, List.drop_succ_cons, List.drop_zero]
          repeat (refine wpStill_step (fun K hK => ?_); go_simp; (try go_bits); refine hK _ ?_; clear hK K)
          try refine wpStill_nil ?_
          change wpList _ _ _ _ _ w2.drew
          go_wp2_with fail
          go_roundw
          case rel => exact ⟨m + 1, by omega, by go_num, HRN.out, HIN.out⟩
          case measure => simp [intOf]; omega
        · have hml' : ¬ (m : Int) < ((X k).val.length : Int) := by omega
          have HRE : Hid (Roo w2 base top g N (mixT true X (k + 1)) Gv V) := by rw [← midV_end, show (X k).val.length = m by omega]; exact HR.out
          clear hcl hky hvv
          generalize hvn : (X k).val.length = vn at *
          clear hvn
          go_wp2_with fail
          go_roundw
          case rel => exact ⟨k + 1, by omega, by go_num, HRE.out, HI.out⟩
          case measure => simp [intOf]; omega
    · have hnlt : ¬ (k : Int) < N := by omega
      obtain rfl : k = N := by omega
      go_wp2_with fail
      go_end0
      exact ⟨rfl, HR.out.congr fun i hi => mixT_end true X hi, HI.out⟩
end Go.Proofs.Ytkpbeibcfaenhaa

/- ledgerlaw3.roomyChangesAre. -/
namespace Go.Proofs.Ytkpbeibcfaenhaa
open Go.RowKit
theorem yields_sliceFromC {P : Program} {ops : Array Oper} {S : World → Prop} {o : Oper} {a : Act} (hw : Region.wanted o (yielded ops a.tmps) = true) (t : TypeId) (x ix : Operand)
    (ho : o.op = .slice t x (some ix) none none) (ht : P.underlying t = some (.slice (P.elem t))) (hsz : (P.info? (P.elem t)).map (·.size) = some 34) (A : Option Addr) (m d k : Nat) (hx : a.eval x = .slice A m d) (hi : a.eval ix = .int .i64 (k : Int))
    (hk : k ≤ m) (B : Option Addr) (hB : (if d = k then A else A.map (·.add (k * 34))) = B) (r s : Nat) (hr : m - k = r) (hs : d - k = s) : YieldsIf P ops S o (.slice B r s) a :=
  .inl ⟨hw, fun w _ => by
    have hsz' : (sizeOf (P.elem t)).run P w = .ok 34 w := by
      cases hq : P.info? (P.elem t) with
      | none => simp [hq] at hsz
      | some i =>
        have h1 : i.size = 34 := by simpa [hq] using hsz
        simp [sizeOf, typeInfo, hq, h1]
    have hrun : (Instr.sliceAt t (.slice A m d) (some (.int .i64 (k : Int))) none none).run P w = .ok (.slice (if d = k then A else A.map (·.add (k * 34))) (m - k) (d - k)) w := by
      rw [run_sliceAt_slice w t _ _ _ _ ht, run_slice_l w t A m d ht .i64 (k : Int) (by omega) (by omega), hsz']
      simp only [Result.andThen_ok, sliced, Int.toNat_natCast]
    rw [hB, hr, hs] at hrun
    unfold execOp
    simp only [ho, hx, hi, Option.map, Sem.run_bind, Sem.run_pure, hrun, Result.andThen_ok]⟩
theorem spare_chs {w : World} {g gs : Nat} (h1 : BlkIs w g 45 (chC sp0 (some ⟨gs, 0, none⟩) 1 ++ chC sp1 none 0).toArray) (h2 : BlkB w gs 5 [202]) : ChsAt w (some ⟨g, 0, none⟩) 2 spX := by
  refine ⟨by simp [maxLen], fun i hi => ?_⟩
  have hi2 : i = 0 ∨ i = 1 := by omega
  rcases hi2 with rfl | rfl
  · refine ⟨g, 0, some ⟨gs, 0, none⟩, 1, rfl, BlkIs.lt h1, ?_, spKey_isB (by omega), spKey_length _, ?_, Nat.le_refl _, by simp [maxLen], fun e => by cases e⟩
    · exact BlkIs.rangeMid h1 fun j v hj => by rw [show 0 + 0 * 34 + j = j by omega, List.getElem?_append_left (show j < (chC sp0 (some ⟨gs, 0, none⟩) 1).length from (List.getElem?_eq_some_iff.1 hj).1)]; exact hj
    · exact h2.whole (n := 1) (IsB.one (by omega)) rfl
  · refine ⟨g, 0, none, 0, rfl, BlkIs.lt h1, ?_, spKey_isB (by omega), spKey_length _, RB.nil _ _, Nat.le_refl _, Nat.zero_le _, fun _ => rfl⟩
    exact BlkIs.rangeMid h1 fun j v hj => by
      rw [List.getElem?_append_right (by rw [chC_length (spKey_length _)]; omega), chC_length (spKey_length _), show 0 + 1 * 34 + j - 34 = j by omega]
      exact hj
set_option maxRecDepth 100000 in
set_option maxHeartbeats 4000000 in
theorem rooIs_true (base top g N C c : Nat) (X Y : Nat → Chg) (Gv : Nat → Nat) (A V : Option Addr) (w : World) (h : Roo w base top g N X Gv V) (hy : ChsAt w A N Y) (he : ∀ k, k < N → Y k = X k) :
    Calls Try.prog 38 #[.slice (some ⟨g, 0, none⟩) ((N + 2 : Nat)) ((N + 2 : Nat)), .slice V N C, .slice A N c] w fun e w' => e = .returned (.bool true) ∧ Below w.heap.size w w' := by
  have HR := Lib.hid h
  have HY := Lib.hid hy
  have HE := Lib.hid he
  have hr := h.room.1
  obtain ⟨M, hM⟩ : ∃ M, N + 2 = M := ⟨_, rfl⟩
  have HM := Lib.hid hM
  rw [hM] at hr ⊢
  unfold maxLen at hr
  have hNM : N ≤ M := by omega
  have hNM' : (N : Int) ≤ M := by omega
  have hsum : IntKind.i64.wrap ((N : Int) + 2) = (M : Int) := by rw [IntWalk.i64_in _ (by omega)]; omega
  have hMM : ((M : Int) != (M : Int)) = false := by simp
  clear h hy he hM
  go_enter Try.func38, Try.ntmps38
  go_wp2_with fail
  rename_i KK hKK
  have HKK := Lib.hid hKK
  clear hKK
  refine wp_region_held_drew (S := fun _ => True) (by kernel_rfl) trivial fun hH => ?_
  refine wpAnyH_take (i := 0) (oi := ⟨some 11, _, _, _, _, _⟩) rfl (by kernel_rfl) (by kernel_rfl) (by kernel_rfl) (fun _ _ _ h => h) (Or.inl ⟨by rfl, fun w hw => by ((try dsimp only at hw); go_split_ands; go_simp; with_reducible rfl)⟩) (by assumption) ?_
  try simp only [Act.put, List.setIfInBounds_toArray, List.set_cons_zero, List.set_cons_succ]
  refine wpAnyH_take (i := 1) (oi := ⟨some 12, _, _, _, _, _⟩) rfl (by kernel_rfl) (by kernel_rfl) (by kernel_rfl) (fun _ _ _ h => h) (Or.inl ⟨by rfl, fun w hw => by ((try dsimp only at hw); go_split_ands; go_simp; with_reducible rfl)⟩) (by assumption) ?_
  try simp only [Act.put, List.setIfInBounds_toArray, List.set_cons_zero, List.set_cons_succ]
  refine wpAnyH_take (i := 2) (oi := ⟨some 13, _, _, _, _, _⟩) rfl (by kernel_rfl) (by kernel_rfl) (by kernel_rfl) (fun _ _ _ h => h) (Or.inl ⟨by rfl, fun w hw => by ((try dsimp only at hw); go_split_ands; go_simp; with_reducible rfl)⟩) (by assumption) ?_
  try simp only [Act.put, List.setIfInBounds_toArray, List.set_cons_zero, List.set_cons_succ]
  refine wpAnyH_take (i := 3) (oi := ⟨some 14, _, _, _, _, _⟩) rfl (by kernel_rfl) (by kernel_rfl) (by kernel_rfl) (fun _ _ _ h => h) (Or.inl ⟨by rfl, fun w hw => by ((try dsimp only at hw); go_split_ands; go_simp; with_reducible rfl)⟩) (by assumption) ?_
  try simp only [Act.put, List.setIfInBounds_toArray, List.set_cons_zero, List.set_cons_succ]
  refine wpAnyH_take (i := 4) (oi := ⟨some 15, _, _, _, _, _⟩) rfl (by kernel_rfl) (by kernel_rfl) (by kernel_rfl) (fun _ _ _ h => h) (Or.inl ⟨by rfl, fun w hw => by ((try dsimp only at hw); go_split_ands; go_simp; with_reducible rfl)⟩) (by assumption) ?_
  try simp only [Act.put, List.setIfInBounds_toArray, List.set_cons_zero, List.set_cons_succ]
  refine wpAnyH_take (i := 5) (oi := ⟨some 16, _, _, _, _, _⟩) rfl (by kernel_rfl) (by kernel_rfl) (by kernel_rfl) (fun _ _ _ h => h) (Or.inl ⟨by rfl, fun w hw => by ((try dsimp only at hw); go_split_ands; go_simp; with_reducible rfl)⟩) (by assumption) ?_
  try simp only [Act.put, List.setIfInBounds_toArray, List.set_cons_zero, List.set_cons_succ]
  refine wpAnyH_take (i := 6) (oi := ⟨some 17, _, _, _, _, _⟩) rfl (by kernel_rfl) (by kernel_rfl) (by kernel_rfl) (fun _ _ _ h => h) (Or.inl ⟨by rfl, fun w hw => by ((try dsimp only at hw); go_split_ands; go_simp; with_reducible rfl)⟩) (by assumption) ?_
  try simp only [Act.put, List.setIfInBounds_toArray, List.set_cons_zero, List.set_cons_succ]
  refine wpAnyH_take (i := 7) (oi := ⟨some 18, _, _, _, _, _⟩) rfl (by kernel_rfl) (by kernel_rfl) (by kernel_rfl) (fun _ _ _ h => h) (Or.inl ⟨by rfl, fun w hw => by ((try dsimp only at hw); go_split_ands; go_simp; with_reducible rfl)⟩) (by assumption) ?_
  try simp only [Act.put, List.setIfInBounds_toArray, List.set_cons_zero, List.set_cons_succ]
  refine wpAnyH_take (i := 8) (oi := ⟨some 19, _, _, _, _, _⟩) rfl (by kernel_rfl) (by kernel_rfl) (by kernel_rfl) (fun _ _ _ h => h) (Or.inl ⟨by rfl, fun w hw => by ((try dsimp only at hw); go_split_ands; go_simp; with_reducible rfl)⟩) (by assumption) ?_
  try simp only [Act.put, List.setIfInBounds_toArray, List.set_cons_zero, List.set_cons_succ]
  refine wpAnyH_take (i := 9) (oi := ⟨some 20, _, _, _, _, _⟩) rfl (by kernel_rfl) (by kernel_rfl) (by kernel_rfl) (fun _ _ _ h => h) (Or.inl ⟨by rfl, fun w hw => by ((try dsimp only at hw); go_split_ands; go_simp; with_reducible rfl)⟩) (by assumption) ?_
  try simp only [Act.put, List.setIfInBounds_toArray, List.set_cons_zero, List.set_cons_succ]
  refine wpAnyH_ready (rs := [10]) (by kernel_rfl) (by simp) ?_
  refine AllReadyH.cons rfl (fun K hK => ?_) (AllReadyH.nil)
  go_simp
  refine (sameC_true (some ⟨g, 0, none⟩) A N M c X Y w.drew (HR.out.front.below (drewN_below (Below.refl _ _) 1)) (HY.out.below (drewN_below (Below.refl _ _) 1)) (fun k hk => (HE.out k hk).symm)).mono ?_
  rintro e w1 ⟨rfl, q1, hq1⟩
  have HB1 : Hid (Below w.heap.size w w1) := by show Below _ _ _; rw [hq1]; exact drewN_below (drewN_below (Below.refl _ _) 1) q1
  clear hq1
  refine hK.out _ _ trivial (fun hH2 => ?_)
  clear hK hH
  refine wpAnyH_take (i := 11) (oi := ⟨some 22, _, _, _, _, _⟩) rfl (by kernel_rfl) (by kernel_rfl) (by kernel_rfl) (fun _ _ _ h => h) (Or.inl ⟨by rfl, fun w hw => by ((try dsimp only at hw); go_split_ands; go_simp; with_reducible rfl)⟩) (by assumption) ?_
  try simp only [Act.put, List.setIfInBounds_toArray, List.set_cons_zero, List.set_cons_succ]
  refine wpAnyH_take (i := 12) (oi := ⟨some 23, _, _, _, _, _⟩) rfl (by kernel_rfl) (by kernel_rfl) (by kernel_rfl) (fun _ _ _ h => h) (Or.inl ⟨by rfl, fun w hw => by ((try dsimp only at hw); go_split_ands; go_simp; with_reducible rfl)⟩) (by assumption) ?_
  try simp only [Act.put, List.setIfInBounds_toArray, List.set_cons_zero, List.set_cons_succ]
  refine wpAnyH_take (i := 13) (oi := ⟨some 24, _, _, _, _, _⟩) rfl (by kernel_rfl) (by kernel_rfl) (by kernel_rfl) (fun _ _ _ h => h) (Or.inl ⟨by rfl, fun w hw => by ((try dsimp only at hw); go_split_ands; go_simp; with_reducible rfl)⟩) (by assumption) ?_
  try simp only [Act.put, List.setIfInBounds_toArray, List.set_cons_zero, List.set_cons_succ]
  refine wpAnyH_take (i := 14) (oi := ⟨some 25, _, _, _, _, _⟩) rfl (by kernel_rfl) (by kernel_rfl) (by kernel_rfl) (fun _ _ _ h => h) (Or.inl ⟨by rfl, fun w hw => by ((try dsimp only at hw); go_split_ands; go_simp; with_reducible rfl)⟩) (by assumption) ?_
  try simp only [Act.put, List.setIfInBounds_toArray, List.set_cons_zero, List.set_cons_succ]
  refine wpAnyH_take (i := 15) (oi := ⟨some 26, _, _, _, _, _⟩) rfl (by kernel_rfl) (by kernel_rfl) (by kernel_rfl) (fun _ _ _ h => h) (Or.inl ⟨by rfl, fun w hw => by ((try dsimp only at hw); go_split_ands; go_simp; with_reducible rfl)⟩) (by assumption) ?_
  try simp only [Act.put, List.setIfInBounds_toArray, List.set_cons_zero, List.set_cons_succ]
  refine wpAnyH_take (i := 16) (oi := ⟨some 27, _, _, _, _, _⟩) rfl (by kernel_rfl) (by kernel_rfl) (by kernel_rfl) (fun _ _ _ h => h) (yields_sliceFromC (by rfl) 30 (.tmp 25) (.tmp 26) rfl (by rw [elem_chl]; exact und_chl) (by rw [elem_chl]; exact size_chg) (some ⟨g, 0, none⟩) M M N rfl rfl hNM (some ⟨g, N * 34, none⟩) (by rw [if_neg (by have := HM.out; omega)]; simp [add_lit]) 2 2 (by have := HM.out; omega) (by have := HM.out; omega)) (by assumption) ?_
  try simp only [Act.put, List.setIfInBounds_toArray, List.set_cons_zero, List.set_cons_succ]
  refine wpAnyH_ready (rs := [17]) (by kernel_rfl) (by simp) ?_
  refine AllReadyH.cons rfl (fun K hK => ?_) (AllReadyH.nil)
  go_simp
  refine (spare_any w1).mono ?_
  rintro e w2 ⟨g2, gs, rfl, hg2, hgs, hne2, hB2, hBs, hb2⟩
  have HB2 := Lib.hid (HB1.out.trans (hb2.mono HB1.out.size))
  have HC2 := Lib.hid (spare_chs hB2 hBs)
  clear hg2 hgs hne2 hB2 hBs hb2
  refine hK.out _ _ trivial (fun hH3 => ?_)
  clear hK hH2
  refine wpAnyH_ready (rs := [18]) (by kernel_rfl) (by simp) ?_
  refine AllReadyH.cons rfl (fun K hK => ?_) (AllReadyH.nil)
  go_simp
  refine (sameC_true (some ⟨g, N * 34, none⟩) (some ⟨g2, 0, none⟩) 2 2 2 spX spX w2 ((HR.out.below HB2.out).back) HC2.out (fun _ _ => rfl)).mono ?_
  rintro e w3 ⟨rfl, q3, hq3⟩
  have HB3 : Hid (Below w.heap.size w w3) := by show Below _ _ _; rw [hq3]; exact drewN_below HB2.out q3
  clear hq3
  refine hK.out _ _ trivial (fun hH4 => ?_)
  clear hK hH3
  refine wpAnyH_take (i := 19) (oi := ⟨some 30, _, _, _, _, _⟩) rfl (by kernel_rfl) (by kernel_rfl) (by kernel_rfl) (fun _ _ _ h => h) (Or.inl ⟨by rfl, fun w hw => by ((try dsimp only at hw); go_split_ands; go_simp; with_reducible rfl)⟩) (by assumption) ?_
  try simp only [Act.put, List.setIfInBounds_toArray, List.set_cons_zero, List.set_cons_succ]
  refine wpAnyH_take (i := 20) (oi := ⟨some 31, _, _, _, _, _⟩) rfl (by kernel_rfl) (by kernel_rfl) (by kernel_rfl) (fun _ _ _ h => h) (Or.inl ⟨by rfl, fun w hw => by ((try dsimp only at hw); go_split_ands; go_simp; with_reducible rfl)⟩) (by assumption) ?_
  try simp only [Act.put, List.setIfInBounds_toArray, List.set_cons_zero, List.set_cons_succ]
  refine wpAnyH_done (by kernel_rfl) ?_ _
  change KK _ _
  refine HKK.out _ _ ?_
  clear hH4 hsum hMM HC2 HB2 HB1
  go_wp2_with fail
  go_loopw [8] (fun i wr => ∃ k : Nat, k ≤ N ∧ i = .int .i64 k ∧ Hid (Below w.heap.size w wr)) (fun i _ => N - (intOf i).toNat)
  case atStart => exact ⟨0, by omega, rfl, HB3.out⟩
  case round =>
    clear HB3
    obtain ⟨k, hk, rfl, HB⟩ := hrel
    obtain ⟨w4, rfl⟩ : ∃ w4, w4 = wr := ⟨_, rfl⟩
    by_cases hlt : k < N
    · have hlt' : (k : Int) < N := by omega
      obtain ⟨bv, rfl, hv1, hv2, hv3, hv4, hv5⟩ := (HR.out.below HB.out).vals k hlt
      obtain ⟨b, o, Av, Cv, rfl, hb, hr, hkB, hkl, hvr, hvC, hCm, hnil⟩ := (HY.out.below HB.out).2 k hlt
      rw [HE.out k hlt] at hr hkB hkl hvr hvC
      have hvl := (HR.out).len k hlt
      have hwh := (HR.out.below HB.out).whole hlt
      have bvlt : bv < w4.heap.size := lt_of_cell hv5
      have KS : Hid (∀ W, Below w4.heap.size w4 W → W.cell? ⟨bv, k, none⟩ = some (.slice (some ⟨Gv k, 0, none⟩) ((X k).val.length + 100) ((X k).val.length + 100)) ∧ W.cell? ⟨b, o + k * 34 + 33, none⟩ = some (.slice Av (X k).val.length Cv)) := fun W hW => ⟨(hW.cell (p := ⟨bv, k, none⟩) bvlt).trans hv5, ch_val (range_below hW hb hr) hkl⟩
      have HRM := Lib.hid (roomyIs_true (A := some ⟨Gv k, 0, none⟩) (B := Av) (n := (X k).val.length) (c := (X k).val.length + 100) (d := Cv) (xs := (X k).val) (w := w4.drew) (hwh.below (drewN_below (Below.refl _ _) 1)) (hvr.below (drewN_below (Below.refl _ _) 1)) hvl)
      clear hr hkB hkl hvr hvC hCm hnil hv1 hv2 hv3 hv4 hv5 hwh hb bvlt
      generalize (X k).val.length = L at *
      go_wp2_with fail
      rename_i KK2 hKK2
      have HKK2 := Lib.hid hKK2
      clear hKK2
      refine wp_region_held_drew (S := fun w' => w'.cell? ⟨bv, k, none⟩ = some (.slice (some ⟨Gv k, 0, none⟩) (L + 100) (L + 100)) ∧ w'.cell? ⟨b, o + k * 34 + 33, none⟩ = some (.slice Av L Cv)) (by kernel_rfl) (KS.out _ (drewN_below (Below.refl _ _) 1)) fun hH => ?_
      refine wpAnyH_take (i := 0) (oi := ⟨some 37, _, _, _, _, _⟩) rfl (by kernel_rfl) (by kernel_rfl) (by kernel_rfl) (fun _ _ _ h => h) (Or.inl ⟨by rfl, fun w hw => by ((try dsimp only at hw); go_split_ands; go_simp; with_reducible rfl)⟩) (by assumption) ?_
      try simp only [Act.put, List.setIfInBounds_toArray, List.set_cons_zero, List.set_cons_succ]
      refine wpAnyH_take (i := 1) (oi := ⟨some 38, _, _, _, _, _⟩) rfl (by kernel_rfl) (by kernel_rfl) (by kernel_rfl) (fun _ _ _ h => h) (Or.inl ⟨by rfl, fun w hw => by ((try dsimp only at hw); go_split_ands; go_simp; with_reducible rfl)⟩) (by assumption) ?_
      try simp only [Act.put, List.setIfInBounds_toArray, List.set_cons_zero, List.set_cons_succ]
      refine wpAnyH_take (i := 2) (oi := ⟨some 39, _, _, _, _, _⟩) rfl (by kernel_rfl) (by kernel_rfl) (by kernel_rfl) (fun _ _ _ h => h) (Or.inl ⟨by rfl, fun w hw => by ((try dsimp only at hw); go_split_ands; go_simp; with_reducible rfl)⟩) (by assumption) ?_
      try simp only [Act.put, List.setIfInBounds_toArray, List.set_cons_zero, List.set_cons_succ]
      refine wpAnyH_take (i := 3) (oi := ⟨some 40, _, _, _, _, _⟩) rfl (by kernel_rfl) (by kernel_rfl) (by kernel_rfl) (fun _ _ _ h => h) (Or.inl ⟨by rfl, fun w hw => by ((try dsimp only at hw); go_split_ands; go_simp; with_reducible rfl)⟩) (by assumption) ?_
      try simp only [Act.put, List.setIfInBounds_toArray, List.set_cons_zero, List.set_cons_succ]
      refine wpAnyH_take (i := 4) (oi := ⟨some 41, _, _, _, _, _⟩) rfl (by kernel_rfl) (by kernel_rfl) (by kernel_rfl) (fun _ _ _ h => h) (Or.inl ⟨by rfl, fun w hw => by ((try dsimp only at hw); go_split_ands; go_simp; with_reducible rfl)⟩) (by assumption) ?_
      try simp only [Act.put, List.setIfInBounds_toArray, List.set_cons_zero, List.set_cons_succ]
      refine wpAnyH_take (i := 5) (oi := ⟨some 42, _, _, _, _, _⟩) rfl (by kernel_rfl) (by kernel_rfl) (by kernel_rfl) (fun _ _ _ h => h) (Or.inl ⟨by rfl, fun w hw => by ((try dsimp only at hw); go_split_ands; go_simp; with_reducible rfl)⟩) (by assumption) ?_
      try simp only [Act.put, List.setIfInBounds_toArray, List.set_cons_zero, List.set_cons_succ]
      refine wpAnyH_take (i := 6) (oi := ⟨some 43, _, _, _, _, _⟩) rfl (by kernel_rfl) (by kernel_rfl) (by kernel_rfl) (fun _ _ _ h => h) (Or.inl ⟨by rfl, fun w hw => by ((try dsimp only at hw); go_split_ands; go_simp; with_reducible rfl)⟩) (by assumption) ?_
      try simp only [Act.put, List.setIfInBounds_toArray, List.set_cons_zero, List.set_cons_succ]
      refine wpAnyH_take (i := 7) (oi := ⟨some 44, _, _, _, _, _⟩) rfl (by kernel_rfl) (by kernel_rfl) (by kernel_rfl) (fun _ _ _ h => h) (Or.inl ⟨by rfl, fun w hw => by ((try dsimp only at hw); go_split_ands; go_simp; with_reducible rfl)⟩) (by assumption) ?_
      try simp only [Act.put, List.setIfInBounds_toArray, List.set_cons_zero, List.set_cons_succ]
      refine wpAnyH_take (i := 8) (oi := ⟨some 45, _, _, _, _, _⟩) rfl (by kernel_rfl) (by kernel_rfl) (by kernel_rfl) (fun _ _ _ h => h) (Or.inl ⟨by rfl, fun w hw => by ((try dsimp only at hw); go_split_ands; go_simp; with_reducible rfl)⟩) (by assumption) ?_
      try simp only [Act.put, List.setIfInBounds_toArray, List.set_cons_zero, List.set_cons_succ]
      refine wpAnyH_ready (rs := [9]) (by kernel_rfl) (by simp) ?_
      refine AllReadyH.cons rfl (fun K hK => ?_) (AllReadyH.nil)
      go_simp
      refine HRM.out.mono ?_
      rintro e w5 ⟨rfl, hb5⟩
      have HB5 : Hid (Below w4.heap.size w4 w5) := (drewN_below (Below.refl _ _) 1).trans hb5
      clear hb5 HRM
      refine hK.out _ _ (KS.out _ HB5.out) (fun hH2 => ?_)
      clear hK hH
      refine wpAnyH_take (i := 10) (oi := ⟨some 47, _, _, _, _, _⟩) rfl (by kernel_rfl) (by kernel_rfl) (by kernel_rfl) (fun _ _ _ h => h) (Or.inl ⟨by rfl, fun w hw => by ((try dsimp only at hw); go_split_ands; go_simp; with_reducible rfl)⟩) (by assumption) ?_
      try simp only [Act.put, List.setIfInBounds_toArray, List.set_cons_zero, List.set_cons_succ]
      refine wpAnyH_done (by kernel_rfl) ?_ _
      change KK2 _ _
      refine HKK2.out _ _ ?_
      clear hH2
      have HB6 := Lib.hid (HB.out.trans (HB5.out.mono HB.out.size))
      go_wp2_with fail
      go_roundw
      case rel => exact ⟨k + 1, by omega, by go_num, HB6.out⟩
      case measure => simp [intOf]; omega
    · have hnlt : ¬ (k : Int) < N := by omega
      go_wp2_with fail
      go_ret
      exact ⟨rfl, HB.out⟩
end Go.Proofs.Ytkpbeibcfaenhaa
