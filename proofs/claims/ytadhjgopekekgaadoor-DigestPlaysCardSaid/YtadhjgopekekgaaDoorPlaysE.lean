/- ledgerlaw1.DigestPlays: one step of kind 2. -/
import Derived.Test.YtadhjgopekekgaaDoorPlaysI
namespace Go.Proofs.YtadhjgopekekgaaDoor
open Go.RowKit
theorem front_app {ps : List Nat} {xs : List Nat} {n : Nat} (h : ps.take n = xs) {w : World} {g : Nat} {t : TypeId} (hb : BlkB w g t ps) (hB : IsB ps) (hl : n ≤ ps.length) : RB w (some ⟨g, 0, none⟩) n xs := by
  have := hb.reads hB (o := 0) (n := n) (by omega)
  rwa [List.drop_zero, h] at this
/-- Behind the append, ahead of the store. -/
theorem Pl2.mid {w0 w w1 : World} {K : Nat → Nat} {r n gt ct : Nat} {vh : Value} {held : Int} {G : Nat → Nat} {T U : Nat → List Nat} {V : Nat → Value} {ob pb : Nat} {cs : Array Value} {ps qs : List Nat} {vw : Value}
    (h : Pl2 w0 K r vh (.slice (some ⟨gt, 0, none⟩) n ct) held n G T U V ob cs pb ps vw qs w) {i : Nat} (hi : i < n) (hg : w.grownBy w1 (V i).ownBlock) :
    w1.cell? ⟨gt, i, none⟩ = some (V i) ∧ w1.frozen? ⟨gt, i, none⟩ = false ∧ w1.cell? ⟨r, 1, none⟩ = some (.slice (some ⟨gt, 0, none⟩) n ct) ∧ BlkIs w1 ob 33 cs := by
  have hr := h.row.kv i hi
  have ho := h.row.ot.kept hg (tag_ne h.row.kt hr (by omega))
  obtain ⟨g, c, e1, _, _, _, hf, hc⟩ := row_shape ho (by omega)
  injection e1 with e1
  injection e1 with e1
  injection e1 with e1
  subst e1
  exact ⟨hc i _ (vals_at V hi), hf i, (h.row.blk.grown hg (tag_ne1 h.row.kr hr (by omega))).cell 1, BlkIs.grown h.obk hg (tag_ne1 h.ko hr (by omega))⟩
set_option maxRecDepth 100000 in
set_option maxHeartbeats 8000000 in
theorem plays_2 {w0 w : World} {K : Nat → Nat} {r n L : Nat} {vh vt : Value} {held : Int} {G : Nat → Nat} {T : Nat → List Nat} {V : Nat → Value} (hI : RowInv w0 K r vh vt held n n G T T V w) (hn : 0 < n) (hn2 : n ≤ 1000) (h0 : 0 ≤ held) (h1 : held ≤ 4000000)
    (ht : Tabs w0) (h : Int) (A : Option Addr) (m c : Nat) (xs : List Nat) (hm : xs.length = m) (hp : PcAt w0 A c xs) (hL : ∀ i, i < n → (T i).length ≤ L) (hL2 : L + 2 * m ≤ 2147483647) :
    Calls Tryd.prog 18 #[.pointer (some ⟨r, 0, none⟩), .agg #[.int .i64 2, .int .i64 h, .slice A m c]] w (PlaysPost w0 r (L + 2 * m)) := by
  obtain ⟨gh, ch, gt, ct, e1, e2, hc1, hc2⟩ := hI.shapes hn hn
  subst e1 e2
  have HM : Hid (∀ _ : Nat, xs.length = m) := fun _ => hm
  have hread : Hid (∀ W, Below w0.heap.size w0 W → RB W A m xs) := fun W hb => by rw [← hm]; exact hp.reads W hb
  have hmc : m ≤ c := by rw [← hm]; exact hp.room
  have HNA := Lib.hid hp.nil_
  have HXB : Hid (IsB xs) := (hread.out w0 (Below.refl _ _)).isB
  have HI := Lib.hid hI
  have HL := Lib.hid hL
  have HT := Lib.hid ht
  clear hI hL ht hm hp
  go_enter Tryd.func18, Tryd.ntmps18
  go_wp2_with (first
    | ((with_reducible refine stopAt (o := ⟨some 3, _, _, _, _, _⟩) ?_); refine boxNew (o := ⟨some 3, _, _, _, _, _⟩) (by rfl) 33 (.tmp 1) rfl _ rfl ?_; intro w1 HB1 HW1 HS1; have HI1 := Lib.hid (HI.out.later HW1.out); have c10 := BlkIs.cell HB1.out 0; have c11 := BlkIs.cell HB1.out 1; simp only [List.getElem?_toArray, List.getElem?_cons_zero, List.getElem?_cons_succ] at c10 c11))
  refine (place_any h HI1.out hn (by omega)).mono ?_
  rintro e w2 ⟨⟨i, hi, rfl⟩, hb⟩
  have HI2 := Lib.hid (HI1.out.later hb)
  have HO2 := Lib.hid (HB1.out.below hb)
  have HW2 := Lib.hid (HW1.out.trans (hb.mono HW1.out.size))
  clear hb c10 c11 HI1 HB1 HW1 HS1
  have c0 := HI2.out.c0
  have c1 := HI2.out.c1
  have c2 := HI2.out.c2
  have d1 := HI2.out.hcell hi
  have d2 := HI2.out.tcell hi
  have b0 : w2.cell? ⟨w.heap.size, 0, none⟩ = some (.int .i64 2) := BlkIs.cell HO2.out 0
  obtain ⟨Ai, di, hvi, _⟩ := (HI2.out.text i hi).form
  rw [hvi] at d2
  unfold ptr at d1
  have hli := HL.out i hi
  have hch : (i : Int) < n := by omega
  generalize hx : G i = gi at *
  generalize hy : (T i).length = li at *
  go_wp2_with fail
  go_quiet (fail)
  have HI3 := Lib.hid (HI2.out.later (drewN_below (Below.refl _ _) nq))
  have HO3 : Hid (BlkIs (w2.drewN nq) w.heap.size 33 #[.int .i64 2, .int .i64 h, .slice A m c]) := HO2.out
  have HW3 : Hid (Below w.heap.size w (w2.drewN nq)) := HW2.out.trans ((drewN_below (Below.refl _ _) nq).mono HW2.out.size)
  have b3 : (w2.drewN nq).cell? ⟨w.heap.size, 0, none⟩ = some (.int .i64 2) := b0
  have b4 : (w2.drewN nq).cell? ⟨w.heap.size, 2, none⟩ = some (.slice A m c) := BlkIs.cell HO3.out 2
  generalize hw3 : w2.drewN nq = w3 at *
  clear c0 c1 c2 d1 d2 b0 HI2 HO2 HW2 hw3
  go_wp2_with fail
  refine (roomy1_any A m c xs w3 (hread.out w3 HI3.out.below) (by omega)).mono ?_
  rintro e w4 ⟨pb, rfl, hpb, hbb, hb⟩
  obtain ⟨K4, HP4⟩ : ∃ K4, Hid (Pl2 w0 K4 r (.slice (some ⟨gh, 0, none⟩) n ch) (.slice (some ⟨gt, 0, none⟩) n ct) held n G T T V w.heap.size #[.int .i64 2, .int .i64 h, .slice A m c] pb (xs ++ m80) (.slice none 0 0) [] w4) :=
    ⟨_, Pl2.begin_ HI.out HO3.out (Nat.le_refl _) HW3.out hbb hpb hb⟩
  clear HI3 HO3 HW3 b3 b4 hpb hbb hb HI
  have b4 : w4.cell? ⟨w.heap.size, 2, none⟩ = some (.slice A m c) := BlkIs.cell HP4.out.obk 2
  have hcap : (m : Int) ≤ (m : Int) + 80 := by omega
  have hcap0 : (0 : Int) ≤ (m : Int) := by omega
  go_wp2_with fail
  have hpg : pb ≠ gi := by
    rw [← hx]
    intro e
    have q1 := HP4.out.kp
    have q2 := HP4.out.row.kg i hi
    rw [e] at q1
    omega
  have hgr : gi ≠ 3 := by
    rw [← hx]
    intro e
    have q1 := HT.out.2.1
    have q2 := HP4.out.row.lo i hi
    omega
  have HGR := Lib.hid hgr
  have HPG := Lib.hid hpg
  clear hgr hpg
  have HF4 := Lib.hid (front_reads HP4.out.pbk HXB.out (HM.out 0))
  refine (write_any gi (some ⟨pb, 0, none⟩) m (m + 80) (T i) xs w4 HF4.out (by omega) (by omega) (fun _ ad e => by injection e with e; rw [← e]; exact HPG.out) (hx ▸ HP4.out.row.hash i hi) (HT.out.below HP4.out.row.below).2 HGR.out).mono ?_
  rintro e w5 ⟨rfl, hh, hg⟩
  rw [← hx] at hh hg
  have HP5 := Lib.hid (HP4.out.putHash hi hh hg)
  clear hh hg HP4 b4 HF4
  have b5 : w5.cell? ⟨w.heap.size, 2, none⟩ = some (.slice A m c) := BlkIs.cell HP5.out.obk 2
  go_wp2_with fail
  refine (intact_true pb A m c xs w5 HP5.out.pbk (hread.out w5 HP5.out.row.below) (by omega)).mono ?_
  rintro e w6 ⟨rfl, q, hq⟩
  have HP6 : Hid (Pl2 w0 K4 r (.slice (some ⟨gh, 0, none⟩) n ch) (.slice (some ⟨gt, 0, none⟩) n ct) held n G (upd T i (T i ++ xs)) T V w.heap.size #[.int .i64 2, .int .i64 h, .slice A m c] pb (mixK (fl (xs ++ m80)) (xs ++ m80) 0) (.slice none 0 0) [] w6) := by
    rw [hq, mixK_zero]
    exact HP5.out.later (drewN_below (Below.refl _ _) q)
  clear hq HP5 b5
  have HPL : Hid (∀ _ : Nat, (xs ++ m80).length = m + 80) := fun _ => by rw [List.length_append, m80_length, HM.out 0]
  have HPB : Hid (IsB (xs ++ m80)) := HXB.out.app (fun x hx => by
    rw [List.eq_of_mem_replicate hx]
    decide)
  have HPX : Hid (∀ _ : Nat, (fl (xs ++ m80)).take m = fl xs) := fun _ => by
    unfold fl
    rw [← List.map_take, List.take_left' (HM.out 0)]
  obtain ⟨ps, hps⟩ : ∃ ps, ps = xs ++ m80 := ⟨_, rfl⟩
  rw [← hps] at HP6 HPL HPB HPX
  clear hps
  go_wp2_with fail
  go_loopw [8] (fun u wr => ∃ k : Nat, k ≤ m + 80 ∧ u = .int .i64 k ∧ Hid (Pl2 w0 K4 r (.slice (some ⟨gh, 0, none⟩) n ch) (.slice (some ⟨gt, 0, none⟩) n ct) held n G (upd T i (T i ++ xs)) T V w.heap.size #[.int .i64 2, .int .i64 h, .slice A m c] pb (mixK (fl ps) ps k) (.slice none 0 0) [] wr)) (fun u _ => m + 80 - (intOf u).toNat)
  case atStart => exact ⟨0, by omega, rfl, HP6.out⟩
  case round =>
    clear HP6
    obtain ⟨k, hk, rfl, HP⟩ := hrel
    obtain ⟨w8, rfl⟩ : ∃ w8, w8 = wr := ⟨_, rfl⟩
    by_cases hlt : k < m + 80
    · have hkl : k < ps.length := by rw [HPL.out 0]; exact hlt
      have hml : (mixK (fl ps) ps k).length = m + 80 := by rw [mixK_length (fl_length ps), HPL.out 0]
      have hlt' : (k : Int) < (m : Int) + 80 := by omega
      have hx8 : ps.getD k 0 < 256 := byteAt HPB.out k
      have hxor : bits .xor .u8 ((ps.getD k 0 : Nat) : Int) 255 = ((ps.getD k 0 ^^^ 255 : Nat) : Int) := xor8 _ 255 hx8 (by omega)
      have cl := BlkB.cell HP.out.pbk (i := k) (by omega)
      rw [mixK_at (fl_length ps) hkl] at cl
      have fp := BlkIs.frozen HP.out.pbk k
      have HP9 := Lib.hid (HP.out.setP k (ps.getD k 0 ^^^ 255))
      rw [← fl_at ps hkl, mixK_next (fl_length ps) hkl, fl_at ps hkl] at HP9
      generalize ps.getD k 0 = x at *
      clear hml hkl HP
      go_wp2_with fail
      go_roundw
      case rel => exact ⟨k + 1, by omega, by go_num, HP9.out⟩
      case measure => simp [intOf]; omega
    · have HPE : Hid (Pl2 w0 K4 r (.slice (some ⟨gh, 0, none⟩) n ch) (.slice (some ⟨gt, 0, none⟩) n ct) held n G (upd T i (T i ++ xs)) T V w.heap.size #[.int .i64 2, .int .i64 h, .slice A m c] pb (fl ps) (.slice none 0 0) [] w8) := by
        have := HP.out
        rwa [mixK_end (fl_length ps) (show k = ps.length by rw [HPL.out 0]; omega)] at this
      clear HP
      have hnlt : ¬ ((k : Int) < (m : Int) + 80) := by omega
      go_wp2_with fail
      have HPD := Lib.hid (HPE.out.later (drewN_below (Below.refl _ _) 1))
      have HV := Lib.hid (HPD.out.row.text i hi)
      rw [hvi] at HV
      have d2 := HPE.out.row.tcell hi
      rw [hvi] at d2
      clear HPE
      rename_i KK hKK
      have HKK := Lib.hid hKK
      clear hKK
      refine wp_region_held_drew (S := fun w' => w'.cell? ⟨r, 1, none⟩ = some (.slice (some ⟨gt, 0, none⟩) n ct) ∧ w'.cell? ⟨w.heap.size, 2, none⟩ = some (.slice A m c)) (by kernel_rfl) ⟨HPD.out.row.c1, BlkIs.cell HPD.out.obk 2⟩ fun hH => ?_
      refine wpAnyH_take (i := 0) (oi := ⟨some 93, _, _, _, _, _⟩) rfl (by kernel_rfl) (by kernel_rfl) (by kernel_rfl) (fun _ _ _ h => h) (Or.inl ⟨by rfl, fun w hw => by (obtain ⟨hw1, hw2⟩ := hw; go_simp; with_reducible rfl)⟩) (by assumption) ?_
      try simp only [Act.put, List.setIfInBounds_toArray, List.set_cons_zero, List.set_cons_succ]
      refine wpAnyH_take (i := 1) (oi := ⟨some 94, _, _, _, _, _⟩) rfl (by kernel_rfl) (by kernel_rfl) (by kernel_rfl) (fun _ _ _ h => h) (Or.inl ⟨by rfl, fun w hw => by (obtain ⟨hw1, hw2⟩ := hw; go_simp; with_reducible rfl)⟩) (by assumption) ?_
      try simp only [Act.put, List.setIfInBounds_toArray, List.set_cons_zero, List.set_cons_succ]
      refine wpAnyH_take (i := 2) (oi := ⟨some 95, _, _, _, _, _⟩) rfl (by kernel_rfl) (by kernel_rfl) (by kernel_rfl) (fun _ _ _ h => h) (Or.inl ⟨by rfl, fun w hw => by (obtain ⟨hw1, hw2⟩ := hw; go_simp; with_reducible rfl)⟩) (by assumption) ?_
      try simp only [Act.put, List.setIfInBounds_toArray, List.set_cons_zero, List.set_cons_succ]
      refine wpAnyH_take (i := 3) (oi := ⟨some 96, _, _, _, _, _⟩) rfl (by kernel_rfl) (by kernel_rfl) (by kernel_rfl) (fun _ _ _ h => h) (Or.inl ⟨by rfl, fun w hw => by (obtain ⟨hw1, hw2⟩ := hw; go_simp; with_reducible rfl)⟩) (by assumption) ?_
      try simp only [Act.put, List.setIfInBounds_toArray, List.set_cons_zero, List.set_cons_succ]
      refine wpAnyH_take (i := 4) (oi := ⟨some 97, _, _, _, _, _⟩) rfl (by kernel_rfl) (by kernel_rfl) (by kernel_rfl) (fun _ _ _ h => h) (Or.inl ⟨by rfl, fun w hw => by (obtain ⟨hw1, hw2⟩ := hw; go_simp; with_reducible rfl)⟩) (by assumption) ?_
      try simp only [Act.put, List.setIfInBounds_toArray, List.set_cons_zero, List.set_cons_succ]
      refine wpAnyH_take (i := 5) (oi := ⟨some 98, _, _, _, _, _⟩) rfl (by kernel_rfl) (by kernel_rfl) (by kernel_rfl) (fun _ _ _ h => h) (Or.inl ⟨by rfl, fun w hw => by (obtain ⟨hw1, hw2⟩ := hw; go_simp; with_reducible rfl)⟩) (by assumption) ?_
      try simp only [Act.put, List.setIfInBounds_toArray, List.set_cons_zero, List.set_cons_succ]
      refine wpAnyH_take (i := 6) (oi := ⟨some 99, _, _, _, _, _⟩) rfl (by kernel_rfl) (by kernel_rfl) (by kernel_rfl) (fun _ _ _ h => h) (Or.inl ⟨by rfl, fun w hw => by (obtain ⟨hw1, hw2⟩ := hw; go_simp; with_reducible rfl)⟩) (by assumption) ?_
      try simp only [Act.put, List.setIfInBounds_toArray, List.set_cons_zero, List.set_cons_succ]
      refine wpAnyH_take (i := 7) (oi := ⟨some 100, _, _, _, _, _⟩) rfl (by kernel_rfl) (by kernel_rfl) (by kernel_rfl) (fun _ _ _ h => h) (Or.inl ⟨by rfl, fun w hw => by (obtain ⟨hw1, hw2⟩ := hw; go_simp; with_reducible rfl)⟩) (by assumption) ?_
      try simp only [Act.put, List.setIfInBounds_toArray, List.set_cons_zero, List.set_cons_succ]
      refine wpAnyH_take (i := 8) (oi := ⟨some 101, _, _, _, _, _⟩) rfl (by kernel_rfl) (by kernel_rfl) (by kernel_rfl) (fun _ _ _ h => h) (Or.inl ⟨by rfl, fun w hw => by (obtain ⟨hw1, hw2⟩ := hw; go_simp; with_reducible rfl)⟩) (by assumption) ?_
      try simp only [Act.put, List.setIfInBounds_toArray, List.set_cons_zero, List.set_cons_succ]
      refine wpAnyH_take (i := 9) (oi := ⟨some 102, _, _, _, _, _⟩) rfl (by kernel_rfl) (by kernel_rfl) (by kernel_rfl) (fun _ _ _ h => h) (Or.inl ⟨by rfl, fun w hw => by (obtain ⟨hw1, hw2⟩ := hw; go_simp; with_reducible rfl)⟩) (by assumption) ?_
      try simp only [Act.put, List.setIfInBounds_toArray, List.set_cons_zero, List.set_cons_succ]
      refine wpAnyH_take (i := 10) (oi := ⟨some 103, _, _, _, _, _⟩) rfl (by kernel_rfl) (by kernel_rfl) (by kernel_rfl) (fun _ _ _ h => h) (Or.inl ⟨by rfl, fun w hw => by (obtain ⟨hw1, hw2⟩ := hw; go_simp; with_reducible rfl)⟩) (by assumption) ?_
      try simp only [Act.put, List.setIfInBounds_toArray, List.set_cons_zero, List.set_cons_succ]
      refine wpAnyH_take (i := 12) (oi := ⟨some 105, _, _, _, _, _⟩) rfl (by kernel_rfl) (by kernel_rfl) (by kernel_rfl) (fun _ _ _ h => h) (Or.inl ⟨by rfl, fun w hw => by (obtain ⟨hw1, hw2⟩ := hw; go_simp; with_reducible rfl)⟩) (by assumption) ?_
      try simp only [Act.put, List.setIfInBounds_toArray, List.set_cons_zero, List.set_cons_succ]
      refine wpAnyH_take (i := 13) (oi := ⟨some 106, _, _, _, _, _⟩) rfl (by kernel_rfl) (by kernel_rfl) (by kernel_rfl) (fun _ _ _ h => h) (Or.inl ⟨by rfl, fun w hw => by (obtain ⟨hw1, hw2⟩ := hw; go_simp; with_reducible rfl)⟩) (by assumption) ?_
      try simp only [Act.put, List.setIfInBounds_toArray, List.set_cons_zero, List.set_cons_succ]
      refine wpAnyH_ready (rs := [11]) (by kernel_rfl) (by simp) ?_
      refine AllReadyH.cons rfl (fun K hK => ?_) (AllReadyH.nil)
      go_simp
      refine hK.out _ _ hH (fun hH2 => ?_)
      clear hK d2
      refine wpAnyH_ready (rs := [14]) (by kernel_rfl) (by simp) ?_
      refine AllReadyH.cons (o := ⟨some 107, _, _, _, _, _⟩) rfl (fun K hK => ?_) (AllReadyH.nil)
      refine wpOp_appendRB (o := ⟨some 107, _, _, _, _, _⟩) und_bytes info_byte ?hw (w8.drewN 1) (.tmp 104) (.tmp 106) rfl w0.heap.size (.slice Ai li di) (T i) HV.out A m c xs (hread.out _ HPD.out.row.below) HNA.out ?hs ?hx (by omega) HPD.out.row.below.size ?hh
      case hw => kernel_rfl
      case hs => rfl
      case hx => rfl
      intro v9 w9 ho9 hg9 hl9
      obtain ⟨A9, d9, hv9, _⟩ := ho9.form
      subst hv9
      rw [← hvi] at hg9 hl9
      obtain ⟨K9, HP9⟩ : ∃ K9, Hid (Pl2 w0 K9 r (.slice (some ⟨gh, 0, none⟩) n ch) (.slice (some ⟨gt, 0, none⟩) n ct) held n G (upd T i (T i ++ xs)) (upd T i (T i ++ xs)) (upd V i (.slice A9 (T i ++ xs).length d9)) w.heap.size #[.int .i64 2, .int .i64 h, .slice A m c] pb (fl ps) (.slice none 0 0) [] (w9.setCell ⟨gt, i, none⟩ (.slice A9 (T i ++ xs).length d9))) :=
        ⟨_, HPD.out.putText hi rfl ho9 hg9 hl9⟩
      obtain ⟨q1, q2, q3, q4⟩ := HPD.out.mid hi hg9
      rw [hvi] at q1
      refine hK.out _ _ ⟨q3, BlkIs.cell q4 2⟩ (fun hH3 => ?_)
      have hH4 : (w9.setCell ⟨gt, i, none⟩ (.slice A9 (T i ++ xs).length d9)).cell? ⟨r, 1, none⟩ = some (.slice (some ⟨gt, 0, none⟩) n ct) ∧ (w9.setCell ⟨gt, i, none⟩ (.slice A9 (T i ++ xs).length d9)).cell? ⟨w.heap.size, 2, none⟩ = some (.slice A m c) := ⟨HP9.out.row.c1, BlkIs.cell HP9.out.obk 2⟩
      clear hK hH2 hH HPD HV q3 q4 ho9 hg9 hl9
      generalize hT9 : (T i ++ xs).length = l9 at *
      refine wpAnyH_take (i := 15) (oi := ⟨some 108, _, _, _, _, _⟩) rfl (by kernel_rfl) (by kernel_rfl) (by kernel_rfl) (fun _ _ _ h => h) (Or.inl ⟨by rfl, fun w hw => by (obtain ⟨hw1, hw2⟩ := hw; go_simp; with_reducible rfl)⟩) (by assumption) ?_
      try simp only [Act.put, List.setIfInBounds_toArray, List.set_cons_zero, List.set_cons_succ]
      refine wpAnyH_ready (rs := [16]) (by kernel_rfl) (by simp) ?_
      refine AllReadyH.cons rfl (fun K hK => ?_) (AllReadyH.nil)
      go_simp
      refine hK.out _ _ hH4 (fun hH5 => ?_)
      clear hK hH3 q1 q2 hH4
      refine wpAnyH_done (by kernel_rfl) ?_ _
      change KK _ _
      refine HKK.out _ _ ?_
      obtain ⟨w10, hw10⟩ : ∃ w10, w9.setCell ⟨gt, i, none⟩ (.slice A9 l9 d9) = w10 := ⟨_, rfl⟩
      rw [hw10] at hH5 HP9 ⊢
      have b10 := hH5.2
      clear hw10 hH5
      by_cases hm3 : m % 3 = 1
      · have hm3' : (m : Int).tmod 3 = 1 := by
          rw [Int.tmod_eq_emod_of_nonneg (by omega)]
          omega
        have hm4 : ((m : Int).tmod 3 == 1) = true := by simpa using hm3'
        go_wp2_with fail
        have HFB : Hid (IsB (fl ps)) := fl_isB HPB.out
        have HFL : Hid (∀ _ : Nat, (fl ps).length = m + 80) := fun _ => by rw [fl_length, HPL.out 0]
        refine (copied_any (some ⟨pb, 0, none⟩) (m + 80) (m + 80) (fl ps) w10 (BlkB.whole HP9.out.pbk HFB.out (HFL.out 0)) (fun e => by cases e) (by omega)).mono ?_
        rintro e w11 ⟨v11, rfl, ho, hb⟩
        obtain ⟨K11, HP11⟩ : ∃ K11, Hid (Pl2 w0 K11 r (.slice (some ⟨gh, 0, none⟩) n ch) (.slice (some ⟨gt, 0, none⟩) n ct) held n G (upd T i (T i ++ xs)) (upd T i (T i ++ xs)) (upd V i (.slice A9 l9 d9)) w.heap.size #[.int .i64 2, .int .i64 h, .slice A m c] pb (fl ps) v11 (fl ps) w11) :=
          ⟨_, HP9.out.setW hb ho⟩
        obtain ⟨g11, c11, hv11, _, _, hc11, _⟩ := row_shape (n := m + 80) (by have := HP11.out.own.1; rwa [HFL.out 0] at this) (by omega)
        subst hv11
        clear ho hb HP9 b10 hm4 hm3'
        have b11 : w11.cell? ⟨w.heap.size, 2, none⟩ = some (.slice A m c) := BlkIs.cell HP11.out.obk 2
        go_wp2_with fail
        have HF11 := Lib.hid (front_app (HPX.out 0) HP11.out.pbk HFB.out (by rw [HFL.out 0]; omega))
        refine (write_any gi (some ⟨pb, 0, none⟩) m (m + 80) (T i ++ xs) (fl xs) w11 HF11.out (by omega) (by omega) (fun _ ad e => by injection e with e; rw [← e]; exact HPG.out) (by have := HP11.out.row.hash i hi; rwa [upd_same, hx] at this) (HT.out.below HP11.out.row.below).2 HGR.out).mono ?_
        rintro e w12 ⟨rfl, hh, hg⟩
        rw [← hx] at hh hg
        have HP12 := Lib.hid (HP11.out.putHash hi hh hg)
        rw [upd_upd] at HP12
        clear hh hg HP11 b11 HF11
        go_wp2_with fail
        have HPD := Lib.hid (HP12.out.later (drewN_below (Below.refl _ _) 1))
        have HV := Lib.hid (HPD.out.row.text i hi)
        rw [upd_same, upd_same] at HV
        have d2 := HP12.out.row.tcell hi
        rw [upd_same] at d2
        have HS2 : Hid (RB (w12.drewN 1) (some ⟨g11, 0, none⟩) m (fl xs)) := by
          have h2 := HPD.out.own.reads
          rw [HFL.out 0] at h2
          have h3 := h2.take (k := m) (by omega)
          rwa [HPX.out 0] at h3
        have hl9 : l9 ≤ li + m := by rw [← hT9, List.length_append, HM.out 0, hy]; exact Nat.le_refl _
        have hT92 := Lib.hid hT9
        have hcap11 : (m : Int) ≤ (c11 : Int) := by omega
        clear HP12 hT9
        rename_i KK2 hKK2
        have HKK2 := Lib.hid hKK2
        clear hKK2
        refine wp_region_held_drew (S := fun w' => w'.cell? ⟨r, 1, none⟩ = some (.slice (some ⟨gt, 0, none⟩) n ct) ∧ w'.cell? ⟨w.heap.size, 2, none⟩ = some (.slice A m c)) (by kernel_rfl) ⟨HPD.out.row.c1, BlkIs.cell HPD.out.obk 2⟩ fun hH => ?_
        refine wpAnyH_take (i := 0) (oi := ⟨some 123, _, _, _, _, _⟩) rfl (by kernel_rfl) (by kernel_rfl) (by kernel_rfl) (fun _ _ _ h => h) (Or.inl ⟨by rfl, fun w hw => by (obtain ⟨hw1, hw2⟩ := hw; go_simp; with_reducible rfl)⟩) (by assumption) ?_
        try simp only [Act.put, List.setIfInBounds_toArray, List.set_cons_zero, List.set_cons_succ]
        refine wpAnyH_take (i := 1) (oi := ⟨some 124, _, _, _, _, _⟩) rfl (by kernel_rfl) (by kernel_rfl) (by kernel_rfl) (fun _ _ _ h => h) (Or.inl ⟨by rfl, fun w hw => by (obtain ⟨hw1, hw2⟩ := hw; go_simp; with_reducible rfl)⟩) (by assumption) ?_
        try simp only [Act.put, List.setIfInBounds_toArray, List.set_cons_zero, List.set_cons_succ]
        refine wpAnyH_take (i := 2) (oi := ⟨some 125, _, _, _, _, _⟩) rfl (by kernel_rfl) (by kernel_rfl) (by kernel_rfl) (fun _ _ _ h => h) (Or.inl ⟨by rfl, fun w hw => by (obtain ⟨hw1, hw2⟩ := hw; go_simp; with_reducible rfl)⟩) (by assumption) ?_
        try simp only [Act.put, List.setIfInBounds_toArray, List.set_cons_zero, List.set_cons_succ]
        refine wpAnyH_take (i := 3) (oi := ⟨some 126, _, _, _, _, _⟩) rfl (by kernel_rfl) (by kernel_rfl) (by kernel_rfl) (fun _ _ _ h => h) (Or.inl ⟨by rfl, fun w hw => by (obtain ⟨hw1, hw2⟩ := hw; go_simp; with_reducible rfl)⟩) (by assumption) ?_
        try simp only [Act.put, List.setIfInBounds_toArray, List.set_cons_zero, List.set_cons_succ]
        refine wpAnyH_take (i := 4) (oi := ⟨some 127, _, _, _, _, _⟩) rfl (by kernel_rfl) (by kernel_rfl) (by kernel_rfl) (fun _ _ _ h => h) (Or.inl ⟨by rfl, fun w hw => by (obtain ⟨hw1, hw2⟩ := hw; go_simp; with_reducible rfl)⟩) (by assumption) ?_
        try simp only [Act.put, List.setIfInBounds_toArray, List.set_cons_zero, List.set_cons_succ]
        refine wpAnyH_take (i := 5) (oi := ⟨some 128, _, _, _, _, _⟩) rfl (by kernel_rfl) (by kernel_rfl) (by kernel_rfl) (fun _ _ _ h => h) (Or.inl ⟨by rfl, fun w hw => by (obtain ⟨hw1, hw2⟩ := hw; go_simp; with_reducible rfl)⟩) (by assumption) ?_
        try simp only [Act.put, List.setIfInBounds_toArray, List.set_cons_zero, List.set_cons_succ]
        refine wpAnyH_take (i := 6) (oi := ⟨some 129, _, _, _, _, _⟩) rfl (by kernel_rfl) (by kernel_rfl) (by kernel_rfl) (fun _ _ _ h => h) (Or.inl ⟨by rfl, fun w hw => by (obtain ⟨hw1, hw2⟩ := hw; go_simp; with_reducible rfl)⟩) (by assumption) ?_
        try simp only [Act.put, List.setIfInBounds_toArray, List.set_cons_zero, List.set_cons_succ]
        refine wpAnyH_take (i := 7) (oi := ⟨some 130, _, _, _, _, _⟩) rfl (by kernel_rfl) (by kernel_rfl) (by kernel_rfl) (fun _ _ _ h => h) (Or.inl ⟨by rfl, fun w hw => by (obtain ⟨hw1, hw2⟩ := hw; go_simp; with_reducible rfl)⟩) (by assumption) ?_
        try simp only [Act.put, List.setIfInBounds_toArray, List.set_cons_zero, List.set_cons_succ]
        refine wpAnyH_take (i := 8) (oi := ⟨some 131, _, _, _, _, _⟩) rfl (by kernel_rfl) (by kernel_rfl) (by kernel_rfl) (fun _ _ _ h => h) (Or.inl ⟨by rfl, fun w hw => by (obtain ⟨hw1, hw2⟩ := hw; go_simp; with_reducible rfl)⟩) (by assumption) ?_
        try simp only [Act.put, List.setIfInBounds_toArray, List.set_cons_zero, List.set_cons_succ]
        refine wpAnyH_take (i := 9) (oi := ⟨some 132, _, _, _, _, _⟩) rfl (by kernel_rfl) (by kernel_rfl) (by kernel_rfl) (fun _ _ _ h => h) (Or.inl ⟨by rfl, fun w hw => by (obtain ⟨hw1, hw2⟩ := hw; go_simp; with_reducible rfl)⟩) (by assumption) ?_
        try simp only [Act.put, List.setIfInBounds_toArray, List.set_cons_zero, List.set_cons_succ]
        refine wpAnyH_take (i := 10) (oi := ⟨some 133, _, _, _, _, _⟩) rfl (by kernel_rfl) (by kernel_rfl) (by kernel_rfl) (fun _ _ _ h => h) (Or.inl ⟨by rfl, fun w hw => by (obtain ⟨hw1, hw2⟩ := hw; go_simp; with_reducible rfl)⟩) (by assumption) ?_
        try simp only [Act.put, List.setIfInBounds_toArray, List.set_cons_zero, List.set_cons_succ]
        refine wpAnyH_take (i := 12) (oi := ⟨some 135, _, _, _, _, _⟩) rfl (by kernel_rfl) (by kernel_rfl) (by kernel_rfl) (fun _ _ _ h => h) (Or.inl ⟨by rfl, fun w hw => by (obtain ⟨hw1, hw2⟩ := hw; go_simp; with_reducible rfl)⟩) (by assumption) ?_
        try simp only [Act.put, List.setIfInBounds_toArray, List.set_cons_zero, List.set_cons_succ]
        refine wpAnyH_take (i := 13) (oi := ⟨some 136, _, _, _, _, _⟩) rfl (by kernel_rfl) (by kernel_rfl) (by kernel_rfl) (fun _ _ _ h => h) (Or.inl ⟨by rfl, fun w hw => by (obtain ⟨hw1, hw2⟩ := hw; go_simp; with_reducible rfl)⟩) (by assumption) ?_
        try simp only [Act.put, List.setIfInBounds_toArray, List.set_cons_zero, List.set_cons_succ]
        refine wpAnyH_take (i := 14) (oi := ⟨some 137, _, _, _, _, _⟩) rfl (by kernel_rfl) (by kernel_rfl) (by kernel_rfl) (fun _ _ _ h => h) (Or.inl ⟨by rfl, fun w hw => by (obtain ⟨hw1, hw2⟩ := hw; go_simp; with_reducible rfl)⟩) (by assumption) ?_
        try simp only [Act.put, List.setIfInBounds_toArray, List.set_cons_zero, List.set_cons_succ]
        refine wpAnyH_take (i := 15) (oi := ⟨some 138, _, _, _, _, _⟩) rfl (by kernel_rfl) (by kernel_rfl) (by kernel_rfl) (fun _ _ _ h => h) (Or.inl ⟨by rfl, fun w hw => by (obtain ⟨hw1, hw2⟩ := hw; go_simp; with_reducible rfl)⟩) (by assumption) ?_
        try simp only [Act.put, List.setIfInBounds_toArray, List.set_cons_zero, List.set_cons_succ]
        refine wpAnyH_take (i := 16) (oi := ⟨some 139, _, _, _, _, _⟩) rfl (by kernel_rfl) (by kernel_rfl) (by kernel_rfl) (fun _ _ _ h => h) (Or.inl ⟨by rfl, fun w hw => by (obtain ⟨hw1, hw2⟩ := hw; go_simp; with_reducible rfl)⟩) (by assumption) ?_
        try simp only [Act.put, List.setIfInBounds_toArray, List.set_cons_zero, List.set_cons_succ]
        refine wpAnyH_ready (rs := [11]) (by kernel_rfl) (by simp) ?_
        refine AllReadyH.cons rfl (fun K hK => ?_) (AllReadyH.nil)
        go_simp
        refine hK.out _ _ hH (fun hH2 => ?_)
        clear hK d2
        refine wpAnyH_ready (rs := [17]) (by kernel_rfl) (by simp) ?_
        refine AllReadyH.cons (o := ⟨some 140, _, _, _, _, _⟩) rfl (fun K hK => ?_) (AllReadyH.nil)
        refine wpOp_appendRB (o := ⟨some 140, _, _, _, _, _⟩) und_bytes info_byte ?hw2 (w12.drewN 1) (.tmp 134) (.tmp 139) rfl w0.heap.size (.slice A9 l9 d9) (T i ++ xs) HV.out (some ⟨g11, 0, none⟩) m c11 (fl xs) HS2.out (fun e => by cases e) ?hs2 ?hx2 (by rw [hT92.out]; omega) HPD.out.row.below.size ?hh2
        case hw2 => kernel_rfl
        case hs2 => rfl
        case hx2 => rfl
        intro v13 w13 ho13 hg13 hl13
        obtain ⟨A13, d13, hv13, _⟩ := ho13.form
        subst hv13
        have e13 : (Value.slice A9 l9 d9) = upd V i (.slice A9 l9 d9) i := (upd_same _ _ _).symm
        rw [e13] at hg13 hl13
        obtain ⟨K13, HP13⟩ : ∃ K13, Hid (Pl2 w0 K13 r (.slice (some ⟨gh, 0, none⟩) n ch) (.slice (some ⟨gt, 0, none⟩) n ct) held n G (upd T i (T i ++ xs ++ fl xs)) (upd (upd T i (T i ++ xs)) i (T i ++ xs ++ fl xs)) (upd (upd V i (.slice A9 l9 d9)) i (.slice A13 (T i ++ xs ++ fl xs).length d13)) w.heap.size #[.int .i64 2, .int .i64 h, .slice A m c] pb (fl ps) (.slice (some ⟨g11, 0, none⟩) (m + 80) c11) (fl ps) (w13.setCell ⟨gt, i, none⟩ (.slice A13 (T i ++ xs ++ fl xs).length d13))) :=
          ⟨_, HPD.out.putText hi rfl ho13 hg13 hl13⟩
        rw [upd_upd] at HP13
        obtain ⟨q1, q2, q3, q4⟩ := HPD.out.mid hi hg13
        rw [← e13] at q1
        refine hK.out _ _ ⟨q3, BlkIs.cell q4 2⟩ (fun hH3 => ?_)
        have hH4 : (w13.setCell ⟨gt, i, none⟩ (.slice A13 (T i ++ xs ++ fl xs).length d13)).cell? ⟨r, 1, none⟩ = some (.slice (some ⟨gt, 0, none⟩) n ct) ∧ (w13.setCell ⟨gt, i, none⟩ (.slice A13 (T i ++ xs ++ fl xs).length d13)).cell? ⟨w.heap.size, 2, none⟩ = some (.slice A m c) := ⟨HP13.out.row.c1, BlkIs.cell HP13.out.obk 2⟩
        clear hK hH2 hH HPD HV q3 q4 ho13 hg13 hl13 e13
        generalize hT13 : (T i ++ xs ++ fl xs).length = l13 at *
        have HT13 := Lib.hid hT13
        clear hT13
        refine wpAnyH_take (i := 18) (oi := ⟨some 141, _, _, _, _, _⟩) rfl (by kernel_rfl) (by kernel_rfl) (by kernel_rfl) (fun _ _ _ h => h) (Or.inl ⟨by rfl, fun w hw => by (obtain ⟨hw1, hw2⟩ := hw; go_simp; with_reducible rfl)⟩) (by assumption) ?_
        try simp only [Act.put, List.setIfInBounds_toArray, List.set_cons_zero, List.set_cons_succ]
        refine wpAnyH_ready (rs := [19]) (by kernel_rfl) (by simp) ?_
        refine AllReadyH.cons rfl (fun K hK => ?_) (AllReadyH.nil)
        go_simp
        refine hK.out _ _ hH4 (fun hH5 => ?_)
        clear hK hH3 q1 q2 hH4
        refine wpAnyH_done (by kernel_rfl) ?_ _
        change KK2 _ _
        refine HKK2.out _ _ ?_
        obtain ⟨w14, hw14⟩ : ∃ w14, w13.setCell ⟨gt, i, none⟩ (.slice A13 l13 d13) = w14 := ⟨_, rfl⟩
        rw [hw14] at hH5 HP13 ⊢
        clear hw14 hH5
        have hcv1 := string_of (w := w14) (c := m + 80) (HFL.out 0) (fun j hj => BlkB.cell HP13.out.pbk (i := j) (by rw [HFL.out 0]; exact hj))
        have hcv2 := string_of (w := w14) (b := g11) (c := c11) (HFL.out 0) (rb_cells (by have h2 := HP13.out.own.reads; rwa [HFL.out 0] at h2))
        generalize strOfNums ((fl ps).map Int.ofNat) = ss at *
        go_wp2_with fail
        go_ret
        refine ⟨rfl, _, _, _, _, _, _, _, _, HP13.out.row, hn, hn2, h0, h1, fun j hj => ?_⟩
        by_cases e : j = i
        · subst e; rw [upd_same, HT13.out]
          have h2 := HT13.out
          rw [List.length_append, hT92.out, fl_length, HM.out 0] at h2
          omega
        · rw [upd_other _ _ e]; have := HL.out j hj; omega
      · have hm3' : (m : Int).tmod 3 ≠ 1 := by
          rw [Int.tmod_eq_emod_of_nonneg (by omega)]
          omega
        have hm4 : ((m : Int).tmod 3 == 1) = false := by simpa using hm3'
        go_wp2_with fail
        go_ret
        refine ⟨rfl, _, _, _, _, _, _, _, _, HP9.out.row, hn, hn2, h0, h1, fun j hj => ?_⟩
        by_cases e : j = i
        · subst e; rw [upd_same, List.length_append, HM.out 0]; omega
        · rw [upd_other _ _ e]; have := HL.out j hj; omega
end Go.Proofs.YtadhjgopekekgaaDoor
