/- ledgerlaw5.mark and (*Book).put. -/
import Derived.Test.YtbjbpgbpefkbhaaDoorBookS
namespace Go.Proofs.YtbjbpgbpefkbhaaDoor
open Go.RowKit
theorem mark_any (i : Nat) (w : World) (hi : i ≤ 1073741824) : Calls Tryd.prog 40 #[.int .i64 i] w fun e w' => e = .returned (.int .u8 (mkOf i : Nat)) ∧ w' = w := by
  have hi2 : (i : Int) ≤ 1073741824 := by omega
  have hv : ((i : Int) % 250 + 1) = ((mkOf i : Nat) : Int) := by
    unfold mkOf
    omega
  have hr : 0 ≤ (i : Int).tmod 250 ∧ (i : Int).tmod 250 < 250 := by
    rw [Int.tmod_eq_emod_of_nonneg (by omega)]
    omega
  have hw : IntKind.u8.wrap ((mkOf i : Nat) : Int) = ((mkOf i : Nat) : Int) := by
    have := mkOf_lt i
    rw [IntKind.wrap_u8]
    omega
  have HV := Lib.hid hv
  have HW := Lib.hid hw
  clear hi hv hw
  generalize mkOf i = m at *
  go_enter Tryd.func40, Tryd.ntmps40
  go_wp2_with fail
  go_ret
  exact ⟨by show Ending.returned (.int .u8 ((i : Int) % 250 + 1)) = _; rw [HV.out], rfl⟩
theorem info_bytes : (Tryd.prog.info? 24).map (fun i => (i.zero, i.size, i.bytes)) = some (some (.slice none 0 0), 1, 24) := by kernel_rfl
theorem und_rows : Tryd.prog.underlying 47 = some (.slice 24) := by kernel_rfl
theorem heads_at {w : World} {gb : Nat} {v0 v1 v2 v3 : Value} (h : BlkIs w gb 49 #[v0, v1, v2, v3]) : w.cell? ⟨gb, 0, none⟩ = some v0 ∧ w.cell? ⟨gb, 1, none⟩ = some v1 ∧ w.cell? ⟨gb, 2, none⟩ = some v2 ∧ w.cell? ⟨gb, 3, none⟩ = some v3 ∧
    w.frozen? ⟨gb, 0, none⟩ = false ∧ w.frozen? ⟨gb, 1, none⟩ = false ∧ w.frozen? ⟨gb, 2, none⟩ = false ∧ w.frozen? ⟨gb, 3, none⟩ = false :=
  ⟨h.cell 0, h.cell 1, h.cell 2, h.cell 3, h.frozen 0, h.frozen 1, h.frozen 2, h.frozen 3⟩
/-- The list when i places are marked. -/
def mkTo (xs : List Nat) (i m : Nat) : List Nat := mk i m ++ xs.drop i
theorem mkTo_length {xs : List Nat} {i m : Nat} (h : i ≤ xs.length) : (mkTo xs i m).length = xs.length := by
  simp [mkTo, mk]
  omega
theorem mkTo_zero (xs : List Nat) (m : Nat) : mkTo xs 0 m = xs := by simp [mkTo, mk]
theorem mkTo_end (xs : List Nat) (m : Nat) : mkTo xs xs.length m = mk xs.length m := by simp [mkTo]
theorem mkTo_next {xs : List Nat} {i m : Nat} (h : i < xs.length) : (mkTo xs i m).set i m = mkTo xs (i + 1) m := by
  have e : xs.drop i = xs.getD i 0 :: xs.drop (i + 1) := by
    rw [List.drop_eq_getElem_cons h]
    simp [List.getD, h]
  unfold mkTo
  rw [List.set_append_right _ _ (by rw [mk_length]; exact Nat.le_refl _), mk_length, Nat.sub_self, e, List.set_cons_zero]
  rw [show mk (i + 1) m = mk i m ++ [m] by rw [← mk_app]; rfl]
  simp
/-- What put may write, but for the book's own lists. -/
def UT (l : Value) (w : World) (B : Nat) : Prop := l.ownBlock = some B ∨ w.heap.size ≤ B
theorem ut_self (l : Value) (w : World) : ∀ B, l.ownBlock = some B → UT l w B := fun _ h => .inl h
theorem ut_step {l v : Value} {w y y1 : World} (h : Touch (UT l w) w y) (hg : y.grownBy y1 v.ownBlock) (hv : ∀ B, v.ownBlock = some B → UT l w B) : Touch (UT l w) w y1 := h.trans ((Touch.grown hg).mono fun k _ hk => hv k hk.symm)
theorem ut_lies {l v v' : Value} {w y : World} (h : Touch (UT l w) w y) (hl : Lies y v v') (hv : ∀ B, v.ownBlock = some B → UT l w B) : ∀ B, v'.ownBlock = some B → UT l w B := fun B hB => by
  rcases hl B hB with k | k
  · exact hv B k
  · have := h.size
    exact .inr (by omega)
theorem row_form {w : World} {base n : Nat} {e : TypeId} {v : Value} {xs : List Value} (h : w.ownsRow base e 1 v n xs) : ∃ A m c, v = .slice A m c := by
  rcases h.2 with ⟨e, _⟩ | ⟨g, cap, cur, e, _⟩
  · exact ⟨_, _, _, e⟩
  · exact ⟨_, _, _, e⟩
theorem own_one {w : World} {base : Nat} {v : Value} {xs : List Nat} (h : OwnU w base v xs) : v.oneCell' = true := by
  obtain ⟨A, c, rfl, _⟩ := h.form
  rfl
theorem put_free {w : World} {gb base : Nat} {Q : List Quad} {H C : Nat → Prop} {l : Value} (hb : Book w gb base Q H C) (hf : ∀ B, l.ownBlock = some B → ¬ H B ∧ ¬ C B) (B : Nat) (hB : H B ∨ C B) (hU : UT l w B) : False := by
  obtain ⟨_, _, _, _, h1⟩ := hb.heads
  rcases hU with hU | hU
  · rcases hB with hB | hB
    · exact (hf B hU).1 hB
    · exact (hf B hU).2 hB
  · rcases hB with hB | hB
    · have := (h1.bnd B hB).2
      omega
    · have := (hb.bndC B hB).2
      omega
/-- The end of put, without the program. -/
theorem put_end {w y0 y4 : World} {gb base m : Nat} {Q : List Quad} {H C H4 : Nat → Prop} {q : Quad} {z0 z1 z2 z3 : Value} {lb : Option Nat} (hb : Book w gb base Q H C) (hf : ∀ B, lb = some B → ¬ H B ∧ ¬ C B) (hlb : ∀ B, lb = some B → base ≤ B ∧ B < w.heap.size) (hbase : base ≤ w.heap.size) (hm : m = mkOf Q.length)
    (ht : Touch (fun B => lb = some B ∨ w.heap.size ≤ B) w y0) (hq : QuadIs y0 base q m (fun B => lb = some B ∨ w.heap.size ≤ B ∧ B < y0.heap.size))
    (hh : Heads y4 gb base z0 z1 z2 z3 (Q.map Quad.l ++ [q.l]) (Q.map Quad.g ++ [q.g]) (Q.map Quad.h ++ [q.h]) (Q.map Quad.k ++ [q.k]) H4) (h4 : Touch (fun B => H B ∨ y0.heap.size ≤ B) y0 y4) (hH : ∀ B, H4 B → H B ∨ y0.heap.size ≤ B ∧ B < y4.heap.size) :
    ∃ q' H' C', Book y4 gb base (Q ++ [q']) H' C' ∧ (∀ B, H' B ∨ C' B → H B ∨ C B ∨ lb = some B ∨ w.heap.size ≤ B ∧ B < y4.heap.size) ∧ Touch (fun B => H B ∨ lb = some B) w y4 := by
  have hbH : ∀ B, H B → base ≤ B ∧ B < w.heap.size := by
    obtain ⟨_, _, _, _, h1⟩ := hb.heads
    exact h1.bnd
  have hs1 := ht.size
  have hs2 := h4.size
  refine ⟨q, H4, fun B => C B ∨ lb = some B ∨ w.heap.size ≤ B ∧ B < y0.heap.size, ⟨⟨z0, z1, z2, z3, ?_⟩, fun i p hp => ?_, fun B hB hC => ?_, fun B hC => ?_⟩, fun B hB => ?_, ?_⟩
  · rw [List.map_append, List.map_append, List.map_append, List.map_append]
    exact hh
  · by_cases hi : i < Q.length
    · rw [List.getElem?_append_left hi] at hp
      have h1 := (hb.quads i p hp).touch ht fun B hC hU => by
        rcases hU with hU | hU
        · exact (hf B hU).2 hC
        · have := (hb.bndC B hC).2
          omega
      exact (h1.touch h4 fun B hC hU => by
        rcases hU with hU | hU
        · exact hb.dis B hU hC
        · have := (hb.bndC B hC).2
          omega).mono fun B hC => .inl hC
    · have hi2 : i = Q.length := by
        have := (List.getElem?_eq_some_iff.1 hp).1
        simp at this
        omega
      subst hi2
      rw [List.getElem?_append_right (Nat.le_refl _), Nat.sub_self] at hp
      injection hp with hp
      subst hp
      rw [← hm]
      exact (hq.touch h4 fun B hC hU => by
        rcases hU with hU | hU
        · rcases hC with hC | hC
          · exact (hf B hC).1 hU
          · have := (hbH B hU).2
            omega
        · rcases hC with hC | hC
          · have := (hlb B hC).2
            omega
          · omega).mono fun B hC => .inr hC
  · rcases hH B hB with h1 | h1
    · rcases hC with hC | hC | hC
      · exact hb.dis B h1 hC
      · exact (hf B hC).1 h1
      · have := (hbH B h1).2
        omega
    · rcases hC with hC | hC | hC
      · have := (hb.bndC B hC).2
        omega
      · have := (hlb B hC).2
        omega
      · omega
  · rcases hC with hC | hC | hC
    · have := hb.bndC B hC
      omega
    · have := hlb B hC
      omega
    · omega
  · rcases hB with hB | hB
    · rcases hH B hB with h1 | h1
      · exact .inl h1
      · exact .inr (.inr (.inr (by omega)))
    · rcases hB with hB | hB | hB
      · exact .inr (.inl hB)
      · exact .inr (.inr (.inl hB))
      · exact .inr (.inr (.inr (by omega)))
  · refine ⟨h4.os.trans ht.os, h4.tape.trans ht.tape, h4.output.trans ht.output, Nat.le_trans hs1 hs2, fun k hk hn => ?_⟩
    refine (h4.block k (by omega) fun hU => ?_).trans (ht.block k hk fun hU => ?_)
    · rcases hU with hU | hU
      · exact hn (.inl hU)
      · omega
    · rcases hU with hU | hU
      · exact hn (.inr hU)
      · omega
set_option maxRecDepth 20000 in
set_option maxHeartbeats 2000000 in
theorem bookPut_any (gb base : Nat) (Q : List Quad) (H C : Nat → Prop) (l : Value) (xs : List Nat) (w : World) (hb : Book w gb base Q H C) (hl : OwnU w base l xs) (hf : ∀ B, l.ownBlock = some B → ¬ H B ∧ ¬ C B) (hn : xs.length ≤ 1073741824) (hq : Q.length ≤ 1073741824) (hbase : base ≤ w.heap.size) :
    Calls Tryd.prog 25 #[.pointer (some ⟨gb, 0, none⟩), l] w fun e w' => e = .returned (.tuple #[]) ∧ ∃ q H' C', Book w' gb base (Q ++ [q]) H' C' ∧ (∀ B, H' B ∨ C' B → H B ∨ C B ∨ l.ownBlock = some B ∨ w.heap.size ≤ B ∧ B < w'.heap.size) ∧ Touch (fun B => H B ∨ l.ownBlock = some B) w w' := by
  have HB := Lib.hid hb
  have HF := Lib.hid hf
  have HW := Lib.hid hbase
  have HQ := Lib.hid hq
  obtain ⟨v0, v1, v2, v3, hh⟩ := hb.heads
  have hlen0 : (Q.map Quad.l).length = Q.length := List.length_map ..
  obtain ⟨p0, c0, e0, _⟩ : ∃ A c, v0 = .slice A Q.length c ∧ True := by
    rcases hh.r0.2 with ⟨e, e2⟩ | ⟨g, cap, cur, e, _⟩
    · rw [hlen0] at e2
      exact ⟨none, 0, by rw [e, e2], trivial⟩
    · rw [hlen0] at e
      exact ⟨_, _, e, trivial⟩
  subst e0
  have hc0 := hh.blk.cell 0
  have HL := Lib.hid hl
  obtain ⟨A, c, rfl, _⟩ := hl.form
  obtain ⟨n, hN⟩ : ∃ n, n = xs.length := ⟨_, rfl⟩
  have HN := Lib.hid hN
  have hn2 : (n : Int) ≤ 1073741824 := by omega
  have HLB := Lib.hid hl.lt
  rw [← hN] at HL HF HLB ⊢
  have HM : Hid (∀ w, Calls Tryd.prog 40 #[.int .i64 (Q.length : Nat)] w fun e w' => e = .returned (.int .u8 (mkOf Q.length : Nat)) ∧ w' = w) := fun w => mark_any Q.length w hq
  have HM2 := Lib.hid (mkOf_lt Q.length)
  obtain ⟨m', HMQ⟩ : ∃ m', Hid (m' = mkOf Q.length) := ⟨_, rfl⟩
  rw [← HMQ.out] at HM HM2
  obtain ⟨m, rfl⟩ : ∃ m, m = m' := ⟨_, rfl⟩
  clear hb hl hf hn hq hh hN hlen0
  go_enter Tryd.func25, Tryd.ntmps25
  go_wp2_with fail
  refine (HM.out _).mono ?_
  rintro e w1 ⟨rfl, hw1⟩
  rw [hw1]
  clear hw1 HM hc0
  go_wp2
  go_loopw [5] (fun i wr => ∃ j : Nat, i = .int .i64 (j : Int) ∧ Hid (j ≤ n) ∧ Hid (OwnU wr base (.slice A n c) (mkTo xs j m)) ∧ Hid (Touch (fun B => (Value.slice A n c).ownBlock = some B) w wr)) (fun i _ => n - (intOf i).toNat)
  case atStart => exact ⟨0, rfl, Nat.zero_le _, by rw [mkTo_zero]; exact HL.out, Touch.refl _ _⟩
  case round =>
    obtain ⟨j, rfl, HJ, HO, HT⟩ := hrel
    have hjn : j ≤ n := HJ.out
    have hjx : j ≤ xs.length := by rw [← HN.out]; exact hjn
    by_cases hlt : (j : Int) < n
    · have hlt' : j < xs.length := by rw [← HN.out]; omega
      have hll : (mkTo xs j m).length = n := by rw [mkTo_length hjx, HN.out]
      obtain ⟨g, c2, e2, hbg, hgs, hfr, hcell⟩ := HO.out.shape (by rw [hll]; omega)
      injection e2 with e2 _ e3
      subst e2 e3
      have hc := hcell j (by rw [hll]; omega)
      have hfz := hfr j
      have hown := HO.out
      unfold OwnU at hown
      rw [← hll] at hown
      have hset := hown.set j m HM2.out
      rw [hll, mkTo_next hlt'] at hset
      have HS := Lib.hid hset
      have HT2 := Lib.hid (HT.out.trans ((Touch.grown (grown_setCell wr (g := g) j (.int .u8 (m : Int)))).mono fun k _ (hk : some k = some g) => (show some g = some k from hk.symm)))
      clear hcell hfr hown hset hjn hjx hlt' hll
      generalize (mkTo xs j m).getD j 0 = z at *
      go_wp2_with fail
      go_roundw
      case rel => exact ⟨j + 1, by go_num, (show j + 1 ≤ n by omega), HS.out, HT2.out⟩
      case measure => simp [intOf]; omega
    · have HO2 : Hid (OwnU wr base (.slice A n c) (mk n m)) := by
        have h := HO.out
        rw [show j = xs.length by rw [← HN.out]; omega, mkTo_end, ← HN.out] at h
        exact h
      have HBS : Hid (base ≤ wr.heap.size) := Nat.le_trans HW.out HT.out.size
      have HT0 : Hid (Touch (UT (.slice A n c) w) w wr) := HT.out.mono fun k _ hk => .inl hk
      clear HL HO HJ hjx hjn HT
      go_wp2_with (first
        | (at_builtin; refine appendMark (o := ⟨some 29, _, _, _, _, _⟩) und_bytes info_byte wr (by rfl) (.tmp 26) (.tmp 28) (by rfl) base _ n m 1 HO2.out HM2.out #[.int .u8 (m : Int)] (by rfl) (by rfl) (by rfl) (by omega) (by omega) HBS.out ?_; intro vg w3 hg3 hr3 hl3 hf3; have HL3 := Lib.hid (hf3 _ _ _ HO2.out); have HG3 := Lib.hid hg3; have HT3 := Lib.hid (ut_step HT0.out hr3 (ut_self _ _)); have HGL := Lib.hid (ut_lies HT0.out hl3 (ut_self _ _)); have HS3 := Lib.hid (Nat.le_trans HBS.out hr3.size); clear hg3 hr3 hl3 hf3)
        | (at_builtin; refine appendMark (o := ⟨some 34, _, _, _, _, _⟩) und_bytes info_byte w3 (by rfl) (.tmp 30) (.tmp 33) (by rfl) base _ n m 2 HL3.out HM2.out #[.int .u8 (m : Int), .int .u8 (m : Int)] (by rfl) (by rfl) (by rfl) (by omega) (by omega) HS3.out ?_; intro vh w4 hg4 hr4 hl4 hf4; have HL4 := Lib.hid (hf4 _ _ _ HL3.out); have HG4 := Lib.hid (hf4 _ _ _ HG3.out); have HH4 := Lib.hid hg4; have HT4 := Lib.hid (ut_step HT3.out hr4 (ut_self _ _)); have HHL := Lib.hid (ut_lies HT3.out hl4 (ut_self _ _)); have HS4 := Lib.hid (Nat.le_trans HS3.out hr4.size); clear hg4 hr4 hl4 hf4 HL3 HG3)
        | (at_builtin; refine appendMark (o := ⟨some 38, _, _, _, _, _⟩) und_bytes info_byte w4 (by rfl) (.tmp 35) (.tmp 37) (by rfl) base _ n m 1 HL4.out HM2.out #[.int .u8 (m : Int)] (by rfl) (by rfl) (by rfl) (by omega) (by omega) HS4.out ?_; intro vk w5 hg5 hr5 hl5 hf5; have HL5 := Lib.hid (hf5 _ _ _ HL4.out); have HG5 := Lib.hid (hf5 _ _ _ HG4.out); have HH5 := Lib.hid (hf5 _ _ _ HH4.out); have HK5 := Lib.hid hg5; have HT5 := Lib.hid (ut_step HT4.out hr5 (ut_self _ _)); have HKL := Lib.hid (ut_lies HT4.out hl5 (ut_self _ _)); have HS5 := Lib.hid (Nat.le_trans HS4.out hr5.size); clear hg5 hr5 hl5 hf5 HL4 HG4 HH4))
      clear HO2 HT0 HT3 HT4 HS3 HS4 HBS
      go_loopw [8, 9] (fun v jj y => ∃ q : Nat, jj = .int .i64 (q : Int) ∧ Hid (1 ≤ q ∧ q ≤ 300) ∧ Hid (OwnU y base v (mk (n + q) m)) ∧ Hid (OwnU y base (.slice A n c) (mk n m)) ∧ Hid (OwnU y base vg (mk (n + 1) m)) ∧ Hid (OwnU y base vh (mk (n + 2) m)) ∧ Hid (Touch (UT (.slice A n c) w) w y) ∧ Hid (∀ B, v.ownBlock = some B → UT (.slice A n c) w B) ∧ Hid (base ≤ y.heap.size)) (fun _ jj _ => 300 - (intOf jj).toNat)
      case atStart => exact ⟨1, rfl, ⟨Nat.le_refl _, by decide⟩, HK5, HL5, HG5, HH5, HT5, HKL, HS5⟩
      case round =>
        clear HK5 HL5 HG5 HH5 HT5 HKL HS5
        obtain ⟨q, rfl, HQQ, HK, HL, HG, HH, HT, HKL, HS⟩ := hrel
        have hq1 : (1 : Int) ≤ q := by have := HQQ.out; omega
        have hq2 : (q : Int) ≤ 300 := by have := HQQ.out; omega
        by_cases hlt2 : (q : Int) < 300
        · go_wp2_with (at_builtin; refine appendMark (o := ⟨some 46, _, _, _, _, _⟩) und_bytes info_byte wr (by rfl) (.tmp 43) (.tmp 45) (by rfl) base _ (n + q) m 1 HK.out HM2.out #[.int .u8 (m : Int)] (by rfl) (by rfl) (by rfl) (by omega) (by omega) HS.out ?_; intro v' y1 hg6 hr6 hl6 hf6)
          go_roundw
          case rel => exact ⟨q + 1, by go_num, (show 1 ≤ q + 1 ∧ q + 1 ≤ 300 by omega), hg6, hf6 _ _ _ HL.out, hf6 _ _ _ HG.out, hf6 _ _ _ HH.out, ut_step HT.out hr6 HKL.out, ut_lies HT.out hl6 HKL.out, Nat.le_trans HS.out hr6.size⟩
          case measure => simp [intOf]; omega
        · have HK2 : Hid (OwnU wr base u8 (mk (n + 300) m)) := by
            have h := HK.out
            rwa [show q = 300 by omega] at h
          have hb2 := HB.out.touch HT.out fun B hB hU => put_free HB.out HF.out B hB hU
          obtain ⟨z0, z1, z2, z3, hh⟩ := hb2.heads
          have HHd := Lib.hid hh
          have HQI : Hid (QuadIs wr base ⟨n, .slice A n c, vg, vh, u8⟩ m (fun B => (Value.slice A n c).ownBlock = some B ∨ w.heap.size ≤ B ∧ B < wr.heap.size)) := by
            refine ⟨HL.out, HG.out, HH.out, HK2.out, fun B hB => ?_, by show n ≤ 1073741824; omega⟩
            rcases hB with hB | hB | hB | hB
            · exact .inl hB
            · exact (HGL.out B hB).imp id fun h => ⟨h, (HG.out.lt B hB).2⟩
            · exact (HHL.out B hB).imp id fun h => ⟨h, (HH.out.lt B hB).2⟩
            · exact (HKL.out B hB).imp id fun h => ⟨h, (HK2.out.lt B hB).2⟩
          have hz := heads_at hh.blk
          clear hb2 hh HK HQQ
          obtain ⟨fa1, fm1, fc1, ef1⟩ := row_form HG.out.1
          obtain ⟨fa2, fm2, fc2, ef2⟩ := row_form HH.out.1
          obtain ⟨fa3, fm3, fc3, ef3⟩ := row_form HK2.out.1
          subst ef1 ef2 ef3
          go_wp2_with (first
            | (at_builtin; refine appendRow (o := ⟨some 54, _, _, _, _, _⟩) und_rows info_bytes wr (by rfl) (.tmp 51) (.tmp 53) (by rfl) base _ _ HHd.out.r0 _ (own_one HL.out) (by rfl) wr.heap.size (by rfl) (by rfl) (by rw [List.length_map]; exact HQ.out) HS.out ?_; intro t0 w6 hr hg hl; obtain ⟨ta0, tm0, tc0, et0⟩ := row_form hr; subst et0; have S0 := Lib.hid (HHd.out.step0 hg hr hl); have c0 := heads_at S0.out.2.2; have d0 := heads_at S0.out.1.blk; have B0 := Lib.hid (Nat.le_trans HS.out S0.out.2.1.size); clear hr hg hl)
            | (at_builtin; refine appendRow (o := ⟨some 64, _, _, _, _, _⟩) und_rows info_bytes (w6.setCell ⟨gb, 0, none⟩ (.slice ta0 tm0 tc0)) (by rfl) (.tmp 61) (.tmp 63) (by rfl) base _ _ S0.out.1.r1 _ (own_one HG.out) (by rfl) w6.heap.size (by simp [World.setCell]) (by rfl) (by rw [List.length_map]; exact HQ.out) B0.out ?_; intro t1 w7 hr hg hl; obtain ⟨ta1, tm1, tc1, et1⟩ := row_form hr; subst et1; have S1 := Lib.hid (S0.out.1.step1 hg hr hl); have c1 := heads_at S1.out.2.2; have d1 := heads_at S1.out.1.blk; have B1 := Lib.hid (Nat.le_trans B0.out S1.out.2.1.size); clear hr hg hl)
            | (at_builtin; refine appendRow (o := ⟨some 74, _, _, _, _, _⟩) und_rows info_bytes (w7.setCell ⟨gb, 1, none⟩ (.slice ta1 tm1 tc1)) (by rfl) (.tmp 71) (.tmp 73) (by rfl) base _ _ S1.out.1.r2 _ (own_one HH.out) (by rfl) w7.heap.size (by simp [World.setCell]) (by rfl) (by rw [List.length_map]; exact HQ.out) B1.out ?_; intro t2 w8 hr hg hl; obtain ⟨ta2, tm2, tc2, et2⟩ := row_form hr; subst et2; have S2 := Lib.hid (S1.out.1.step2 hg hr hl); have c2 := heads_at S2.out.2.2; have d2 := heads_at S2.out.1.blk; have B2 := Lib.hid (Nat.le_trans B1.out S2.out.2.1.size); clear hr hg hl)
            | (at_builtin; refine appendRow (o := ⟨some 84, _, _, _, _, _⟩) und_rows info_bytes (w8.setCell ⟨gb, 2, none⟩ (.slice ta2 tm2 tc2)) (by rfl) (.tmp 81) (.tmp 83) (by rfl) base _ _ S2.out.1.r3 _ (own_one HK2.out) (by rfl) w8.heap.size (by simp [World.setCell]) (by rfl) (by rw [List.length_map]; exact HQ.out) B2.out ?_; intro t3 w9 hr hg hl; obtain ⟨ta3, tm3, tc3, et3⟩ := row_form hr; subst et3; have S3 := Lib.hid (S2.out.1.step3 hg hr hl); have c3 := heads_at S3.out.2.2; have d3 := heads_at S3.out.1.blk; have B3 := Lib.hid (Nat.le_trans B2.out S3.out.2.1.size); clear hr hg hl))
          refine bodyPost_end (results_none rfl _ _ _) rfl ?_
          have q0 := S0.out.2.1.size
          have q1 := S1.out.2.1.size
          have q2 := S2.out.2.1.size
          have q3 := S3.out.2.1.size
          have e0 : (w6.setCell ⟨gb, 0, none⟩ (.slice ta0 tm0 tc0)).heap.size = w6.heap.size := by simp [World.setCell]
          have e1 : (w7.setCell ⟨gb, 1, none⟩ (.slice ta1 tm1 tc1)).heap.size = w7.heap.size := by simp [World.setCell]
          have e2 : (w8.setCell ⟨gb, 2, none⟩ (.slice ta2 tm2 tc2)).heap.size = w8.heap.size := by simp [World.setCell]
          have e3 : (w9.setCell ⟨gb, 3, none⟩ (.slice ta3 tm3 tc3)).heap.size = w9.heap.size := by simp [World.setCell]
          refine ⟨rfl, put_end HB.out HF.out (fun B hB => HLB.out B hB) HW.out HMQ.out HT.out HQI.out S3.out.1 ?_ ?_⟩
          · refine (((S0.out.2.1.mono fun k _ h => .inl h).trans (S1.out.2.1.mono fun k _ h => ?_)).trans (S2.out.2.1.mono fun k _ h => ?_)).trans (S3.out.2.1.mono fun k _ h => ?_)
            · rcases h with h | h
              · exact .inl h
              · exact .inr h.1
            · rcases h with (h | h) | h
              · exact .inl h
              · exact .inr h.1
              · exact .inr (by omega)
            · rcases h with ((h | h) | h) | h
              · exact .inl h
              · exact .inr h.1
              · exact .inr (by omega)
              · exact .inr (by omega)
          · intro B hB
            rcases hB with (((h | h) | h) | h) | h
            · exact .inl h
            · exact .inr (by omega)
            · exact .inr (by omega)
            · exact .inr (by omega)
            · exact .inr (by omega)
end Go.Proofs.YtbjbpgbpefkbhaaDoor
