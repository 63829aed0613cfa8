/- ledgerlaw13.ClientNames: the walk. -/
import Derived.Test.YtfnlhfaihoojfaaDoorMj
import Derived.Test.YtfnlhfaihoojfaaDoorEmpty4
import Derived.Deep.OwnRows
namespace Go.Proofs.YtfnlhfaihoojfaaDoor
open Go.RowKit
theorem made_row (n : Nat) : madeCells #[(.int .u8 0 : Value)] n = zarr n := by
  apply Array.ext
  · simp [madeCells, zarr, bvs, zs]
  · intro i h1 h2
    simp [madeCells, zarr, bvs, bv, zs, Nat.mod_one]
theorem make_bytes (n : Nat) (hn : n ≤ 281474976710656) : ∃ cs : Array Value, Hid (cs = zarr n) ∧ ∀ w : World, (Instr.makeSlice 22 (.int .i64 (n : Int)) (.int .i64 (n : Int))).run Tryd.prog w = .ok (.slice (some ⟨w.heap.size, 0, none⟩) n n) (w.alloc (.cells cs 5)) :=
  ⟨_, made_row n, fun w => run_make_row' (P := Tryd.prog) 22 5 (.int .u8 0) 1 und_bytes info_byte rfl .i64 .i64 n (by omega) (by omega) w⟩
theorem yields_build {P : Program} {ops : Array Oper} {S : World → Prop} {o : Oper} {a : Act} (hw : Region.wanted o (yielded ops a.tmps) = true) (t : TypeId) (parts : Array (Nat × Operand)) (ho : o.op = .build t parts)
    (vs : List (Nat × Value)) (hv : (parts.map fun (i, x) => (i, a.eval x)).toList = vs) (cells : Array Value) (hb : P.built t vs = some cells) : YieldsIf P ops S o (.agg cells) a :=
  .inl ⟨hw, fun w _ => by
    subst hv
    unfold execOp
    simp only [ho, Sem.run_bind, run_build w t _ cells hb, Result.andThen_ok, Sem.run_pure]⟩
/-- The proof that nothing is there, under a root of nothing. -/
def noneP : Pr := ⟨false, [], zs 32, []⟩
theorem onesN_zs (n : Nat) : onesN (zs n) = 0 := by
  unfold onesN zs
  rw [List.map_replicate, List.sum_replicate_nat]
  rfl
theorem decN_none33 : decN (zs 33) = some noneP := by kernel_rfl
theorem bitP_zs (h : Nat) : bitP (zs 32) h = false := by
  unfold bitP
  have : (zs 32).getD (h / 8) 0 = 0 := by
    rcases Nat.lt_or_ge (h / 8) (zs 32).length with h1 | h1
    · exact zs_all 32 _ (getD_mem h1)
    · simp [List.getD, List.getElem?_eq_none h1]
  rw [this]
  simp
theorem nearP_none (w : Int) (h : Nat) : nearP w noneP h = emptyD w h := by
  unfold nearP
  rw [if_neg (by show ¬ bitP (zs 32) h = true; rw [bitP_zs]; decide)]
theorem formP_none (w : Int) (n : Nat) : formP w noneP n = 0 := formP_of fun j _ => by
  unfold badP
  rw [if_neg (by show ¬ bitP (zs 32) j = true; rw [bitP_zs]; decide)]
theorem pathP_none (w : Int) (k : List Nat) (h : Nat) : pathP w k noneP h = emptyD w h := by
  induction h with
  | zero => rfl
  | succ h ih =>
    have e : pathP w k noneP (h + 1) = nodeD w (upT w k h (pathP w k noneP h) (nearP w noneP h)) := rfl
    rw [e, ih, nearP_none]
    unfold upT sidesN
    split <;> rfl
theorem errP_none {w : Int} (h1 : 1 ≤ w) (h2 : w ≤ 32) (r k : List Nat) : errP w r k (zs 33) = if emptyD w 256 = r then 0 else 131 := by
  rw [errP_zero (p := noneP) (by rw [errF_some (by omega) decN_none33, formP_none]) (by omega) decN_none33, pathP_none]
def k7 : List Nat := 7 :: zs 31
theorem k7_facts : k7.length = 32 ∧ IsB k7 := ⟨rfl, by
  intro x hx
  rcases List.mem_cons.1 hx with h | h
  · omega
  · have := zs_all 31 x h
    omega⟩
theorem built_k7 : Tryd.prog.built 31 [(0, .int .u8 7)] = some (bvs k7).toArray := by kernel_rfl
theorem built_d0 : Tryd.prog.built 29 [] = some (bvs (zs 32)).toArray := by kernel_rfl
theorem empty_e (w : World) (ht : Tabs1 w) : Calls Tryd.prog 8 #[.int .i64 4, .int .i64 256] w fun e w' => Below w.heap.size w w' ∧ ∃ R, e = .returned (.agg (bvs R).toArray) ∧ ∀ _ : Nat, R = emptyD 4 256 :=
  (rempty_any 4 w ht).mono fun _ _ ⟨h1, h2⟩ => ⟨h2, _, h1, fun _ => rfl⟩
theorem verify_e1 (R : List Nat) (hR : ∀ _ : Nat, R = emptyD 4 256) (g : Nat) (w : World) (hz : BlkB w g 5 (zs 33)) (ht : Tabs w) :
    Calls Tryd.prog 7 #[.int .i64 4, .agg (bvs R).toArray, .agg (bvs k7).toArray, .slice (some ⟨g, 0, none⟩) 33 33] w fun e w' => Below w.heap.size w w' ∧ ∃ Av cv, e = .returned (.tuple #[.agg #[.bool false, .slice Av 0 cv], .int .i64 0]) := by
  rw [hR 0]
  refine (verify_any 4 (emptyD 4 256) k7 (zs 33) (some ⟨g, 0, none⟩) 33 33 w (emptyD_length _ _) (emptyD_isB _ _) k7_facts.1 k7_facts.2 (hz.whole (zs_isB _) (zs_length _)) (fun ad e => by injection e with e; rw [← e]; exact BlkIs.lt hz) (by omega) (fun h => by cases h) (by simp [maxLen]) (by omega) ht).mono ?_
  rintro e w' ⟨hb, _, hyes⟩
  obtain ⟨p, V, hp, _, _, rfl, ho⟩ := hyes (by rw [errP_none (by omega) (by omega), if_pos rfl])
  rw [decN_none33] at hp
  injection hp with hp
  subst hp
  obtain ⟨Av, cv, rfl, _⟩ := ho.form
  exact ⟨hb, Av, cv, rfl⟩
theorem verify_e2 (g : Nat) (w : World) (hz : BlkB w g 5 (zs 33)) (ht : Tabs w) :
    Calls Tryd.prog 7 #[.int .i64 4, .agg (bvs (zs 32)).toArray, .agg (bvs k7).toArray, .slice (some ⟨g, 0, none⟩) 33 33] w fun e w' => Below w.heap.size w w' ∧ e = .returned (.tuple #[.agg #[.bool false, .slice none 0 0], .int .i64 131]) := by
  refine (verify_any 4 (zs 32) k7 (zs 33) (some ⟨g, 0, none⟩) 33 33 w (zs_length _) (zs_isB _) k7_facts.1 k7_facts.2 (hz.whole (zs_isB _) (zs_length _)) (fun ad e => by injection e with e; rw [← e]; exact BlkIs.lt hz) (by omega) (fun h => by cases h) (by simp [maxLen]) (by omega) ht).mono ?_
  rintro e w' ⟨hb, hno, _⟩
  have he : errP 4 (zs 32) k7 (zs 33) = 131 := by rw [errP_none (by omega) (by omega), if_neg empty4_ne]
  have h1 := hno (by rw [he]; decide)
  rw [he] at h1
  exact ⟨hb, h1⟩
set_option maxRecDepth 20000 in
set_option maxHeartbeats 2000000 in
theorem clientNames_walk (w : World) (ht : Tabs w) (ht1 : Tabs1 w) : Calls Tryd.prog 3 #[] w fun e w' => e = .returned (.bool true) ∧ Below w.heap.size w w' := by
  have HT := Lib.hid ht
  have HT1 := Lib.hid ht1
  obtain ⟨cs, HCS, hmk⟩ := make_bytes 33 (by omega)
  rw [show ((33 : Nat) : Int) = 33 from rfl] at hmk
  clear ht ht1
  go_enter Tryd.func3, Tryd.ntmps3
  go_upto_region 3 with fail
  go_cut [1, 2] from 5 (fun s1 s2 wx => ∃ (B : Nat) (Av : Option Addr) (cv : Nat), s1 = .pointer (some ⟨B, 0, none⟩) ∧ s2 = .int .i64 0 ∧ Hid (Below w.heap.size w wx) ∧ Hid (BlkIs wx B 24 #[.bool false, .slice Av 0 cv]))
  case first =>
    refine wp_region_held_drew (S := fun _ => True) (by kernel_rfl) trivial fun hH => ?_
    have HB0 : Hid (Below w.heap.size w w.drew) := drewN_below (Below.refl _ _) 1
    generalize w.drew = w0 at *
    refine wpAnyH_take (i := 1) (oi := ⟨some 7, _, _, _, _, _⟩) rfl (by kernel_rfl) (by kernel_rfl) (by kernel_rfl) (fun _ _ _ h => h) (yields_build (by rfl) 31 #[(0, .const (.int .u8 7))] rfl [(0, .int .u8 7)] (by simp [go_sem]) _ built_k7) (by assumption) ?_
    try simp only [Act.put, List.setIfInBounds_toArray, List.set_cons_zero, List.set_cons_succ]
    refine wpAnyH_ready (rs := [0, 2, 7]) (by kernel_rfl) (by simp) ?_
    refine AllReadyH.cons rfl (fun K hK => ?_) (AllReadyH.cons rfl (fun K hK => ?_) (AllReadyH.cons rfl (fun K hK => ?_) AllReadyH.nil))
    · go_simp
      go_at_call 8
      refine (empty_e w0 ⟨HT1.out.1.below HB0.out, HT1.out.2.below HB0.out⟩).mono ?_
      rintro e y1 ⟨hb1, R, rfl, hR⟩
      have HR := Lib.hid hR
      clear hR
      have HB1 : Hid (Below w.heap.size w y1) := HB0.out.trans (hb1.mono HB0.out.size)
      refine hK.out _ _ trivial (fun hH => ?_)
      clear hK hb1
      refine wpAnyH_ready (rs := [2, 7]) (by kernel_rfl) (by simp) ?_
      refine AllReadyH.cons rfl (fun K hK => ?_) (AllReadyH.cons rfl (fun K hK => ?_) AllReadyH.nil)
      · go_simp
        refine start1 (G := fun w' => K _ w') fun y2 hz2 hb2 hs2 => ?_
        have hb2 := hb2.out
        have HZ2 : Hid (BlkB y2 y1.heap.size 5 (zs 33)) := by have h := hz2.out; rw [HCS.out] at h; exact h
        have HB2 : Hid (Below w.heap.size w y2) := HB1.out.trans (hb2.mono HB1.out.size)
        refine hK.out _ _ trivial (fun hH => ?_)
        clear hK hb2
        refine wpAnyH_ready (rs := [3, 7]) (by kernel_rfl) (by simp) ?_
        refine AllReadyH.cons rfl (fun K hK => ?_) (AllReadyH.cons rfl (fun K hK => ?_) AllReadyH.nil)
        · go_simp
          go_at_call 7
          refine (verify_e1 R HR.out y1.heap.size y2 HZ2.out (HT.out.below HB2.out)).mono ?_
          rintro e y3 ⟨hb3, Av, cv, rfl⟩
          have HB3 : Hid (Below w.heap.size w y3) := HB2.out.trans (hb3.mono HB2.out.size)
          have HZ3_1 : Hid (BlkB y3 y1.heap.size 5 (zs 33)) := BlkIs.below HZ2.out hb3
          refine hK.out _ _ trivial (fun hH => ?_)
          clear hK hb3
          refine wpAnyH_take (i := 4) (oi := ⟨some 5, _, _, _, _, _⟩) rfl (by kernel_rfl) (by kernel_rfl) (by kernel_rfl) (fun _ _ _ h => h) (Or.inl ⟨by rfl, fun w hw => by (try dsimp only at hw); go_simp; with_reducible rfl⟩) (by assumption) ?_
          try simp only [Act.put, List.setIfInBounds_toArray, List.set_cons_zero, List.set_cons_succ]
          refine wpAnyH_take (i := 5) (oi := ⟨some 10, _, _, _, _, _⟩) rfl (by kernel_rfl) (by kernel_rfl) (by kernel_rfl) (fun _ _ _ h => h) (Or.inl ⟨by rfl, fun w hw => by (try dsimp only at hw); go_simp; with_reducible rfl⟩) (by assumption) ?_
          try simp only [Act.put, List.setIfInBounds_toArray, List.set_cons_zero, List.set_cons_succ]
          refine wpAnyH_take (i := 6) (oi := ⟨some 11, _, _, _, _, _⟩) rfl (by kernel_rfl) (by kernel_rfl) (by kernel_rfl) (fun _ _ _ h => h) (Or.inl ⟨by rfl, fun w hw => by (try dsimp only at hw); go_simp; with_reducible rfl⟩) (by assumption) ?_
          try simp only [Act.put, List.setIfInBounds_toArray, List.set_cons_zero, List.set_cons_succ]
          refine wpAnyH_ready (rs := [7]) (by kernel_rfl) (by simp) ?_
          refine AllReadyH.cons rfl (fun K hK => ?_) AllReadyH.nil
          refine wpOp_alloc (o := ⟨some 1, _, _, _, _, _⟩) (by rfl) 24 rfl _ _ info_ans ?_
          intro y4 hz4 hb4 hs4
          have hb4 := hb4.out
          have HA4 : Hid (BlkIs y4 y3.heap.size 24 (([] : List Value) ++ (([Value.bool false, Value.slice none 0 0] : List Value) ++ [])).toArray) := hz4
          have HG4 : Hid (w.heap.size ≤ y3.heap.size) := HB3.out.size
          have HB4 : Hid (Below w.heap.size w y4) := HB3.out.trans (hb4.mono HB3.out.size)
          have HZ4_1 : Hid (BlkB y4 y1.heap.size 5 (zs 33)) := BlkIs.below HZ3_1.out hb4
          refine hK.out _ _ trivial (fun hH => ?_)
          clear hK hb4
          refine wpAnyH_ready (rs := [8]) (by kernel_rfl) (by simp) ?_
          refine AllReadyH.cons (o := ⟨none, _, _, _, _, _⟩) rfl (fun K hK => ?_) AllReadyH.nil
          refine wpOp_store_part (o := ⟨none, _, _, _, _, _⟩) (by rfl) 24 (.tmp 1) (.tmp 10) rfl 0 [] [.bool false, .slice none 0 0] [.bool false, .slice Av 0 cv] [] rfl rfl HA4.out rfl rfl (by rw [size_ans]; rfl) (by intro u hu; simp at hu; rcases hu with rfl | rfl <;> rfl) ?_
          intro z1 hz1 gz1
          have HBz : Hid (Below w.heap.size w z1) := HB4.out.grown gz1 HB4.out.size fun k hk => by injection hk with hk; have := HG4.out; omega
          refine hK.out _ _ trivial (fun hH => ?_)
          clear hK
          refine wpAnyH_take (i := 9) (oi := ⟨some 2, _, _, _, _, _⟩) rfl (by kernel_rfl) (by kernel_rfl) (by kernel_rfl) (fun _ _ _ h => h) (Or.inl ⟨by rfl, fun w hw => by (try dsimp only at hw); go_simp; with_reducible rfl⟩) (by assumption) ?_
          try simp only [Act.put, List.setIfInBounds_toArray, List.set_cons_zero, List.set_cons_succ]
          refine wpAnyH_done (by kernel_rfl) ?_ _
          go_wp2_with fail
          go_meet
          case rel => exact ⟨y3.heap.size, Av, cv, rfl, rfl, HBz.out, hz1⟩
        · refine wpOp_alloc (o := ⟨some 1, _, _, _, _, _⟩) (by rfl) 24 rfl _ _ info_ans ?_
          intro y5 hz5 hb5 hs5
          have hb5 := hb5.out
          have HA5 : Hid (BlkIs y5 y2.heap.size 24 (([] : List Value) ++ (([Value.bool false, Value.slice none 0 0] : List Value) ++ [])).toArray) := hz5
          have HG5 : Hid (w.heap.size ≤ y2.heap.size) := HB2.out.size
          have HB5 : Hid (Below w.heap.size w y5) := HB2.out.trans (hb5.mono HB2.out.size)
          have HZ5_1 : Hid (BlkB y5 y1.heap.size 5 (zs 33)) := BlkIs.below HZ2.out hb5
          refine hK.out _ _ trivial (fun hH => ?_)
          clear hK hb5
          refine wpAnyH_ready (rs := [3]) (by kernel_rfl) (by simp) ?_
          refine AllReadyH.cons rfl (fun K hK => ?_) AllReadyH.nil
          go_simp
          go_at_call 7
          refine (verify_e1 R HR.out y1.heap.size y5 HZ5_1.out (HT.out.below HB5.out)).mono ?_
          rintro e y6 ⟨hb6, Av, cv, rfl⟩
          have HB6 : Hid (Below w.heap.size w y6) := HB5.out.trans (hb6.mono HB5.out.size)
          have HZ6_1 : Hid (BlkB y6 y1.heap.size 5 (zs 33)) := BlkIs.below HZ5_1.out hb6
          have HA6_1 : Hid (BlkIs y6 y2.heap.size 24 (([] : List Value) ++ (([Value.bool false, Value.slice none 0 0] : List Value) ++ [])).toArray) := BlkIs.below HA5.out hb6
          refine hK.out _ _ trivial (fun hH => ?_)
          clear hK hb6
          refine wpAnyH_take (i := 4) (oi := ⟨some 5, _, _, _, _, _⟩) rfl (by kernel_rfl) (by kernel_rfl) (by kernel_rfl) (fun _ _ _ h => h) (Or.inl ⟨by rfl, fun w hw => by (try dsimp only at hw); go_simp; with_reducible rfl⟩) (by assumption) ?_
          try simp only [Act.put, List.setIfInBounds_toArray, List.set_cons_zero, List.set_cons_succ]
          refine wpAnyH_take (i := 5) (oi := ⟨some 10, _, _, _, _, _⟩) rfl (by kernel_rfl) (by kernel_rfl) (by kernel_rfl) (fun _ _ _ h => h) (Or.inl ⟨by rfl, fun w hw => by (try dsimp only at hw); go_simp; with_reducible rfl⟩) (by assumption) ?_
          try simp only [Act.put, List.setIfInBounds_toArray, List.set_cons_zero, List.set_cons_succ]
          refine wpAnyH_take (i := 6) (oi := ⟨some 11, _, _, _, _, _⟩) rfl (by kernel_rfl) (by kernel_rfl) (by kernel_rfl) (fun _ _ _ h => h) (Or.inl ⟨by rfl, fun w hw => by (try dsimp only at hw); go_simp; with_reducible rfl⟩) (by assumption) ?_
          try simp only [Act.put, List.setIfInBounds_toArray, List.set_cons_zero, List.set_cons_succ]
          refine wpAnyH_ready (rs := [8]) (by kernel_rfl) (by simp) ?_
          refine AllReadyH.cons (o := ⟨none, _, _, _, _, _⟩) rfl (fun K hK => ?_) AllReadyH.nil
          refine wpOp_store_part (o := ⟨none, _, _, _, _, _⟩) (by rfl) 24 (.tmp 1) (.tmp 10) rfl 0 [] [.bool false, .slice none 0 0] [.bool false, .slice Av 0 cv] [] rfl rfl HA6_1.out rfl rfl (by rw [size_ans]; rfl) (by intro u hu; simp at hu; rcases hu with rfl | rfl <;> rfl) ?_
          intro z1 hz1 gz1
          have HBz : Hid (Below w.heap.size w z1) := HB6.out.grown gz1 HB6.out.size fun k hk => by injection hk with hk; have := HG5.out; omega
          refine hK.out _ _ trivial (fun hH => ?_)
          clear hK
          refine wpAnyH_take (i := 9) (oi := ⟨some 2, _, _, _, _, _⟩) rfl (by kernel_rfl) (by kernel_rfl) (by kernel_rfl) (fun _ _ _ h => h) (Or.inl ⟨by rfl, fun w hw => by (try dsimp only at hw); go_simp; with_reducible rfl⟩) (by assumption) ?_
          try simp only [Act.put, List.setIfInBounds_toArray, List.set_cons_zero, List.set_cons_succ]
          refine wpAnyH_done (by kernel_rfl) ?_ _
          go_wp2_with fail
          go_meet
          case rel => exact ⟨y2.heap.size, Av, cv, rfl, rfl, HBz.out, hz1⟩
      · refine wpOp_alloc (o := ⟨some 1, _, _, _, _, _⟩) (by rfl) 24 rfl _ _ info_ans ?_
        intro y7 hz7 hb7 hs7
        have hb7 := hb7.out
        have HA7 : Hid (BlkIs y7 y1.heap.size 24 (([] : List Value) ++ (([Value.bool false, Value.slice none 0 0] : List Value) ++ [])).toArray) := hz7
        have HG7 : Hid (w.heap.size ≤ y1.heap.size) := HB1.out.size
        have HB7 : Hid (Below w.heap.size w y7) := HB1.out.trans (hb7.mono HB1.out.size)
        refine hK.out _ _ trivial (fun hH => ?_)
        clear hK hb7
        refine wpAnyH_ready (rs := [2]) (by kernel_rfl) (by simp) ?_
        refine AllReadyH.cons rfl (fun K hK => ?_) AllReadyH.nil
        go_simp
        refine start1 (G := fun w' => K _ w') fun y8 hz8 hb8 hs8 => ?_
        have hb8 := hb8.out
        have HZ8 : Hid (BlkB y8 y7.heap.size 5 (zs 33)) := by have h := hz8.out; rw [HCS.out] at h; exact h
        have HB8 : Hid (Below w.heap.size w y8) := HB7.out.trans (hb8.mono HB7.out.size)
        have HA8_1 : Hid (BlkIs y8 y1.heap.size 24 (([] : List Value) ++ (([Value.bool false, Value.slice none 0 0] : List Value) ++ [])).toArray) := BlkIs.below HA7.out hb8
        refine hK.out _ _ trivial (fun hH => ?_)
        clear hK hb8
        refine wpAnyH_ready (rs := [3]) (by kernel_rfl) (by simp) ?_
        refine AllReadyH.cons rfl (fun K hK => ?_) AllReadyH.nil
        go_simp
        go_at_call 7
        refine (verify_e1 R HR.out y7.heap.size y8 HZ8.out (HT.out.below HB8.out)).mono ?_
        rintro e y9 ⟨hb9, Av, cv, rfl⟩
        have HB9 : Hid (Below w.heap.size w y9) := HB8.out.trans (hb9.mono HB8.out.size)
        have HZ9_1 : Hid (BlkB y9 y7.heap.size 5 (zs 33)) := BlkIs.below HZ8.out hb9
        have HA9_1 : Hid (BlkIs y9 y1.heap.size 24 (([] : List Value) ++ (([Value.bool false, Value.slice none 0 0] : List Value) ++ [])).toArray) := BlkIs.below HA8_1.out hb9
        refine hK.out _ _ trivial (fun hH => ?_)
        clear hK hb9
        refine wpAnyH_take (i := 4) (oi := ⟨some 5, _, _, _, _, _⟩) rfl (by kernel_rfl) (by kernel_rfl) (by kernel_rfl) (fun _ _ _ h => h) (Or.inl ⟨by rfl, fun w hw => by (try dsimp only at hw); go_simp; with_reducible rfl⟩) (by assumption) ?_
        try simp only [Act.put, List.setIfInBounds_toArray, List.set_cons_zero, List.set_cons_succ]
        refine wpAnyH_take (i := 5) (oi := ⟨some 10, _, _, _, _, _⟩) rfl (by kernel_rfl) (by kernel_rfl) (by kernel_rfl) (fun _ _ _ h => h) (Or.inl ⟨by rfl, fun w hw => by (try dsimp only at hw); go_simp; with_reducible rfl⟩) (by assumption) ?_
        try simp only [Act.put, List.setIfInBounds_toArray, List.set_cons_zero, List.set_cons_succ]
        refine wpAnyH_take (i := 6) (oi := ⟨some 11, _, _, _, _, _⟩) rfl (by kernel_rfl) (by kernel_rfl) (by kernel_rfl) (fun _ _ _ h => h) (Or.inl ⟨by rfl, fun w hw => by (try dsimp only at hw); go_simp; with_reducible rfl⟩) (by assumption) ?_
        try simp only [Act.put, List.setIfInBounds_toArray, List.set_cons_zero, List.set_cons_succ]
        refine wpAnyH_ready (rs := [8]) (by kernel_rfl) (by simp) ?_
        refine AllReadyH.cons (o := ⟨none, _, _, _, _, _⟩) rfl (fun K hK => ?_) AllReadyH.nil
        refine wpOp_store_part (o := ⟨none, _, _, _, _, _⟩) (by rfl) 24 (.tmp 1) (.tmp 10) rfl 0 [] [.bool false, .slice none 0 0] [.bool false, .slice Av 0 cv] [] rfl rfl HA9_1.out rfl rfl (by rw [size_ans]; rfl) (by intro u hu; simp at hu; rcases hu with rfl | rfl <;> rfl) ?_
        intro z1 hz1 gz1
        have HBz : Hid (Below w.heap.size w z1) := HB9.out.grown gz1 HB9.out.size fun k hk => by injection hk with hk; have := HG7.out; omega
        refine hK.out _ _ trivial (fun hH => ?_)
        clear hK
        refine wpAnyH_take (i := 9) (oi := ⟨some 2, _, _, _, _, _⟩) rfl (by kernel_rfl) (by kernel_rfl) (by kernel_rfl) (fun _ _ _ h => h) (Or.inl ⟨by rfl, fun w hw => by (try dsimp only at hw); go_simp; with_reducible rfl⟩) (by assumption) ?_
        try simp only [Act.put, List.setIfInBounds_toArray, List.set_cons_zero, List.set_cons_succ]
        refine wpAnyH_done (by kernel_rfl) ?_ _
        go_wp2_with fail
        go_meet
        case rel => exact ⟨y1.heap.size, Av, cv, rfl, rfl, HBz.out, hz1⟩
    · go_simp
      refine start1 (G := fun w' => K _ w') fun y10 hz10 hb10 hs10 => ?_
      have hb10 := hb10.out
      have HZ10 : Hid (BlkB y10 w0.heap.size 5 (zs 33)) := by have h := hz10.out; rw [HCS.out] at h; exact h
      have HB10 : Hid (Below w.heap.size w y10) := HB0.out.trans (hb10.mono HB0.out.size)
      refine hK.out _ _ trivial (fun hH => ?_)
      clear hK hb10
      refine wpAnyH_ready (rs := [0, 7]) (by kernel_rfl) (by simp) ?_
      refine AllReadyH.cons rfl (fun K hK => ?_) (AllReadyH.cons rfl (fun K hK => ?_) AllReadyH.nil)
      · go_simp
        go_at_call 8
        refine (empty_e y10 ⟨HT1.out.1.below HB10.out, HT1.out.2.below HB10.out⟩).mono ?_
        rintro e y11 ⟨hb11, R, rfl, hR⟩
        have HR := Lib.hid hR
        clear hR
        have HB11 : Hid (Below w.heap.size w y11) := HB10.out.trans (hb11.mono HB10.out.size)
        have HZ11_1 : Hid (BlkB y11 w0.heap.size 5 (zs 33)) := BlkIs.below HZ10.out hb11
        refine hK.out _ _ trivial (fun hH => ?_)
        clear hK hb11
        refine wpAnyH_ready (rs := [3, 7]) (by kernel_rfl) (by simp) ?_
        refine AllReadyH.cons rfl (fun K hK => ?_) (AllReadyH.cons rfl (fun K hK => ?_) AllReadyH.nil)
        · go_simp
          go_at_call 7
          refine (verify_e1 R HR.out w0.heap.size y11 HZ11_1.out (HT.out.below HB11.out)).mono ?_
          rintro e y12 ⟨hb12, Av, cv, rfl⟩
          have HB12 : Hid (Below w.heap.size w y12) := HB11.out.trans (hb12.mono HB11.out.size)
          have HZ12_1 : Hid (BlkB y12 w0.heap.size 5 (zs 33)) := BlkIs.below HZ11_1.out hb12
          refine hK.out _ _ trivial (fun hH => ?_)
          clear hK hb12
          refine wpAnyH_take (i := 4) (oi := ⟨some 5, _, _, _, _, _⟩) rfl (by kernel_rfl) (by kernel_rfl) (by kernel_rfl) (fun _ _ _ h => h) (Or.inl ⟨by rfl, fun w hw => by (try dsimp only at hw); go_simp; with_reducible rfl⟩) (by assumption) ?_
          try simp only [Act.put, List.setIfInBounds_toArray, List.set_cons_zero, List.set_cons_succ]
          refine wpAnyH_take (i := 5) (oi := ⟨some 10, _, _, _, _, _⟩) rfl (by kernel_rfl) (by kernel_rfl) (by kernel_rfl) (fun _ _ _ h => h) (Or.inl ⟨by rfl, fun w hw => by (try dsimp only at hw); go_simp; with_reducible rfl⟩) (by assumption) ?_
          try simp only [Act.put, List.setIfInBounds_toArray, List.set_cons_zero, List.set_cons_succ]
          refine wpAnyH_take (i := 6) (oi := ⟨some 11, _, _, _, _, _⟩) rfl (by kernel_rfl) (by kernel_rfl) (by kernel_rfl) (fun _ _ _ h => h) (Or.inl ⟨by rfl, fun w hw => by (try dsimp only at hw); go_simp; with_reducible rfl⟩) (by assumption) ?_
          try simp only [Act.put, List.setIfInBounds_toArray, List.set_cons_zero, List.set_cons_succ]
          refine wpAnyH_ready (rs := [7]) (by kernel_rfl) (by simp) ?_
          refine AllReadyH.cons rfl (fun K hK => ?_) AllReadyH.nil
          refine wpOp_alloc (o := ⟨some 1, _, _, _, _, _⟩) (by rfl) 24 rfl _ _ info_ans ?_
          intro y13 hz13 hb13 hs13
          have hb13 := hb13.out
          have HA13 : Hid (BlkIs y13 y12.heap.size 24 (([] : List Value) ++ (([Value.bool false, Value.slice none 0 0] : List Value) ++ [])).toArray) := hz13
          have HG13 : Hid (w.heap.size ≤ y12.heap.size) := HB12.out.size
          have HB13 : Hid (Below w.heap.size w y13) := HB12.out.trans (hb13.mono HB12.out.size)
          have HZ13_1 : Hid (BlkB y13 w0.heap.size 5 (zs 33)) := BlkIs.below HZ12_1.out hb13
          refine hK.out _ _ trivial (fun hH => ?_)
          clear hK hb13
          refine wpAnyH_ready (rs := [8]) (by kernel_rfl) (by simp) ?_
          refine AllReadyH.cons (o := ⟨none, _, _, _, _, _⟩) rfl (fun K hK => ?_) AllReadyH.nil
          refine wpOp_store_part (o := ⟨none, _, _, _, _, _⟩) (by rfl) 24 (.tmp 1) (.tmp 10) rfl 0 [] [.bool false, .slice none 0 0] [.bool false, .slice Av 0 cv] [] rfl rfl HA13.out rfl rfl (by rw [size_ans]; rfl) (by intro u hu; simp at hu; rcases hu with rfl | rfl <;> rfl) ?_
          intro z1 hz1 gz1
          have HBz : Hid (Below w.heap.size w z1) := HB13.out.grown gz1 HB13.out.size fun k hk => by injection hk with hk; have := HG13.out; omega
          refine hK.out _ _ trivial (fun hH => ?_)
          clear hK
          refine wpAnyH_take (i := 9) (oi := ⟨some 2, _, _, _, _, _⟩) rfl (by kernel_rfl) (by kernel_rfl) (by kernel_rfl) (fun _ _ _ h => h) (Or.inl ⟨by rfl, fun w hw => by (try dsimp only at hw); go_simp; with_reducible rfl⟩) (by assumption) ?_
          try simp only [Act.put, List.setIfInBounds_toArray, List.set_cons_zero, List.set_cons_succ]
          refine wpAnyH_done (by kernel_rfl) ?_ _
          go_wp2_with fail
          go_meet
          case rel => exact ⟨y12.heap.size, Av, cv, rfl, rfl, HBz.out, hz1⟩
        · refine wpOp_alloc (o := ⟨some 1, _, _, _, _, _⟩) (by rfl) 24 rfl _ _ info_ans ?_
          intro y14 hz14 hb14 hs14
          have hb14 := hb14.out
          have HA14 : Hid (BlkIs y14 y11.heap.size 24 (([] : List Value) ++ (([Value.bool false, Value.slice none 0 0] : List Value) ++ [])).toArray) := hz14
          have HG14 : Hid (w.heap.size ≤ y11.heap.size) := HB11.out.size
          have HB14 : Hid (Below w.heap.size w y14) := HB11.out.trans (hb14.mono HB11.out.size)
          have HZ14_1 : Hid (BlkB y14 w0.heap.size 5 (zs 33)) := BlkIs.below HZ11_1.out hb14
          refine hK.out _ _ trivial (fun hH => ?_)
          clear hK hb14
          refine wpAnyH_ready (rs := [3]) (by kernel_rfl) (by simp) ?_
          refine AllReadyH.cons rfl (fun K hK => ?_) AllReadyH.nil
          go_simp
          go_at_call 7
          refine (verify_e1 R HR.out w0.heap.size y14 HZ14_1.out (HT.out.below HB14.out)).mono ?_
          rintro e y15 ⟨hb15, Av, cv, rfl⟩
          have HB15 : Hid (Below w.heap.size w y15) := HB14.out.trans (hb15.mono HB14.out.size)
          have HZ15_1 : Hid (BlkB y15 w0.heap.size 5 (zs 33)) := BlkIs.below HZ14_1.out hb15
          have HA15_1 : Hid (BlkIs y15 y11.heap.size 24 (([] : List Value) ++ (([Value.bool false, Value.slice none 0 0] : List Value) ++ [])).toArray) := BlkIs.below HA14.out hb15
          refine hK.out _ _ trivial (fun hH => ?_)
          clear hK hb15
          refine wpAnyH_take (i := 4) (oi := ⟨some 5, _, _, _, _, _⟩) rfl (by kernel_rfl) (by kernel_rfl) (by kernel_rfl) (fun _ _ _ h => h) (Or.inl ⟨by rfl, fun w hw => by (try dsimp only at hw); go_simp; with_reducible rfl⟩) (by assumption) ?_
          try simp only [Act.put, List.setIfInBounds_toArray, List.set_cons_zero, List.set_cons_succ]
          refine wpAnyH_take (i := 5) (oi := ⟨some 10, _, _, _, _, _⟩) rfl (by kernel_rfl) (by kernel_rfl) (by kernel_rfl) (fun _ _ _ h => h) (Or.inl ⟨by rfl, fun w hw => by (try dsimp only at hw); go_simp; with_reducible rfl⟩) (by assumption) ?_
          try simp only [Act.put, List.setIfInBounds_toArray, List.set_cons_zero, List.set_cons_succ]
          refine wpAnyH_take (i := 6) (oi := ⟨some 11, _, _, _, _, _⟩) rfl (by kernel_rfl) (by kernel_rfl) (by kernel_rfl) (fun _ _ _ h => h) (Or.inl ⟨by rfl, fun w hw => by (try dsimp only at hw); go_simp; with_reducible rfl⟩) (by assumption) ?_
          try simp only [Act.put, List.setIfInBounds_toArray, List.set_cons_zero, List.set_cons_succ]
          refine wpAnyH_ready (rs := [8]) (by kernel_rfl) (by simp) ?_
          refine AllReadyH.cons (o := ⟨none, _, _, _, _, _⟩) rfl (fun K hK => ?_) AllReadyH.nil
          refine wpOp_store_part (o := ⟨none, _, _, _, _, _⟩) (by rfl) 24 (.tmp 1) (.tmp 10) rfl 0 [] [.bool false, .slice none 0 0] [.bool false, .slice Av 0 cv] [] rfl rfl HA15_1.out rfl rfl (by rw [size_ans]; rfl) (by intro u hu; simp at hu; rcases hu with rfl | rfl <;> rfl) ?_
          intro z1 hz1 gz1
          have HBz : Hid (Below w.heap.size w z1) := HB15.out.grown gz1 HB15.out.size fun k hk => by injection hk with hk; have := HG14.out; omega
          refine hK.out _ _ trivial (fun hH => ?_)
          clear hK
          refine wpAnyH_take (i := 9) (oi := ⟨some 2, _, _, _, _, _⟩) rfl (by kernel_rfl) (by kernel_rfl) (by kernel_rfl) (fun _ _ _ h => h) (Or.inl ⟨by rfl, fun w hw => by (try dsimp only at hw); go_simp; with_reducible rfl⟩) (by assumption) ?_
          try simp only [Act.put, List.setIfInBounds_toArray, List.set_cons_zero, List.set_cons_succ]
          refine wpAnyH_done (by kernel_rfl) ?_ _
          go_wp2_with fail
          go_meet
          case rel => exact ⟨y11.heap.size, Av, cv, rfl, rfl, HBz.out, hz1⟩
      · refine wpOp_alloc (o := ⟨some 1, _, _, _, _, _⟩) (by rfl) 24 rfl _ _ info_ans ?_
        intro y16 hz16 hb16 hs16
        have hb16 := hb16.out
        have HA16 : Hid (BlkIs y16 y10.heap.size 24 (([] : List Value) ++ (([Value.bool false, Value.slice none 0 0] : List Value) ++ [])).toArray) := hz16
        have HG16 : Hid (w.heap.size ≤ y10.heap.size) := HB10.out.size
        have HB16 : Hid (Below w.heap.size w y16) := HB10.out.trans (hb16.mono HB10.out.size)
        have HZ16_1 : Hid (BlkB y16 w0.heap.size 5 (zs 33)) := BlkIs.below HZ10.out hb16
        refine hK.out _ _ trivial (fun hH => ?_)
        clear hK hb16
        refine wpAnyH_ready (rs := [0]) (by kernel_rfl) (by simp) ?_
        refine AllReadyH.cons rfl (fun K hK => ?_) AllReadyH.nil
        go_simp
        go_at_call 8
        refine (empty_e y16 ⟨HT1.out.1.below HB16.out, HT1.out.2.below HB16.out⟩).mono ?_
        rintro e y17 ⟨hb17, R, rfl, hR⟩
        have HR := Lib.hid hR
        clear hR
        have HB17 : Hid (Below w.heap.size w y17) := HB16.out.trans (hb17.mono HB16.out.size)
        have HZ17_1 : Hid (BlkB y17 w0.heap.size 5 (zs 33)) := BlkIs.below HZ16_1.out hb17
        have HA17_1 : Hid (BlkIs y17 y10.heap.size 24 (([] : List Value) ++ (([Value.bool false, Value.slice none 0 0] : List Value) ++ [])).toArray) := BlkIs.below HA16.out hb17
        refine hK.out _ _ trivial (fun hH => ?_)
        clear hK hb17
        refine wpAnyH_ready (rs := [3]) (by kernel_rfl) (by simp) ?_
        refine AllReadyH.cons rfl (fun K hK => ?_) AllReadyH.nil
        go_simp
        go_at_call 7
        refine (verify_e1 R HR.out w0.heap.size y17 HZ17_1.out (HT.out.below HB17.out)).mono ?_
        rintro e y18 ⟨hb18, Av, cv, rfl⟩
        have HB18 : Hid (Below w.heap.size w y18) := HB17.out.trans (hb18.mono HB17.out.size)
        have HZ18_1 : Hid (BlkB y18 w0.heap.size 5 (zs 33)) := BlkIs.below HZ17_1.out hb18
        have HA18_1 : Hid (BlkIs y18 y10.heap.size 24 (([] : List Value) ++ (([Value.bool false, Value.slice none 0 0] : List Value) ++ [])).toArray) := BlkIs.below HA17_1.out hb18
        refine hK.out _ _ trivial (fun hH => ?_)
        clear hK hb18
        refine wpAnyH_take (i := 4) (oi := ⟨some 5, _, _, _, _, _⟩) rfl (by kernel_rfl) (by kernel_rfl) (by kernel_rfl) (fun _ _ _ h => h) (Or.inl ⟨by rfl, fun w hw => by (try dsimp only at hw); go_simp; with_reducible rfl⟩) (by assumption) ?_
        try simp only [Act.put, List.setIfInBounds_toArray, List.set_cons_zero, List.set_cons_succ]
        refine wpAnyH_take (i := 5) (oi := ⟨some 10, _, _, _, _, _⟩) rfl (by kernel_rfl) (by kernel_rfl) (by kernel_rfl) (fun _ _ _ h => h) (Or.inl ⟨by rfl, fun w hw => by (try dsimp only at hw); go_simp; with_reducible rfl⟩) (by assumption) ?_
        try simp only [Act.put, List.setIfInBounds_toArray, List.set_cons_zero, List.set_cons_succ]
        refine wpAnyH_take (i := 6) (oi := ⟨some 11, _, _, _, _, _⟩) rfl (by kernel_rfl) (by kernel_rfl) (by kernel_rfl) (fun _ _ _ h => h) (Or.inl ⟨by rfl, fun w hw => by (try dsimp only at hw); go_simp; with_reducible rfl⟩) (by assumption) ?_
        try simp only [Act.put, List.setIfInBounds_toArray, List.set_cons_zero, List.set_cons_succ]
        refine wpAnyH_ready (rs := [8]) (by kernel_rfl) (by simp) ?_
        refine AllReadyH.cons (o := ⟨none, _, _, _, _, _⟩) rfl (fun K hK => ?_) AllReadyH.nil
        refine wpOp_store_part (o := ⟨none, _, _, _, _, _⟩) (by rfl) 24 (.tmp 1) (.tmp 10) rfl 0 [] [.bool false, .slice none 0 0] [.bool false, .slice Av 0 cv] [] rfl rfl HA18_1.out rfl rfl (by rw [size_ans]; rfl) (by intro u hu; simp at hu; rcases hu with rfl | rfl <;> rfl) ?_
        intro z1 hz1 gz1
        have HBz : Hid (Below w.heap.size w z1) := HB18.out.grown gz1 HB18.out.size fun k hk => by injection hk with hk; have := HG16.out; omega
        refine hK.out _ _ trivial (fun hH => ?_)
        clear hK
        refine wpAnyH_take (i := 9) (oi := ⟨some 2, _, _, _, _, _⟩) rfl (by kernel_rfl) (by kernel_rfl) (by kernel_rfl) (fun _ _ _ h => h) (Or.inl ⟨by rfl, fun w hw => by (try dsimp only at hw); go_simp; with_reducible rfl⟩) (by assumption) ?_
        try simp only [Act.put, List.setIfInBounds_toArray, List.set_cons_zero, List.set_cons_succ]
        refine wpAnyH_done (by kernel_rfl) ?_ _
        go_wp2_with fail
        go_meet
        case rel => exact ⟨y10.heap.size, Av, cv, rfl, rfl, HBz.out, hz1⟩
    · refine wpOp_alloc (o := ⟨some 1, _, _, _, _, _⟩) (by rfl) 24 rfl _ _ info_ans ?_
      intro y19 hz19 hb19 hs19
      have hb19 := hb19.out
      have HA19 : Hid (BlkIs y19 w0.heap.size 24 (([] : List Value) ++ (([Value.bool false, Value.slice none 0 0] : List Value) ++ [])).toArray) := hz19
      have HG19 : Hid (w.heap.size ≤ w0.heap.size) := HB0.out.size
      have HB19 : Hid (Below w.heap.size w y19) := HB0.out.trans (hb19.mono HB0.out.size)
      refine hK.out _ _ trivial (fun hH => ?_)
      clear hK hb19
      refine wpAnyH_ready (rs := [0, 2]) (by kernel_rfl) (by simp) ?_
      refine AllReadyH.cons rfl (fun K hK => ?_) (AllReadyH.cons rfl (fun K hK => ?_) AllReadyH.nil)
      · go_simp
        go_at_call 8
        refine (empty_e y19 ⟨HT1.out.1.below HB19.out, HT1.out.2.below HB19.out⟩).mono ?_
        rintro e y20 ⟨hb20, R, rfl, hR⟩
        have HR := Lib.hid hR
        clear hR
        have HB20 : Hid (Below w.heap.size w y20) := HB19.out.trans (hb20.mono HB19.out.size)
        have HA20_1 : Hid (BlkIs y20 w0.heap.size 24 (([] : List Value) ++ (([Value.bool false, Value.slice none 0 0] : List Value) ++ [])).toArray) := BlkIs.below HA19.out hb20
        refine hK.out _ _ trivial (fun hH => ?_)
        clear hK hb20
        refine wpAnyH_ready (rs := [2]) (by kernel_rfl) (by simp) ?_
        refine AllReadyH.cons rfl (fun K hK => ?_) AllReadyH.nil
        go_simp
        refine start1 (G := fun w' => K _ w') fun y21 hz21 hb21 hs21 => ?_
        have hb21 := hb21.out
        have HZ21 : Hid (BlkB y21 y20.heap.size 5 (zs 33)) := by have h := hz21.out; rw [HCS.out] at h; exact h
        have HB21 : Hid (Below w.heap.size w y21) := HB20.out.trans (hb21.mono HB20.out.size)
        have HA21_1 : Hid (BlkIs y21 w0.heap.size 24 (([] : List Value) ++ (([Value.bool false, Value.slice none 0 0] : List Value) ++ [])).toArray) := BlkIs.below HA20_1.out hb21
        refine hK.out _ _ trivial (fun hH => ?_)
        clear hK hb21
        refine wpAnyH_ready (rs := [3]) (by kernel_rfl) (by simp) ?_
        refine AllReadyH.cons rfl (fun K hK => ?_) AllReadyH.nil
        go_simp
        go_at_call 7
        refine (verify_e1 R HR.out y20.heap.size y21 HZ21.out (HT.out.below HB21.out)).mono ?_
        rintro e y22 ⟨hb22, Av, cv, rfl⟩
        have HB22 : Hid (Below w.heap.size w y22) := HB21.out.trans (hb22.mono HB21.out.size)
        have HZ22_1 : Hid (BlkB y22 y20.heap.size 5 (zs 33)) := BlkIs.below HZ21.out hb22
        have HA22_1 : Hid (BlkIs y22 w0.heap.size 24 (([] : List Value) ++ (([Value.bool false, Value.slice none 0 0] : List Value) ++ [])).toArray) := BlkIs.below HA21_1.out hb22
        refine hK.out _ _ trivial (fun hH => ?_)
        clear hK hb22
        refine wpAnyH_take (i := 4) (oi := ⟨some 5, _, _, _, _, _⟩) rfl (by kernel_rfl) (by kernel_rfl) (by kernel_rfl) (fun _ _ _ h => h) (Or.inl ⟨by rfl, fun w hw => by (try dsimp only at hw); go_simp; with_reducible rfl⟩) (by assumption) ?_
        try simp only [Act.put, List.setIfInBounds_toArray, List.set_cons_zero, List.set_cons_succ]
        refine wpAnyH_take (i := 5) (oi := ⟨some 10, _, _, _, _, _⟩) rfl (by kernel_rfl) (by kernel_rfl) (by kernel_rfl) (fun _ _ _ h => h) (Or.inl ⟨by rfl, fun w hw => by (try dsimp only at hw); go_simp; with_reducible rfl⟩) (by assumption) ?_
        try simp only [Act.put, List.setIfInBounds_toArray, List.set_cons_zero, List.set_cons_succ]
        refine wpAnyH_take (i := 6) (oi := ⟨some 11, _, _, _, _, _⟩) rfl (by kernel_rfl) (by kernel_rfl) (by kernel_rfl) (fun _ _ _ h => h) (Or.inl ⟨by rfl, fun w hw => by (try dsimp only at hw); go_simp; with_reducible rfl⟩) (by assumption) ?_
        try simp only [Act.put, List.setIfInBounds_toArray, List.set_cons_zero, List.set_cons_succ]
        refine wpAnyH_ready (rs := [8]) (by kernel_rfl) (by simp) ?_
        refine AllReadyH.cons (o := ⟨none, _, _, _, _, _⟩) rfl (fun K hK => ?_) AllReadyH.nil
        refine wpOp_store_part (o := ⟨none, _, _, _, _, _⟩) (by rfl) 24 (.tmp 1) (.tmp 10) rfl 0 [] [.bool false, .slice none 0 0] [.bool false, .slice Av 0 cv] [] rfl rfl HA22_1.out rfl rfl (by rw [size_ans]; rfl) (by intro u hu; simp at hu; rcases hu with rfl | rfl <;> rfl) ?_
        intro z1 hz1 gz1
        have HBz : Hid (Below w.heap.size w z1) := HB22.out.grown gz1 HB22.out.size fun k hk => by injection hk with hk; have := HG19.out; omega
        refine hK.out _ _ trivial (fun hH => ?_)
        clear hK
        refine wpAnyH_take (i := 9) (oi := ⟨some 2, _, _, _, _, _⟩) rfl (by kernel_rfl) (by kernel_rfl) (by kernel_rfl) (fun _ _ _ h => h) (Or.inl ⟨by rfl, fun w hw => by (try dsimp only at hw); go_simp; with_reducible rfl⟩) (by assumption) ?_
        try simp only [Act.put, List.setIfInBounds_toArray, List.set_cons_zero, List.set_cons_succ]
        refine wpAnyH_done (by kernel_rfl) ?_ _
        go_wp2_with fail
        go_meet
        case rel => exact ⟨w0.heap.size, Av, cv, rfl, rfl, HBz.out, hz1⟩
      · go_simp
        refine start1 (G := fun w' => K _ w') fun y23 hz23 hb23 hs23 => ?_
        have hb23 := hb23.out
        have HZ23 : Hid (BlkB y23 y19.heap.size 5 (zs 33)) := by have h := hz23.out; rw [HCS.out] at h; exact h
        have HB23 : Hid (Below w.heap.size w y23) := HB19.out.trans (hb23.mono HB19.out.size)
        have HA23_1 : Hid (BlkIs y23 w0.heap.size 24 (([] : List Value) ++ (([Value.bool false, Value.slice none 0 0] : List Value) ++ [])).toArray) := BlkIs.below HA19.out hb23
        refine hK.out _ _ trivial (fun hH => ?_)
        clear hK hb23
        refine wpAnyH_ready (rs := [0]) (by kernel_rfl) (by simp) ?_
        refine AllReadyH.cons rfl (fun K hK => ?_) AllReadyH.nil
        go_simp
        go_at_call 8
        refine (empty_e y23 ⟨HT1.out.1.below HB23.out, HT1.out.2.below HB23.out⟩).mono ?_
        rintro e y24 ⟨hb24, R, rfl, hR⟩
        have HR := Lib.hid hR
        clear hR
        have HB24 : Hid (Below w.heap.size w y24) := HB23.out.trans (hb24.mono HB23.out.size)
        have HZ24_1 : Hid (BlkB y24 y19.heap.size 5 (zs 33)) := BlkIs.below HZ23.out hb24
        have HA24_1 : Hid (BlkIs y24 w0.heap.size 24 (([] : List Value) ++ (([Value.bool false, Value.slice none 0 0] : List Value) ++ [])).toArray) := BlkIs.below HA23_1.out hb24
        refine hK.out _ _ trivial (fun hH => ?_)
        clear hK hb24
        refine wpAnyH_ready (rs := [3]) (by kernel_rfl) (by simp) ?_
        refine AllReadyH.cons rfl (fun K hK => ?_) AllReadyH.nil
        go_simp
        go_at_call 7
        refine (verify_e1 R HR.out y19.heap.size y24 HZ24_1.out (HT.out.below HB24.out)).mono ?_
        rintro e y25 ⟨hb25, Av, cv, rfl⟩
        have HB25 : Hid (Below w.heap.size w y25) := HB24.out.trans (hb25.mono HB24.out.size)
        have HZ25_1 : Hid (BlkB y25 y19.heap.size 5 (zs 33)) := BlkIs.below HZ24_1.out hb25
        have HA25_1 : Hid (BlkIs y25 w0.heap.size 24 (([] : List Value) ++ (([Value.bool false, Value.slice none 0 0] : List Value) ++ [])).toArray) := BlkIs.below HA24_1.out hb25
        refine hK.out _ _ trivial (fun hH => ?_)
        clear hK hb25
        refine wpAnyH_take (i := 4) (oi := ⟨some 5, _, _, _, _, _⟩) rfl (by kernel_rfl) (by kernel_rfl) (by kernel_rfl) (fun _ _ _ h => h) (Or.inl ⟨by rfl, fun w hw => by (try dsimp only at hw); go_simp; with_reducible rfl⟩) (by assumption) ?_
        try simp only [Act.put, List.setIfInBounds_toArray, List.set_cons_zero, List.set_cons_succ]
        refine wpAnyH_take (i := 5) (oi := ⟨some 10, _, _, _, _, _⟩) rfl (by kernel_rfl) (by kernel_rfl) (by kernel_rfl) (fun _ _ _ h => h) (Or.inl ⟨by rfl, fun w hw => by (try dsimp only at hw); go_simp; with_reducible rfl⟩) (by assumption) ?_
        try simp only [Act.put, List.setIfInBounds_toArray, List.set_cons_zero, List.set_cons_succ]
        refine wpAnyH_take (i := 6) (oi := ⟨some 11, _, _, _, _, _⟩) rfl (by kernel_rfl) (by kernel_rfl) (by kernel_rfl) (fun _ _ _ h => h) (Or.inl ⟨by rfl, fun w hw => by (try dsimp only at hw); go_simp; with_reducible rfl⟩) (by assumption) ?_
        try simp only [Act.put, List.setIfInBounds_toArray, List.set_cons_zero, List.set_cons_succ]
        refine wpAnyH_ready (rs := [8]) (by kernel_rfl) (by simp) ?_
        refine AllReadyH.cons (o := ⟨none, _, _, _, _, _⟩) rfl (fun K hK => ?_) AllReadyH.nil
        refine wpOp_store_part (o := ⟨none, _, _, _, _, _⟩) (by rfl) 24 (.tmp 1) (.tmp 10) rfl 0 [] [.bool false, .slice none 0 0] [.bool false, .slice Av 0 cv] [] rfl rfl HA25_1.out rfl rfl (by rw [size_ans]; rfl) (by intro u hu; simp at hu; rcases hu with rfl | rfl <;> rfl) ?_
        intro z1 hz1 gz1
        have HBz : Hid (Below w.heap.size w z1) := HB25.out.grown gz1 HB25.out.size fun k hk => by injection hk with hk; have := HG19.out; omega
        refine hK.out _ _ trivial (fun hH => ?_)
        clear hK
        refine wpAnyH_take (i := 9) (oi := ⟨some 2, _, _, _, _, _⟩) rfl (by kernel_rfl) (by kernel_rfl) (by kernel_rfl) (fun _ _ _ h => h) (Or.inl ⟨by rfl, fun w hw => by (try dsimp only at hw); go_simp; with_reducible rfl⟩) (by assumption) ?_
        try simp only [Act.put, List.setIfInBounds_toArray, List.set_cons_zero, List.set_cons_succ]
        refine wpAnyH_done (by kernel_rfl) ?_ _
        go_wp2_with fail
        go_meet
        case rel => exact ⟨w0.heap.size, Av, cv, rfl, rfl, HBz.out, hz1⟩
  case rest =>
    obtain ⟨B, Av, cv, rfl, rfl, HB, HA⟩ := hcut
    go_wp2_with (first
      | (refine buildAt (o := ⟨some 13, _, _, _, _, _⟩) (by rfl) 29 #[] rfl [] (by simp [go_sem]) _ built_d0 ?_)
      | (refine buildAt (o := ⟨some 14, _, _, _, _, _⟩) (by rfl) 31 #[(0, .const (.int .u8 7))] rfl [(0, .int .u8 7)] (by simp [go_sem]) _ built_k7 ?_))
    refine start1 (G := fun w2 => Calls _ _ _ w2 _) fun w2 H1 HW HS => ?_
    have HZ : Hid (BlkB w2 wc.heap.size 5 (zs 33)) := by have h := H1.out; rw [HCS.out] at h; exact h
    have HB2 : Hid (Below w.heap.size w w2) := HB.out.trans (HW.out.mono HB.out.size)
    have HA2 : Hid (BlkIs w2 B 24 #[.bool false, .slice Av 0 cv]) := BlkIs.below HA.out HW.out
    refine (verify_e2 wc.heap.size w2 HZ.out (HT.out.below HB2.out)).mono ?_
    rintro e w3 ⟨hb3, rfl⟩
    have HB3 : Hid (Below w.heap.size w w3) := HB2.out.trans (hb3.mono HB2.out.size)
    have HA3 : Hid (BlkIs w3 B 24 #[.bool false, .slice Av 0 cv]) := BlkIs.below HA2.out hb3
    clear H1 hb3
    go_wp2_with (first
      | ((with_reducible refine stopAt (o := ⟨some 3, _, _, _, _, _⟩) ?_); refine allocNew (o := ⟨some 3, _, _, _, _, _⟩) (by rfl) 24 rfl _ _ info_ans ?_; intro w4 HE4 HW4 HS4; have HE4' : Hid (BlkIs w4 w3.heap.size 24 (([] : List Value) ++ (([Value.bool false, Value.slice none 0 0] : List Value) ++ [])).toArray) := HE4)
      | (refine wpList_store_part (o := ⟨none, _, _, _, _, _⟩) (by rfl) 24 (.tmp 3) (.tmp 17) rfl 0 [] [.bool false, .slice none 0 0] [.bool false, .slice none 0 0] [] rfl rfl HE4'.out rfl rfl (by rw [size_ans]; rfl) (by intro u hu; simp at hu; rcases hu with rfl | rfl <;> rfl) ?_; intro w5 h5 g5; have hbn : B ≠ w3.heap.size := (by have := HA3.out.lt; omega); have HA5 : Hid (BlkIs w5 B 24 #[.bool false, .slice Av 0 cv]) := (Touch.one g5).blk (BlkIs.below HA3.out HW4.out) hbn; have ca := BlkIs.cell HA5.out 0; have cb := BlkIs.cell HA5.out 1; clear hbn h5))
    go_ret
    exact ⟨rfl, (HB3.out.trans (HW4.out.mono HB3.out.size)).grown g5 (Nat.le_trans HB3.out.size HW4.out.size) fun k hk => by injection hk with hk; have := HB3.out.size; omega⟩
end Go.Proofs.YtfnlhfaihoojfaaDoor
