/- ledgerref1.words. -/
import Derived.Test.YtfnlhfaihoojfaaDoorHSum
namespace Go.Proofs.YtfnlhfaihoojfaaDoor
open Go.RowKit
theorem stopAt {P : Program} {ops : Array Oper} {rest : List Oper} {o : Oper} {a : Act} {w : World} {Q : Exit → Act → World → Prop} (h : Hid (wpList P ops Q (o :: rest) a w)) : wpList P ops Q (o :: rest) a w := h
theorem storeV {P : Program} {ops : Array Oper} {rest : List Oper} {o : Oper} {a : Act} {w : World} {Q : Exit → Act → World → Prop} (hgd : o.guard = none) (ty : TypeId) (x y : Operand) (ho : o.op = .store ty x y)
    (g : Nat) (cs old : List Value) (t : TypeId) (hx : a.eval x = .pointer (some ⟨g, 0, none⟩)) (hy : a.eval y = .agg cs.toArray) (hL : BlkIs w g t old.toArray) (hi : (P.info? ty).map (·.size) = some cs.length) (hl : old.length = cs.length)
    (h1 : ∀ v ∈ cs, v.oneCell' = true) (h : ∀ w', Hid (BlkIs w' g t cs.toArray) → Hid (w.grownBy w' (some g)) → Hid (w'.heap.size = w.heap.size) → wpList P ops Q rest (a.put o.dst undef) w') : wpList P ops Q (o :: rest) a w := by
  refine wpList_store_row hgd ty x y ho g _ hx hy t _ hL (by rw [hi]; simp) (by simp [hl]) (by
    rw [Array.all_eq_true_iff_forall_mem]
    intro v hv
    exact h1 v (by simpa using hv)) (h _ ?_ (grown_setRow _) (by show _ = _; simp [World.setRow]))
  show _ = _
  exact setRow_heap w g _ _ t (0, 0) hL
theorem uvs_oneCell (xs : List Nat) : ∀ u ∈ uvs xs, u.oneCell' = true := by
  intro u hu
  simp only [uvs, List.mem_map] at hu
  obtain ⟨x, _, rfl⟩ := hu
  rfl
theorem cells_ret {P : Program} {fn : Func} {p : Tmp} {ty : TypeId} {R : Ending → World → Prop} {x : Act} {w : World} {g : Nat} {t : TypeId} {cs : List Value} (h : fn.results = #[.cell p ty]) (hp : x.tmps.getD p undef = .pointer (some ⟨g, 0, none⟩))
    (hb : BlkIs w g t cs.toArray) (hrow : (P.underlying ty).map (·.isRow) = some true) (hi : (P.info? ty).map (·.size) = some cs.length) (hd : x.defers = []) (hR : R (.returned (.agg cs.toArray)) w) : bodyPost P fn R .ret x w := by
  refine bodyPost_ret (v := .agg cs.toArray) ?_ hd hR
  obtain ⟨d, hu, hdr⟩ := row_of hrow
  have h2 := run_loadVar_mid (P := P) w g 0 ty cs d hb.range hu hdr hi
  rw [results_cell h, hp]
  simp [asAddr, Result.andThen, h2]
def uzero (n : Nat) : Array Value := (uvs (zs n)).toArray
theorem info_64 : (Tryd.prog.info? 111).map (fun i => (i.zero, i.size)) = some (some (.agg (uzero 64)), 64) := by kernel_rfl
theorem info_8 : (Tryd.prog.info? 82).map (fun i => (i.zero, i.size)) = some (some (.agg (uzero 8)), 8) := by kernel_rfl
theorem row_64 : (Tryd.prog.underlying 111).map (·.isRow) = some true := by kernel_rfl
theorem size_64 : (Tryd.prog.info? 111).map (·.size) = some 64 := by kernel_rfl
theorem turn_at (m x : Nat) (i : Int) (w : World) (hx : x < 4294967296) (h0 : 1 ≤ m) (h1 : m ≤ 31) (hi : i = (m : Int)) :
    Calls Tryd.prog 83 #[.int .u32 x, .int .u64 i] w fun e w' => e = .returned (.int .u32 (rot x m : Nat)) ∧ w' = w := by
  subst hi
  exact turn_any x m w hx h0 h1
theorem sub_at {xs : List Nat} {a k : Nat} (hk : k < 64) : ((xs.drop a).take 64).getD k 0 = xs.getD (a + k) 0 := by
  simp only [List.getD, List.getElem?_take, List.getElem?_drop, if_pos hk]
set_option maxRecDepth 100000 in
set_option maxHeartbeats 4000000 in
theorem words_all (ws : List Nat) (A : Option Addr) (n c a : Nat) (xs : List Nat) (w : World) (hx : RB w A n xs) (ha : a + 64 ≤ n) (hn : n ≤ 140737488355328) (hws : wordsN ((xs.drop a).take 64) 64 = ws) :
    Calls Tryd.prog 66 #[.slice A n c, .int .i64 a] w fun e w' => e = .returned (.agg (uvs ws).toArray) ∧ Below w.heap.size w w' := by
  have HX := Lib.hid hx
  have HBL : Hid (IsB ((xs.drop a).take 64)) := (hx.isB.drop _).take _
  have HSA : Hid (∀ k, k < 64 → ((xs.drop a).take 64).getD k 0 = xs.getD (a + k) 0) := fun k hk => sub_at hk
  clear hx
  generalize hbl : (xs.drop a).take 64 = bl at *
  clear hbl
  have HWS : Hid (∀ k, 64 ≤ k → k ≤ 64 → wordsZ bl k = ws) := fun k h1 h2 => by rw [show k = 64 by omega, wordsZ_end, hws]
  have HUL : Hid (∀ k : Nat, (uvs ws).length = 64) := fun _ => by rw [uvs_length, ← hws, wordsN_length]
  clear hws
  go_enter Tryd.func66, Tryd.ntmps66
  go_wp2_with (first
    | (refine allocNew (o := ⟨some 4, _, _, _, _, _⟩) (by rfl) 111 rfl _ _ info_64 ?_; intro w1 HB1 HW1 HS1)
    | (refine allocNew (o := ⟨some 5, _, _, _, _, _⟩) (by rfl) 111 rfl _ _ info_64 ?_; intro w2 HB2 HW2 HS2))
  have HW0 : Hid (BlkU w2 w1.heap.size 111 (wordsZ bl 0)) := HB2.out
  have HG0 : Hid (Below w1.heap.size w1 w2) := HW2.out
  clear HB2 HW2 HS2
  obtain ⟨gw, HGW0⟩ : ∃ gw, w1.heap.size = gw := ⟨_, rfl⟩
  rw [HGW0] at HW0 HG0
  have HGW := Lib.hid HGW0
  rw [HGW0]
  clear HGW0
  go_loopw [6] (fun i wr => ∃ k : Nat, k ≤ 16 ∧ i = .int .i64 k ∧ Hid (BlkU wr gw 111 (wordsZ bl k)) ∧ Hid (Below gw w1 wr)) (fun i _ => 16 - (intOf i).toNat)
  case atStart => exact ⟨0, by omega, rfl, HW0.out, HG0.out⟩
  case round =>
    clear HW0 HG0
    obtain ⟨k, hk, rfl, HW, HB⟩ := hrel
    by_cases hlt : k < 16
    · obtain ⟨ad, rfl, hb0, hcell⟩ := ((HX.out.below HW1.out).below (HB.out.mono (by rw [HGW.out]; exact Nat.le_refl _))).2.2 (by omega)
      have hl := HX.out.1
      have c0 := hcell (a + 4 * k) _ (getD_of_lt (by omega))
      have c1 := cell_add (by omega) (hcell (a + 4 * k + 1) _ (getD_of_lt (by omega)))
      have c2 := cell_add (by omega) (hcell (a + 4 * k + 2) _ (getD_of_lt (by omega)))
      have c3 := cell_add (by omega) (hcell (a + 4 * k + 3) _ (getD_of_lt (by omega)))
      have b0 := byteAt HX.out.isB (a + 4 * k)
      have b1 := byteAt HX.out.isB (a + 4 * k + 1)
      have b2 := byteAt HX.out.isB (a + 4 * k + 2)
      have b3 := byteAt HX.out.isB (a + 4 * k + 3)
      have HWD : Hid (wordAt bl k = beW (xs.getD (a + 4 * k) 0) (xs.getD (a + 4 * k + 1) 0) (xs.getD (a + 4 * k + 2) 0) (xs.getD (a + 4 * k + 3) 0)) := by
        show _ = _
        unfold wordAt
        rw [HSA.out _ (by omega), HSA.out _ (by omega), HSA.out _ (by omega), HSA.out _ (by omega)]
        rfl
      have hc := HW.out.cell (i := k) (by rw [wordsZ_length _ (by omega)]; omega)
      have hf := BlkIs.frozen HW.out k
      clear hcell hl
      generalize xs.getD (a + 4 * k) 0 = x0 at *
      generalize xs.getD (a + 4 * k + 1) 0 = x1 at *
      generalize xs.getD (a + 4 * k + 2) 0 = x2 at *
      generalize xs.getD (a + 4 * k + 3) 0 = x3 at *
      generalize (wordsZ bl k).getD k 0 = z at *
      have jn : (a : Int) + 4 * (k : Int) + 3 < (n : Int) := by omega
      have i0 : (0 : Int) ≤ (a : Int) + 4 * (k : Int) := by omega
      have i1 : (0 : Int) ≤ (a : Int) + 4 * (k : Int) + 1 := by omega
      have i2 : (0 : Int) ≤ (a : Int) + 4 * (k : Int) + 2 := by omega
      have i3 : (0 : Int) ≤ (a : Int) + 4 * (k : Int) + 3 := by omega
      have j0 : (a : Int) + 4 * (k : Int) < (n : Int) := by omega
      have j1 : (a : Int) + 4 * (k : Int) + 1 < (n : Int) := by omega
      have j2 : (a : Int) + 4 * (k : Int) + 2 < (n : Int) := by omega
      have n0 : ((a : Int) + 4 * (k : Int)).toNat = a + 4 * k := by omega
      have n1 : ((a : Int) + 4 * (k : Int) + 1).toNat = a + 4 * k + 1 := by omega
      have n2 : ((a : Int) + 4 * (k : Int) + 2).toNat = a + 4 * k + 2 := by omega
      have n3 : ((a : Int) + 4 * (k : Int) + 3).toNat = a + 4 * k + 3 := by omega
      have jk : (k : Int) < 64 := by omega
      go_wp2_with fail
      refine wp_region_still_tail 31 (by kernel_rfl) (by kernel_rfl) ?_
      simp only [List.take_succ_cons, List.take_zero, List.drop_succ_cons, List.drop_zero]
      repeat (refine wpStill_step (fun K hK => ?_); go_simp; (try go_bits); refine hK _ ?_; clear hK K)
      try refine wpStill_nil ?_
      change wpList _ _ _ _ _ wr.drew
      have HWn : Hid (BlkU (wr.drew.setCell ⟨gw, k, none⟩ (.int .u32 (beW x0 x1 x2 x3 : Nat))) gw 111 (wordsZ bl (k + 1))) := by
        have h := BlkU.set (w := wr.drew) HW.out k (beW x0 x1 x2 x3)
        rwa [wordsZ_next bl (by omega) (by rw [if_pos hlt]; exact HWD.out.symm)] at h
      have HBn : Hid (Below gw w1 (wr.drew.setCell ⟨gw, k, none⟩ (.int .u32 (beW x0 x1 x2 x3 : Nat)))) := (drewN_below HB.out 1).setCell (Nat.le_refl _) _
      have hbe := be_bits x0 x1 x2 x3 b0 b1 b2 b3
      go_wp2_with fail
      go_roundw
      case rel => exact ⟨k + 1, by omega, by go_num, HWn.out, HBn.out⟩
      case measure => simp [intOf]; omega
    · have hk16 : 16 ≤ k := by omega
      go_wp2_with fail
      go_loopw [8] (fun i wr => ∃ k : Nat, 16 ≤ k ∧ k ≤ 64 ∧ i = .int .i64 k ∧ Hid (BlkU wr gw 111 (wordsZ bl k)) ∧ Hid (Below gw w1 wr)) (fun i _ => 64 - (intOf i).toNat)
      case atStart => exact ⟨16, by omega, by omega, rfl, (show k = 16 by omega) ▸ HW.out, HB.out⟩
      case round =>
        clear HW HB
        obtain ⟨w3, rfl⟩ : ∃ w3, w3 = wr := ⟨_, rfl⟩
        obtain ⟨k, hk6, hk, rfl, HW, HB⟩ := hrel
        by_cases hlt : k < 64
        · have hw := wordsZ_w HBL.out k
          have cx := HW.out.cell (i := k - 2) (by rw [wordsZ_length _ hk]; omega)
          have cy := HW.out.cell (i := k - 15) (by rw [wordsZ_length _ hk]; omega)
          have cu := HW.out.cell (i := k - 7) (by rw [wordsZ_length _ hk]; omega)
          have cv := HW.out.cell (i := k - 16) (by rw [wordsZ_length _ hk]; omega)
          have cz := HW.out.cell (i := k) (by rw [wordsZ_length _ hk]; omega)
          have cf := BlkIs.frozen HW.out k
          have lx := hw.getD (k - 2)
          have ly := hw.getD (k - 15)
          have lu := hw.getD (k - 7)
          have lv := hw.getD (k - 16)
          have HN : Hid (nextW (wordsN bl k) k = (low1 ((wordsZ bl k).getD (k - 2) 0) + (wordsZ bl k).getD (k - 7) 0 + low0 ((wordsZ bl k).getD (k - 15) 0) + (wordsZ bl k).getD (k - 16) 0) % 4294967296) := by
            show _ = _
            rw [wordsZ_at bl (show k - 2 < k by omega), wordsZ_at bl (show k - 7 < k by omega), wordsZ_at bl (show k - 15 < k by omega), wordsZ_at bl (show k - 16 < k by omega)]
            rfl
          clear hw
          generalize (wordsZ bl k).getD (k - 2) 0 = x at *
          generalize (wordsZ bl k).getD (k - 15) 0 = y at *
          generalize (wordsZ bl k).getD (k - 7) 0 = u at *
          generalize (wordsZ bl k).getD (k - 16) 0 = v at *
          generalize (wordsZ bl k).getD k 0 = z at *
          have i0 : (2 : Int) ≤ (k : Int) := by omega
          have i1 : (15 : Int) ≤ (k : Int) := by omega
          have i2 : (7 : Int) ≤ (k : Int) := by omega
          have i3 : (16 : Int) ≤ (k : Int) := by omega
          have i4 : (0 : Int) ≤ (k : Int) := by omega
          have j0 : (k : Int) - 2 < 64 := by omega
          have j1 : (k : Int) - 15 < 64 := by omega
          have j2 : (k : Int) - 7 < 64 := by omega
          have j3 : (k : Int) - 16 < 64 := by omega
          have j4 : (k : Int) < 64 := by omega
          have n0 : ((k : Int) - 2).toNat = k - 2 := by omega
          have n1 : ((k : Int) - 15).toNat = k - 15 := by omega
          have n2 : ((k : Int) - 7).toNat = k - 7 := by omega
          have n3 : ((k : Int) - 16).toNat = k - 16 := by omega
          have hl1 : bits .xor .u32 (bits .xor .u32 (rot x 17 : Int) (rot x 19 : Int)) ((x : Int) / 1024) = ((low1 x : Nat) : Int) := by
            rw [show (x : Int) / 1024 = ((x / 1024 : Nat) : Int) by omega]
            exact xor3 _ _ _ (rot_lt lx _) (rot_lt lx _) (div_lt32 lx 10)
          have hl0 : bits .xor .u32 (bits .xor .u32 (rot y 7 : Int) (rot y 18 : Int)) ((y : Int) / 8) = ((low0 y : Nat) : Int) := by
            rw [show (y : Int) / 8 = ((y / 8 : Nat) : Int) by omega]
            exact xor3 _ _ _ (rot_lt ly _) (rot_lt ly _) (div_lt32 ly 3)
          go_wp2_with fail
          go_quiet ((first
            | (go_at_call 83; exact Calls.quiet_of_same (turn_at 17 _ _ _ lx (by omega) (by omega) (by omega)))
            | (go_at_call 83; exact Calls.quiet_of_same (turn_at 19 _ _ _ lx (by omega) (by omega) (by omega)))))
          clear cx
          replace cy : (w3.drewN nq).cell? ⟨gw, k - 15, none⟩ = some (.int .u32 (y : Int)) := cy
          replace cu : (w3.drewN nq).cell? ⟨gw, k - 7, none⟩ = some (.int .u32 (u : Int)) := cu
          replace cv : (w3.drewN nq).cell? ⟨gw, k - 16, none⟩ = some (.int .u32 (v : Int)) := cv
          replace cz : (w3.drewN nq).cell? ⟨gw, k, none⟩ = some (.int .u32 (z : Int)) := cz
          replace cf : (w3.drewN nq).frozen? ⟨gw, k, none⟩ = false := cf
          replace HW : Hid (BlkU (w3.drewN nq) gw 111 (wordsZ bl k)) := HW.out
          replace HB : Hid (Below gw w1 (w3.drewN nq)) := Lib.hid (drewN_below HB.out _)
          generalize w3.drewN nq = w4 at *
          go_wp2_with fail
          go_quiet ((first
            | (go_at_call 83; exact Calls.quiet_of_same (turn_at 7 _ _ _ ly (by omega) (by omega) (by omega)))
            | (go_at_call 83; exact Calls.quiet_of_same (turn_at 18 _ _ _ ly (by omega) (by omega) (by omega)))))
          clear cy
          replace cu : (w4.drewN nq).cell? ⟨gw, k - 7, none⟩ = some (.int .u32 (u : Int)) := cu
          replace cv : (w4.drewN nq).cell? ⟨gw, k - 16, none⟩ = some (.int .u32 (v : Int)) := cv
          replace cz : (w4.drewN nq).cell? ⟨gw, k, none⟩ = some (.int .u32 (z : Int)) := cz
          replace cf : (w4.drewN nq).frozen? ⟨gw, k, none⟩ = false := cf
          replace HW : Hid (BlkU (w4.drewN nq) gw 111 (wordsZ bl k)) := HW.out
          replace HB : Hid (Below gw w1 (w4.drewN nq)) := Lib.hid (drewN_below HB.out _)
          generalize w4.drewN nq = w5 at *
          go_wp2_with fail
          refine wp_region_still_tail 15 (by kernel_rfl) (by kernel_rfl) ?_
          simp only [List.take_succ_cons, List.take_zero, List.drop_succ_cons, List.drop_zero]
          repeat (refine wpStill_step (fun K hK => ?_); go_simp; (try go_bits); refine hK _ ?_; clear hK K)
          try refine wpStill_nil ?_
          change wpList _ _ _ _ _ w5.drew
          have HWn : Hid (∀ e : Int, e = (((low1 x + u + low0 y + v) % 4294967296 : Nat) : Int) → BlkU (w5.drew.setCell ⟨gw, k, none⟩ (.int .u32 e)) gw 111 (wordsZ bl (k + 1))) := by
            intro e he
            subst he
            have h := BlkU.set (w := w5.drew) HW.out k ((low1 x + u + low0 y + v) % 4294967296)
            rwa [wordsZ_next bl (by omega) (by rw [if_neg (by omega)]; exact HN.out.symm)] at h
          have HBn : Hid (∀ e : Value, Below gw w1 (w5.drew.setCell ⟨gw, k, none⟩ e)) := fun e => (drewN_below HB.out 1).setCell (Nat.le_refl _) _
          go_wp2_with fail
          go_roundw
          case rel => exact ⟨k + 1, by omega, by omega, by go_num, HWn.out _ (sum4 _ _ _ _), HBn.out _⟩
          case measure => simp [intOf]; omega
        · have HWK : Hid (BlkU w3 gw 111 ws) := by
            have h := HW.out
            rwa [HWS.out k (by omega) hk] at h
          have HB2 : Hid (BlkIs w3 w.heap.size 111 (uvs (zs 64)).toArray) := BlkIs.belowB HB1.out HB.out (by rw [← HGW.out, HS1.out]; omega)
          clear HW
          go_wp2_with (first
            | ((with_reducible refine stopAt (o := ⟨some 103, _, _, _, _, _⟩) ?_); refine loadRange (o := ⟨some 103, _, _, _, _, _⟩) (by rfl) 111 (.tmp 5) rfl gw 0 (uvs ws) rfl (BlkIs.range HWK.out) row_64 (by rw [size_64, HUL.out 0]) ?_)
            | ((with_reducible refine stopAt (o := ⟨none, .store _ _ _, _, _, _, _⟩) ?_); refine storeV (o := ⟨none, _, _, _, _, _⟩) (by rfl) 111 (.tmp 4) (.tmp 103) rfl w.heap.size (uvs ws) (uvs (zs 64)) 111 rfl rfl HB2.out (by rw [size_64, HUL.out 0]) (by rw [HUL.out 0]; rfl) (uvs_oneCell _) ?_; intro w6 HB6 HG6 HS6))
          have HEnd : Hid (Below w.heap.size w w6) := (HW1.out.trans (HB.out.mono (by rw [← HGW.out, HS1.out]; omega))).grown HG6.out (by
            have h1 := HB.out.size
            have h2 := HS1.out
            omega) (fun k hk => by injection hk with hk; omega)
          exact cells_ret (g := w.heap.size) rfl rfl HB6.out row_64 (by rw [size_64, HUL.out 0]) rfl ⟨rfl, HEnd.out⟩
theorem words_any (A : Option Addr) (n c a : Nat) (xs : List Nat) (w : World) (hx : RB w A n xs) (ha : a + 64 ≤ n) (hn : n ≤ 140737488355328) :
    Calls Tryd.prog 66 #[.slice A n c, .int .i64 a] w fun e w' => e = .returned (.agg (uvs (wordsN ((xs.drop a).take 64) 64)).toArray) ∧ Below w.heap.size w w' :=
  words_all _ A n c a xs w hx ha hn rfl
end Go.Proofs.YtfnlhfaihoojfaaDoor
