/- Ref9c, Ref9e (merged) -/
import Derived.Test.YtfnlhfaihoojfaaDoorMj
import Derived.Test.YtfnlhfaihoojfaaDoorFa
import Derived.Test.YtfnlhfaihoojfaaDoorFb
/- ledgerref9: LeafText, Leaf, bit, Empties, ClimbWith. -/
namespace Go.Proofs.YtfnlhfaihoojfaaDoor
open Go.RowKit
set_option maxHeartbeats 1000000 in
theorem rleafText_any (ks : List Nat) (A : Option Addr) (n c : Nat) (xs : List Nat) (w : World) (hk : IsB ks) (hkl : ks.length = 32) (hx : RB w A n xs) (hn : n ≤ 1073741824) :
    Calls Tryd.prog 70 #[.agg (bvs ks).toArray, .slice A n c] w fun e w' => Below w.heap.size w w' ∧ ∃ V, e = .returned V ∧ OwnU w' w.heap.size V (leafT ks xs) := by
  have HK := Lib.hid (And.intro hkl hk)
  have HX := Lib.hid hx
  have hxl := hx.1
  clear hk hkl hx
  go_enter Tryd.func70, Tryd.ntmps70
  go_wp2_with (with_reducible refine stopAt (o := ⟨some 8, _, _, _, _, _⟩) ?_)
  refine start1 (G := fun w2 => Hid (wpList _ _ _ _ _ w2)) fun w2 H1 HW HS => ?_
  have HK2 : Hid (BlkB w2 w.heap.size 31 ks) := H1
  clear H1
  refine Lib.hid ?_
  go_wp2_with fail
  have HB0 : Hid (Below w2.heap.size w2 (w2.alloc (.cells #[.int .u8 0] 5))) := (Below.refl _ _).alloc (Nat.le_refl _) _
  have HO0 : Hid (OwnU (w2.alloc (.cells #[.int .u8 0] 5)) w2.heap.size (.slice (some ⟨w2.heap.size, 0, none⟩) 1 1) (0 :: ks.take 0)) := own_byte 0 (by omega)
  go_loopw [5, 6] (fun v i wr => ∃ k : Nat, k ≤ 32 ∧ i = .int .i64 k ∧ Hid (OwnU wr w2.heap.size v (0 :: ks.take k)) ∧ Hid (Below w2.heap.size w2 wr)) (fun _ i _ => 32 - (intOf i).toNat)
  case atStart => exact ⟨0, by omega, rfl, HO0.out, HB0.out⟩
  case round =>
    obtain ⟨k, hk, rfl, HO, HB⟩ := hrel
    by_cases hlt : k < 32
    · have hlt' : (k : Int) < 32 := by omega
      have hk32 : k < ks.length := by rw [HK.out.1]; exact hlt
      have hc : wr.cell? ⟨w.heap.size, k, none⟩ = some (.int .u8 (ks.getD k 0 : Nat)) := (BlkB.cell (BlkIs.below HK2.out HB.out) hk32)
      have hx8 : ks.getD k 0 < 256 := HK.out.2 _ (getD_mem hk32)
      have HTS : Hid (0 :: ks.take (k + 1) = 0 :: ks.take k ++ [ks.getD k 0]) := by show _ = _; rw [take_succ_getD hk32]; rfl
      have hln : (0 :: ks.take k).length + 1 ≤ 140737488355328 := by rw [List.length_cons, List.length_take]; omega
      clear hk32
      generalize ks.getD k 0 = b at *
      go_wp2_with (at_builtin; refine append1 und_bytes info_byte wr rfl (.tmp 13) (.tmp 17) rfl w2.heap.size _ _ HO.out b hx8 rfl rfl hln HB.out.size ?_; intro v' w1 hown1 hgrow1)
      have HB1 := Lib.hid (HB.out.grown hgrow1 HB.out.size HO.out.ge)
      go_roundw
      case rel => exact ⟨k + 1, by omega, by go_num, by rw [HTS.out]; exact hown1, HB1.out⟩
      case measure => simp [intOf]; omega
    · have hnlt : ¬ (k : Int) < 32 := by omega
      have HKT : Hid (ks.take k = ks) := List.take_of_length_le (by rw [HK.out.1]; omega)
      rw [HKT.out] at HO
      clear hlt HKT
      go_wp2_with fail
      go_loopw [5, 7] (fun v i wr => ∃ j : Nat, j ≤ n ∧ i = .int .i64 j ∧ Hid (OwnU wr w2.heap.size v (0 :: (ks ++ xs.take j))) ∧ Hid (Below w2.heap.size w2 wr)) (fun _ i _ => n - (intOf i).toNat)
      case atStart => exact ⟨0, by omega, rfl, by rw [List.take_zero, List.append_nil]; exact HO.out, HB.out⟩
      case round =>
        clear HO HB
        obtain ⟨j, hj, rfl, HO, HB⟩ := hrel
        by_cases hlt2 : j < n
        · have hlt2' : (j : Int) < n := by omega
          have hj32 : j < xs.length := by omega
          have HXr := HX.out.below (HW.out.trans (HB.out.mono HW.out.size))
          obtain ⟨ad, rfl, hb, hc⟩ := HXr.at_ hlt2
          clear HXr
          have hx8 : xs.getD j 0 < 256 := HX.out.2.1 _ (getD_mem hj32)
          have HTS : Hid (0 :: (ks ++ xs.take (j + 1)) = 0 :: (ks ++ xs.take j) ++ [xs.getD j 0]) := by show _ = _; rw [take_succ_getD hj32]; simp
          have hln : (0 :: (ks ++ xs.take j)).length + 1 ≤ 140737488355328 := by rw [List.length_cons, List.length_append, List.length_take, HK.out.1]; omega
          clear hj32
          generalize xs.getD j 0 = b at *
          go_wp2_with (at_builtin; refine append1 und_bytes info_byte wr rfl (.tmp 25) (.tmp 30) rfl w2.heap.size _ _ HO.out b hx8 rfl rfl hln HB.out.size ?_; intro v' w1 hown1 hgrow1)
          have HB1 := Lib.hid (HB.out.grown hgrow1 HB.out.size HO.out.ge)
          go_roundw
          case rel => exact ⟨j + 1, by omega, by go_num, by rw [HTS.out]; exact hown1, HB1.out⟩
          case measure => simp [intOf]; omega
        · obtain rfl : j = n := by omega
          have HXT : Hid (xs.take j = xs) := List.take_of_length_le (by omega)
          rw [HXT.out] at HO
          go_wp2_with fail
          go_ret
          exact ⟨HW.out.trans (HB.out.mono HW.out.size), _, rfl, HO.out.mono HW.out.size⟩
set_option maxHeartbeats 1000000 in
theorem rleaf_any (wd : Int) (ks : List Nat) (A : Option Addr) (n c : Nat) (xs : List Nat) (w : World) (hk : IsB ks) (hkl : ks.length = 32) (hx : RB w A n xs) (hn : n ≤ 1073741824) (ht : Tabs1 w) :
    Calls Tryd.prog 48 #[.int .i64 wd, .agg (bvs ks).toArray, .slice A n c] w fun e w' => e = .returned (.agg (bvs (nodeD wd (leafT ks xs))).toArray) ∧ Below w.heap.size w w' := by
  have HK := Lib.hid (And.intro hkl hk)
  have HX := Lib.hid hx
  have HT := Lib.hid ht
  have hxl := hx.1
  clear hk hkl hx ht
  go_enter Tryd.func48, Tryd.ntmps48
  go_wp2_with (with_reducible refine stopAt (o := ⟨some 8, _, _, _, _, _⟩) ?_)
  refine start2 (G := fun w2 => Hid (wpList _ _ _ _ _ w2)) fun w2 H1 H2 HW HS => ?_
  have HK2 : Hid (BlkB w2 w.heap.size 31 ks) := H1
  have HD2 : Hid (BlkB w2 (w.heap.size + 1) 29 (zs 32)) := H2
  clear H1 H2
  refine Lib.hid ?_
  go_wp2_with (refine wpList_load_arr (o := ⟨some 8, _, _, _, _, _⟩) (by rfl) 31 (.tmp 4) rfl ⟨w.heap.size, 0, none⟩ 32 ks rfl (HK2.out.whole HK.out.2 HK.out.1) (by omega) (by kernel_rfl) (by kernel_rfl) ?_)
  refine (rleafText_any ks A n c xs w2 HK.out.2 HK.out.1 (HX.out.below HW.out) hn).mono ?_
  rintro e w3 ⟨hb3, V, rfl, ho⟩
  obtain ⟨A3, c3, rfl, hx3, _, hA3, _⟩ := ho.form
  have HX3 := Lib.hid hx3
  have HA3 := Lib.hid hA3
  have HB3 : Hid (Below w.heap.size w w3) := HW.out.trans (hb3.mono HW.out.size)
  have HD3 : Hid (BlkB w3 (w.heap.size + 1) 29 (zs 32)) := BlkIs.below HD2.out hb3
  have HN : Hid ((leafT ks xs).length + 128 ≤ 140737488355328) := by show _ ≤ _; unfold leafT; rw [List.length_cons, List.length_append, HK.out.1]; omega
  have HT3 : Hid (Tabs1 w3) := ⟨HT.out.1.below HB3.out, HT.out.2.below HB3.out⟩
  obtain ⟨T, HTT⟩ : ∃ T, Hid (leafT ks xs = T) := ⟨_, rfl⟩
  rw [HTT.out] at HX3 HN ⊢
  clear hb3 ho hx3 hA3 HK2 HD2
  go_wp2_with fail
  refine (rcut_any A3 T.length c3 T wd w3 HX3.out HA3.out HN.out HT3.out).mono ?_
  rintro e w4 ⟨rfl, hb4⟩
  have HB4 : Hid (Below w.heap.size w w4) := HB3.out.trans (hb4.mono HB3.out.size)
  have HD4 : Hid (BlkB w4 (w.heap.size + 1) 29 (zs 32)) := BlkIs.below HD3.out hb4
  clear hb4
  go_wp2_with (refine wpList_store_part (o := ⟨none, _, _, _, _, _⟩) (by rfl) 29 (.tmp 6) (.tmp 13) rfl 0 [] (bvs (zs 32)) (bvs (nodeD wd T)) [] rfl rfl (blk_in HD4.out) rfl (by simp [bvs, zs, nodeD_length]) (by rw [size_dig]; simp [bvs, nodeD_length]) (fun u hu => bvs_oneCell _ u hu) ?_; intro w7 h7 g7)
  exact arr_ret rfl rfl (blk_out h7) (nodeD_length _ _) row_dig size_dig rfl ⟨by rw [HTT.out], HB4.out.grown g7 HB4.out.size fun k hk => by injection hk with hk; omega⟩
theorem rbit_any (ks : List Nat) (i : Nat) (w : World) (hB : IsB ks) (hl : ks.length = 32) (hi : i < 256) :
    Calls Tryd.prog 71 #[.agg (bvs ks).toArray, .int .i64 i] w fun e w' => e = .returned (.int .i64 (bitK ks i : Nat)) ∧ Below w.heap.size w w' := by
  have hc := BlkB.cell (BlkIs.new w 31 (bvs ks).toArray : BlkB _ _ _ ks) (i := i / 8) (by omega)
  have hx8 := byte_at hB (i / 8)
  have HBK : Hid (bitK ks i = ks.getD (i / 8) 0 / 2 ^ (7 - i % 8) % 2) := rfl
  have HW := Lib.hid ((Below.refl w.heap.size w).alloc (Nat.le_refl _) (.cells (bvs ks).toArray 31))
  clear hB hl
  generalize ks.getD (i / 8) 0 = x at *
  generalize bitK ks i = z at *
  generalize hww : w.alloc (.cells (bvs ks).toArray 31) = w1 at *
  have hq : ((i : Int).tdiv 8) = ((i / 8 : Nat) : Int) := by rw [Int.tdiv_eq_ediv_of_nonneg (by omega)]; rfl
  have hr : ((i : Int).tmod 8) = ((i % 8 : Nat) : Int) := by rw [Int.tmod_eq_emod_of_nonneg (by omega)]; rfl
  go_enter Tryd.func71, Tryd.ntmps71
  go_wp2_with fail
  clear hq hr hc hww
  go_loopw [5, 6] (fun v j wr => ∃ k : Nat, i % 8 ≤ k ∧ k ≤ 7 ∧ j = .int .i64 k ∧ v = .int .i64 ((x / 2 ^ (k - i % 8) : Nat) : Int) ∧ wr = w1) (fun _ j _ => 8 - (intOf j).toNat)
  case atStart => exact ⟨i % 8, by omega, by omega, rfl, by rw [Nat.sub_self]; simp, rfl⟩
  case round =>
    obtain ⟨k, hk1, hk2, rfl, rfl, rfl⟩ := hrel
    have hd8 : x / 2 ^ (k - i % 8) < 256 := Nat.lt_of_le_of_lt (Nat.div_le_self _ _) hx8
    by_cases hlt : k < 7
    · have HN := Lib.hid (half_next (x := x) hk1)
      have hlt' : (k : Int) < 7 := by omega
      generalize x / 2 ^ (k - i % 8) = y at *
      have hq2 : ((y : Int).tdiv 2) = ((y / 2 : Nat) : Int) := by rw [Int.tdiv_eq_ediv_of_nonneg (by omega)]; rfl
      go_wp2_with fail
      go_roundw
      case rel => exact ⟨k + 1, by omega, by omega, by go_num, by rw [← HN.out]; simp, trivial⟩
      case measure => simp [intOf]; omega
    · obtain rfl : k = 7 := by omega
      generalize x / 2 ^ (7 - i % 8) = y at *
      have hr2 : ((y : Int).tmod 2) = ((y % 2 : Nat) : Int) := by rw [Int.tmod_eq_emod_of_nonneg (by omega)]; rfl
      go_wp2_with fail
      go_ret
      exact ⟨by rw [HBK.out]; simp, HW.out⟩
section
variable {P : Program}
/-- 'l = append(l, d)' of one digest: it lies in a new block of its own first. -/
theorem append1D {t e : TypeId} {z : Value} {by_ : Nat} (ht : P.underlying t = some (.slice e)) (hinfo : (P.info? e).map (fun i => (i.zero, i.size, i.bytes)) = some (some z, 32, by_)) (hzs : z.cells.size = 32)
    {ops : Array Oper} {rest : List Oper} {o : Oper} {a : Act} {Q : Exit → Act → World → Prop} (w : World) (hgd : o.guard = none) (s x : Operand) (ho : o.op = .call { callee := .builtin .append, args := #[s, x], argTypes := #[t, t] })
    (base : Nat) (v : Value) (n : Nat) (xs : List Value) (hown : w.ownsRow base e 32 v n xs) (cs : List Value) (hcl : cs.length = 32) (hone : ∀ u ∈ cs, u.oneCell' = true) (hs : a.eval s = v) (hx : a.eval x = .slice (some ⟨w.heap.size, 0, none⟩) 1 1)
    (hlen : (n + 1) * by_ ≤ 140737488355328) (hm : n + 1 ≤ 140737488355328) (hbase : base ≤ w.heap.size)
    (h : ∀ v' w', w'.ownsRow base e 32 v' (n + 1) (xs ++ cs) → w.grownBy w' v.ownBlock → Lies w v v' → wpList P ops Q rest (a.put o.dst v') w') :
    wpList P ops Q (o :: rest) a (w.alloc (.cells cs.toArray e)) := by
  obtain ⟨v', w', hr, h1, h2, h3⟩ := append32_run (o := o) ht hinfo hzs w s x ho base v n xs hown cs hcl hone hs hx hlen hm hbase
  refine wpList_plain hgd fun K hK => ?_
  unfold Oper.wp
  rw [hr]
  exact hK _ _ (h v' w' h1 h2 h3)
end
theorem und_dgl : Tryd.prog.underlying 42 = some (.slice 29) := by kernel_rfl
theorem info_dig3 : (Tryd.prog.info? 29).map (fun i => (i.zero, i.size, i.bytes)) = some (some (.agg (zarr 32)), 32, 32) := by kernel_rfl
/-- The digests of the empty subtrees lie at g. -/
def EsAt (w : World) (g : Nat) (wd : Int) : Prop := g < w.heap.size ∧ ∀ k, k < 257 → w.rangeAt g (k * 32) (bvs (emptyD wd k))
theorem EsAt.below {w w' : World} {g : Nat} {wd : Int} (h : EsAt w g wd) (hb : Below w.heap.size w w') : EsAt w' g wd := ⟨Nat.lt_of_lt_of_le h.1 hb.size, fun k hk => range_below hb h.1 (h.2 k hk)⟩
theorem flatE_range {w : World} {base g n c k : Nat} {wd : Int} (h : w.ownsRow base 29 32 (.slice (some ⟨g, 0, none⟩) n c) n (bvs (flatE wd n))) (hk : k < n) : w.rangeAt g (k * 32) (bvs (emptyD wd k)) := fun j v hj => by
  have hj32 : j < 32 := by
    have := (List.getElem?_eq_some_iff.1 hj).1
    simpa [bvs, emptyD_length] using this
  rw [World.ownsRow.cellAt h _ (by omega)]
  have e := flatE_at wd (h := k) (n := n) hk
  have e2 := congrArg (fun l : List Nat => (bvs l)[j]?) e
  simp only [bvs, List.getElem?_map, List.getElem?_take, if_pos hj32, List.getElem?_drop] at e2 hj ⊢
  rw [show k * 32 + j = 32 * k + j by omega, e2, hj]
theorem own_head {w : World} {base n size : Nat} {e : TypeId} {v : Value} {xs : List Value} (h : w.ownsRow base e size v n xs) (hn : 0 < n) : ∃ g c, v = .slice (some ⟨g, 0, none⟩) n c ∧ base ≤ g ∧ g < w.heap.size ∧ n ≤ c := by
  rcases h.2 with ⟨_, h0⟩ | ⟨g, cap, cur, e1, hb, _, hnc, _⟩
  · omega
  · exact ⟨g, cap, e1, hb, (h.lt g (by rw [e1]; rfl)).2, hnc⟩
/-- The list of them that Empties tells. -/
def EsRet (wd : Int) (w : World) (e : Ending) (w' : World) : Prop := ∃ g c, e = .returned (.slice (some ⟨g, 0, none⟩) 257 c) ∧ EsAt w' g wd ∧ w.heap.size ≤ g ∧ 257 ≤ c ∧ Below w.heap.size w w'
set_option maxRecDepth 20000 in
set_option maxHeartbeats 400000 in
theorem empties_any (wd : Int) (w : World) (ht : Tabs1 w) : Calls Tryd.prog 26 #[.int .i64 wd] w (EsRet wd w) := by
  have HT := Lib.hid ht
  clear ht
  go_enter Tryd.func26, Tryd.ntmps26
  go_wp2_with fail
  have HB0 : Hid (Below w.heap.size w (w.alloc (.cells #[.int .u8 2] 5))) := (Below.refl _ _).alloc (Nat.le_refl _) _
  have HX0 : Hid (RB (w.alloc (.cells #[.int .u8 2] 5)) (some ⟨w.heap.size, 0, none⟩) 1 [2]) := (own_byte 2 (by omega) : OwnU (w.alloc (.cells #[.int .u8 2] 5)) w.heap.size (.slice (some ⟨w.heap.size, 0, none⟩) 1 1) [2]).reads
  refine (rcut_any _ 1 1 [2] wd _ HX0.out (fun h => by cases h) (by omega) ⟨HT.out.1.below HB0.out, HT.out.2.below HB0.out⟩).mono ?_
  rintro e w4 ⟨rfl, hb4⟩
  have HB4 : Hid (Below w.heap.size w w4) := HB0.out.trans (hb4.mono HB0.out.size)
  have HE0 : Hid (nodeD wd [2] = emptyD wd 0) := rfl
  rw [HE0.out]
  clear hb4
  go_wp2_with (first
    | ((with_reducible refine stopAt (o := ⟨some 3, _, _, _, _, _⟩) ?_); refine allocNew (o := ⟨some 3, _, _, _, _, _⟩) (by rfl) 29 rfl _ _ info_dig ?_; intro w5 HE5 HW5 HS5)
    | (refine wpList_store_part (o := ⟨none, _, _, _, _, _⟩) (by rfl) 29 (.tmp 3) (.tmp 8) rfl 0 [] (bvs (zs 32)) (bvs (emptyD wd 0)) [] rfl rfl (blk_in HE5.out) rfl (by simp [bvs, zs, emptyD_length]) (by rw [size_dig]; simp [bvs, emptyD_length]) (fun u hu => bvs_oneCell _ u hu) ?_; intro w6 h6 g6; have hB6 : BlkB w6 w4.heap.size 29 (emptyD wd 0) := blk_out h6)
    | ((with_reducible refine stopAt (o := ⟨some 9, _, _, _, _, _⟩) ?_); refine wpList_load_arr (o := ⟨some 9, _, _, _, _, _⟩) (by rfl) 29 (.tmp 3) rfl ⟨w4.heap.size, 0, none⟩ 32 (emptyD wd 0) rfl (hB6.whole (emptyD_isB _ _) (emptyD_length _ _)) (by omega) (by kernel_rfl) (by kernel_rfl) ?_)
    | ((with_reducible refine stopAt (o := ⟨some 10, _, _, _, _, _⟩) ?_); refine buildSlice1 (o := ⟨some 10, _, _, _, _, _⟩) rfl w6 42 29 _ 32 (.tmp 9) rfl und_dgl info_dig (by decide) (by decide) (bvs (emptyD wd 0)).toArray rfl (by simp [bvs, emptyD_length]) ?_))
  have HLT : Hid (w4.heap.size < w6.heap.size) := BlkIs.lt hB6
  have HB6w : Hid (Below w.heap.size w w6) := (HB4.out.trans (HW5.out.mono HB4.out.size)).grown g6 (Nat.le_trans HB4.out.size HW5.out.size) fun k hk => by injection hk with hk; have := HB4.out.size; omega
  have HB9 : Hid (Below w.heap.size w (w6.alloc (.cells (bvs (emptyD wd 0)).toArray 29))) := HB6w.out.alloc HB6w.out.size _
  have HD9 : Hid (BlkB (w6.alloc (.cells (bvs (emptyD wd 0)).toArray 29)) w4.heap.size 29 (emptyD wd 0)) := BlkIs.alloc hB6 _
  have HO9 : Hid ((w6.alloc (.cells (bvs (emptyD wd 0)).toArray 29)).ownsRow w6.heap.size 29 32 (.slice (some ⟨w6.heap.size, 0, none⟩) 1 1) 1 (bvs (flatE wd 1))) := by
    refine ⟨?_, .inr ⟨w6.heap.size, 1, (bvs (emptyD wd 0)).toArray, rfl, Nat.le_refl _, BlkIs.new _ _ _, Nat.le_refl _, by simp [maxLen], ?_, ?_⟩⟩
    · simp [flatE, bvs, emptyD_length]
    · simp [bvs, emptyD_length]
    · rw [Nat.one_mul, List.take_of_length_le (by simp [bvs, emptyD_length])]
      simp [flatE]
  clear HE5 HW5 HS5 h6 g6 hB6
  generalize w6.alloc (.cells (bvs (emptyD wd 0)).toArray 29) = w9 at *
  go_loopw [4, 5] (fun v i wr => ∃ h : Nat, h ≤ 256 ∧ i = .int .i64 h ∧ Hid (wr.ownsRow w6.heap.size 29 32 v (h + 1) (bvs (flatE wd (h + 1)))) ∧ Hid (BlkB wr w4.heap.size 29 (emptyD wd h)) ∧ Hid (Below w.heap.size w wr)) (fun _ i _ => 256 - (intOf i).toNat)
  case atStart => exact ⟨0, by omega, rfl, HO9.out, HD9.out, HB9.out⟩
  case round =>
    obtain ⟨h, hh, rfl, HO, HD, HB⟩ := hrel
    by_cases hlt : h < 256
    · have hlt' : (h : Int) < 256 := by omega
      have HES : Hid (emptyD wd (h + 1) = nodeD wd (branchT wd (emptyD wd h) (emptyD wd h))) := rfl
      have HEL := Lib.hid (And.intro (emptyD_length wd h) (emptyD_isB wd h))
      have HEL1 := Lib.hid (And.intro (emptyD_length wd (h + 1)) (emptyD_isB wd (h + 1)))
      have HFL : Hid (bvs (flatE wd (h + 1)) ++ bvs (emptyD wd (h + 1)) = bvs (flatE wd (h + 1 + 1))) := by show _ = bvs (flatE wd (h + 1) ++ emptyD wd (h + 1)); rw [bvs_append]
      obtain ⟨E, HE⟩ : ∃ E, Hid (emptyD wd h = E) := ⟨_, rfl⟩
      obtain ⟨F, HF⟩ : ∃ F, Hid (emptyD wd (h + 1) = F) := ⟨_, rfl⟩
      obtain ⟨L1, HL1⟩ : ∃ L, Hid (flatE wd (h + 1) = L) := ⟨_, rfl⟩
      obtain ⟨L2, HL2⟩ : ∃ L, Hid (flatE wd (h + 1 + 1) = L) := ⟨_, rfl⟩
      rw [HE.out] at HD HES HEL
      rw [HF.out] at HES HEL1 HFL
      rw [HL1.out] at HO HFL
      rw [HL2.out] at HFL
      have HLv : Hid (∀ B, u4.ownBlock = some B → w6.heap.size ≤ B) := fun B hB => (row_lt HO.out hB).1
      go_wp2_with (first
        | ((with_reducible refine stopAt (o := ⟨some 16, _, _, _, _, _⟩) ?_); refine wpList_load_arr (o := ⟨some 16, _, _, _, _, _⟩) (by rfl) 29 (.tmp 3) rfl ⟨w4.heap.size, 0, none⟩ 32 E rfl (HD.out.whole HEL.out.2 HEL.out.1) (by omega) (by kernel_rfl) (by kernel_rfl) ?_)
        | ((with_reducible refine stopAt (o := ⟨some 17, _, _, _, _, _⟩) ?_); refine wpList_load_arr (o := ⟨some 17, _, _, _, _, _⟩) (by rfl) 29 (.tmp 3) rfl ⟨w4.heap.size, 0, none⟩ 32 E rfl (HD.out.whole HEL.out.2 HEL.out.1) (by omega) (by kernel_rfl) (by kernel_rfl) ?_))
      refine (rbranch_any wd E E wr HEL.out.2 HEL.out.1 HEL.out.2 HEL.out.1 ⟨HT.out.1.below HB.out, HT.out.2.below HB.out⟩).mono ?_
      rintro e w7 ⟨rfl, hb7⟩
      rw [← HES.out]
      have HD7 : Hid (BlkB w7 w4.heap.size 29 E) := BlkIs.below HD.out hb7
      have HB7 : Hid (Below w.heap.size w w7) := HB.out.trans (hb7.mono HB.out.size)
      have HO7 : Hid (w7.ownsRow w6.heap.size 29 32 u4 (h + 1) (bvs L1)) := (Touch.ofBelow hb7).row HO.out fun _ _ h => h
      clear hb7 HO HD HB
      go_wp2_with (first
        | (refine wpList_store_part (o := ⟨none, _, _, _, _, _⟩) (by rfl) 29 (.tmp 3) (.tmp 18) rfl 0 [] (bvs E) (bvs F) [] rfl rfl (blk_in HD7.out) rfl (by simp [bvs, HEL.out.1, HEL1.out.1]) (by rw [size_dig]; simp [bvs, HEL1.out.1]) (fun u hu => bvs_oneCell _ u hu) ?_; intro w8 h8 g8; have HD8 : Hid (BlkB w8 w4.heap.size 29 F) := blk_out h8; have HO8 : Hid (w8.ownsRow w6.heap.size 29 32 u4 (h + 1) (bvs L1)) := (Touch.one g8).row HO7.out (fun B hB e => by have h1 := HLv.out B hB; have h2 := HLT.out; omega); have HB8 : Hid (Below w.heap.size w w8) := HB7.out.grown g8 HB7.out.size (fun k hk => by injection hk with hk; have := HB4.out.size; omega))
        | ((with_reducible refine stopAt (o := ⟨some 20, _, _, _, _, _⟩) ?_); refine wpList_load_arr (o := ⟨some 20, _, _, _, _, _⟩) (by rfl) 29 (.tmp 3) rfl ⟨w4.heap.size, 0, none⟩ 32 F rfl (HD8.out.whole HEL1.out.2 HEL1.out.1) (by omega) (by kernel_rfl) (by kernel_rfl) ?_)
        | ((with_reducible refine stopAt (o := ⟨some 21, _, _, _, _, _⟩) ?_); refine buildSlice1 (o := ⟨some 21, _, _, _, _, _⟩) rfl w8 42 29 _ 32 (.tmp 20) rfl und_dgl info_dig (by decide) (by decide) (bvs F).toArray rfl (by simp [bvs, HEL1.out.1]) ?_)
        | (with_reducible refine stopAt (o := ⟨some 22, _, _, _, _, _⟩) ?_))
      have hd : (bvs F).length = 32 := by simp [bvs, HEL1.out.1]
      refine append1D (t := 42) (e := 29) (o := ⟨some 22, _, _, _, _, _⟩) und_dgl info_dig3 (by rfl) w8 (by rfl) (.tmp 19) (.tmp 21) (by rfl) w6.heap.size u4 (h + 1) (bvs L1) HO8.out (bvs F) hd (fun u hu => bvs_oneCell _ u hu) (by rfl) (by rfl) (by omega) (by omega) (by obtain ⟨g', c', e', q1, q2, _⟩ := own_head HO8.out (by omega); omega) ?_
      intro v9 w9' ho9 hg9 hl9
      have HO10 : Hid (w9'.ownsRow w6.heap.size 29 32 v9 (h + 1 + 1) (bvs L2)) := by rw [← HFL.out]; exact ho9
      have HD10 : Hid (BlkB w9' w4.heap.size 29 F) := (Touch.grown hg9).blk HD8.out fun e => by have h1 := HLv.out _ e.symm; have h2 := HLT.out; omega
      have HB10 : Hid (Below w.heap.size w w9') := HB8.out.grown hg9 HB8.out.size fun k hk => by have h1 := HLv.out k hk; have h2 := HB6w.out.size; omega
      clear hg9 hl9 ho9 hd
      go_wp2_with fail
      go_roundw
      case rel => exact ⟨h + 1, by omega, by go_num, by rw [HL2.out]; exact HO10.out, by rw [HF.out]; exact HD10.out, HB10.out⟩
      case measure => simp [intOf]; omega
    · have hh256 : h = 256 := by omega
      subst hh256
      obtain ⟨g, c, hv, hg1, hg2, hc⟩ := own_head HO.out (by omega)
      subst hv
      go_wp2_with fail
      go_ret
      exact ⟨g, c, rfl, ⟨hg2, fun k hk => flatE_range HO.out hk⟩, Nat.le_trans HB6w.out.size hg1, hc, HB.out⟩
end Go.Proofs.YtfnlhfaihoojfaaDoor

/- ledgerref9: ClimbWith. -/
namespace Go.Proofs.YtfnlhfaihoojfaaDoor
open Go.RowKit
theorem cutN_tidy {wd : Int} {d : List Nat} (hl : d.length = 32) (ht : tidyB wd d = true) : cutN d wd = d := by
  unfold tidyB at ht
  rw [decide_eq_true_eq] at ht
  have h1 := zs_of ht
  rw [List.length_drop, hl] at h1
  unfold cutN
  rw [← h1, List.take_append_drop]
theorem rwithin_at {n : Nat} (hn : n ≤ 256) (w : World) : Calls Tryd.prog 21 #[.int .i64 n, .int .i64 0, .int .i64 256] w fun e w' => e = .returned (.int .i64 (n : Nat)) ∧ w' = w := by
  refine (rwithin_any n 0 256 w).mono ?_
  rintro e w' ⟨rfl, rfl⟩
  refine ⟨?_, rfl⟩
  congr 2
  rw [if_neg (by omega), if_neg (by omega)]
set_option maxRecDepth 20000 in
set_option maxHeartbeats 2000000 in
theorem rclimb_any (g c : Nat) (wd : Int) (ks d : List Nat) (h : Nat) (w : World) (hE : EsAt w g wd) (hh : h ≤ 256) (hk : IsB ks) (hkl : ks.length = 32) (hd : IsB d) (hdl : d.length = 32) (hdt : tidyB wd d = true) (ht : Tabs1 w) :
    Calls Tryd.prog 49 #[.slice (some ⟨g, 0, none⟩) 257 c, .int .i64 wd, .agg (bvs ks).toArray, .int .i64 0, .agg (bvs d).toArray, .int .i64 h] w fun e w' => e = .returned (.agg (bvs (pathD wd ks d (emptyD wd) h)).toArray) ∧ Below w.heap.size w w' := by
  have HE := Lib.hid hE
  have HK := Lib.hid (And.intro hkl hk)
  have HD := Lib.hid (And.intro hdl hd)
  have HDT := Lib.hid (cutN_tidy hdl hdt)
  have HT := Lib.hid ht
  have HPF : Hid (∀ j, (pathD wd ks d (emptyD wd) j).length = 32 ∧ IsB (pathD wd ks d (emptyD wd) j)) := fun j => pathD_facts wd ks (emptyD wd) hdl hd j
  have HPS : Hid (∀ j, pathD wd ks d (emptyD wd) (j + 1) = nodeD wd (upT wd ks j (pathD wd ks d (emptyD wd) j) (emptyD wd j))) := fun j => rfl
  have HP0 : Hid (pathD wd ks d (emptyD wd) 0 = d) := rfl
  have HZ := Lib.hid (rwithin_at (n := 0) (by omega))
  clear hE hk hkl hd hdl hdt ht
  have hh2 : (h : Int) ≤ 256 := by omega
  obtain ⟨F, HF⟩ : ∃ F : Nat → List Nat, Hid (pathD wd ks d (emptyD wd) = F) := ⟨_, rfl⟩
  rw [HF.out] at HPF HPS HP0 ⊢
  obtain ⟨Em, HEm⟩ : ∃ F : Nat → List Nat, Hid (emptyD wd = F) := ⟨_, rfl⟩
  have HEF : Hid (∀ j, (Em j).length = 32 ∧ IsB (Em j)) := fun j => by rw [← HEm.out]; exact ⟨emptyD_length _ _, emptyD_isB _ _⟩
  have HER : Hid (g < w.heap.size ∧ ∀ k, k < 257 → w.rangeAt g (k * 32) (bvs (Em k))) := by rw [← HEm.out]; exact HE.out
  rw [HEm.out] at HPS
  clear HE
  go_enter Tryd.func49, Tryd.ntmps49
  go_wp2_with fail
  refine start3 (G := fun w2 => Calls _ _ _ w2 _) fun w2 H1 H2 H3 HW HS => ?_
  have HK2 : Hid (BlkB w2 w.heap.size 31 ks) := H1
  have HD2 : Hid (BlkB w2 (w.heap.size + 1) 29 d) := H2
  have HZ2 : Hid (BlkB w2 (w.heap.size + 1 + 1) 29 (zs 32)) := H3
  clear H1 H2 H3
  refine (HZ.out w2).mono ?_
  rintro e w3 ⟨rfl, rfl⟩
  go_wp2_with fail
  refine (rwithin_at hh w3).mono ?_
  rintro e w4 ⟨rfl, rfl⟩
  go_wp2_with (refine wpList_load_arr (o := ⟨some 21, _, _, _, _, _⟩) (by rfl) 29 (.tmp 10) rfl ⟨w.heap.size + 1, 0, none⟩ 32 d rfl (HD2.out.whole HD.out.2 HD.out.1) (by omega) (by kernel_rfl) (by kernel_rfl) ?_)
  refine (refCut_any d wd w4 HD.out.2 HD.out.1).mono ?_
  rintro e w5 ⟨rfl, hb5⟩
  rw [HDT.out]
  have HK5 : Hid (BlkB w5 w.heap.size 31 ks) := BlkIs.below HK2.out hb5
  have HD5 : Hid (BlkB w5 (w.heap.size + 1) 29 d) := BlkIs.below HD2.out hb5
  have HZ5 : Hid (BlkB w5 (w.heap.size + 1 + 1) 29 (zs 32)) := BlkIs.below HZ2.out hb5
  have HB5 : Hid (Below w.heap.size w w5) := HW.out.trans (hb5.mono HW.out.size)
  clear hb5 HK2 HD2 HZ2
  go_wp2_with (refine wpList_store_part (o := ⟨none, _, _, _, _, _⟩) (by rfl) 29 (.tmp 10) (.tmp 23) rfl 0 [] (bvs d) (bvs d) [] rfl rfl (blk_in HD5.out) rfl rfl (by rw [size_dig]; simp [bvs, HD.out.1]) (fun u hu => bvs_oneCell _ u hu) ?_; intro w6 h6 g6)
  have HK6 : Hid (BlkB w6 w.heap.size 31 ks) := (Touch.one g6).blk HK5.out (by omega)
  have HD6 : Hid (BlkB w6 (w.heap.size + 1) 29 (F 0)) := by rw [HP0.out]; exact blk_out h6
  have HZ6 : Hid (BlkB w6 (w.heap.size + 1 + 1) 29 (zs 32)) := (Touch.one g6).blk HZ5.out (by omega)
  have HB6 : Hid (Below w.heap.size w w6) := HB5.out.grown g6 HB5.out.size fun k hk => by injection hk with hk; omega
  clear h6 g6 HK5 HD5 HZ5 HB5
  go_loopw [15, 16] (fun i _ wr => ∃ j : Nat, j ≤ h ∧ i = .int .i64 j ∧ Hid (BlkB wr w.heap.size 31 ks) ∧ Hid (BlkB wr (w.heap.size + 1) 29 (F j)) ∧ Hid (BlkB wr (w.heap.size + 1 + 1) 29 (zs 32)) ∧ Hid (Below w.heap.size w wr)) (fun i _ _ => h - (intOf i).toNat)
  case atStart => exact ⟨0, by omega, rfl, HK6.out, HD6.out, HZ6.out, HB6.out⟩
  case round =>
    obtain ⟨j, hj, rfl, HKr, HDr, HZr, HBr⟩ := hrel
    by_cases hlt : j < h
    · have hlt' : (j : Int) < h := by omega
      have hj257 : (j : Int) < 257 := by omega
      have hjn : j < 256 := by omega
      clear hlt
      go_wp2_with (refine wpList_load_arr (o := ⟨some 30, _, _, _, _, _⟩) (by rfl) 31 (.tmp 8) rfl ⟨w.heap.size, 0, none⟩ 32 ks rfl (HKr.out.whole HK.out.2 HK.out.1) (by omega) (by kernel_rfl) (by kernel_rfl) ?_)
      rw [show (255 : Int) - (j : Int) = ((255 - j : Nat) : Int) by omega]
      refine (rbit_any ks (255 - j) wr HK.out.2 HK.out.1 (by omega)).mono ?_
      rintro e w7 ⟨rfl, hb7⟩
      have HK7 : Hid (BlkB w7 w.heap.size 31 ks) := BlkIs.below HKr.out hb7
      have HD7 : Hid (BlkB w7 (w.heap.size + 1) 29 (F j)) := BlkIs.below HDr.out hb7
      have HZ7 : Hid (BlkB w7 (w.heap.size + 1 + 1) 29 (zs 32)) := BlkIs.below HZr.out hb7
      have HB7 : Hid (Below w.heap.size w w7) := HBr.out.trans (hb7.mono HBr.out.size)
      have HRG : Hid (∀ W, Below w.heap.size w W → W.rangeAt g (j * 32) (bvs (Em j))) := fun W hb => range_below hb HER.out.1 (HER.out.2 j (by omega))
      have HFj := Lib.hid (And.intro (HPF.out j) (And.intro (HPF.out (j + 1)) (HEF.out j)))
      have HST := Lib.hid (HPS.out j)
      clear hb7 HKr HDr HZr HBr
      by_cases hbit : bitK ks (255 - j) = 0
      · have HUP : Hid (nodeD wd (branchT wd (F j) (Em j)) = F (j + 1)) := by
          show _ = _
          rw [HST.out]
          unfold upT sidesN
          rw [if_pos hbit]
        have hbi : ((bitK ks (255 - j) : Nat) : Int) = 0 := by omega
        rw [hbi]
        clear hbit hbi
        go_upto_region 9 with fail
        have hu := und_dig
        have hsz1 : (Tryd.prog.info? 29).map (·.size) = some (bvs (F j)).length := by rw [size_dig]; simp [bvs, HFj.out.1.1]
        have hsz2 : (Tryd.prog.info? 29).map (·.size) = some (bvs (Em j)).length := by rw [size_dig]; simp [bvs, HFj.out.2.2.1]
        have HSS : Hid (∀ W, Below w7.heap.size w7 W → W.rangeAt (w.heap.size + 1) 0 (bvs (F j)) ∧ W.rangeAt g (j * 32) (bvs (Em j))) := fun W hb => ⟨BlkIs.range (BlkIs.below HD7.out hb), HRG.out W (HB7.out.trans (hb.mono HB7.out.size))⟩
        refine wp_region_upTo (S := fun w' => w'.rangeAt (w.heap.size + 1) 0 (bvs (F j)) ∧ w'.rangeAt g (j * 32) (bvs (Em j))) 7 (by kernel_rfl) (HSS.out _ (drewN_below (Below.refl _ _) 1)) fun hH => ?_
        have HB0 : Hid (Below w7.heap.size w7 w7.drew) := drewN_below (Below.refl _ _) 1
        generalize w7.drew = w8 at *
        refine wpAnyU_take (i := 0) (oi := ⟨some 36, _, _, _, _, _⟩) [6, 7] rfl (by kernel_rfl) (by kernel_rfl) (by kernel_rfl) (fun _ _ _ h => h) (by kernel_rfl) (by kernel_rfl) (by kernel_rfl) (Or.inl ⟨by rfl, fun w hw => by ((try dsimp only at hw); go_split_ands; go_simp; with_reducible rfl)⟩) (by assumption) ?_
        try simp only [Act.put, List.setIfInBounds_toArray, List.set_cons_zero, List.set_cons_succ]
        refine wpAnyU_take (i := 1) (oi := ⟨some 37, _, _, _, _, _⟩) [6, 7] rfl (by kernel_rfl) (by kernel_rfl) (by kernel_rfl) (fun _ _ _ h => h) (by kernel_rfl) (by kernel_rfl) (by kernel_rfl) (yieldsIf_load_mid (by rfl) _ _ rfl _ _ rfl _ _ (fun w hw => by (try dsimp only at hw); go_split_ands; assumption) (by assumption) rfl (by assumption)) (by assumption) ?_
        try simp only [Act.put, List.setIfInBounds_toArray, List.set_cons_zero, List.set_cons_succ]
        refine wpAnyU_take (i := 2) (oi := ⟨some 38, _, _, _, _, _⟩) [4, 5, 6, 7] rfl (by kernel_rfl) (by kernel_rfl) (by kernel_rfl) (fun _ _ _ h => h) (by kernel_rfl) (by kernel_rfl) (by kernel_rfl) (Or.inl ⟨by rfl, fun w hw => by ((try dsimp only at hw); go_split_ands; go_simp; with_reducible rfl)⟩) (by assumption) ?_
        try simp only [Act.put, List.setIfInBounds_toArray, List.set_cons_zero, List.set_cons_succ]
        refine wpAnyU_take (i := 3) (oi := ⟨some 39, _, _, _, _, _⟩) [4, 5, 6, 7] rfl (by kernel_rfl) (by kernel_rfl) (by kernel_rfl) (fun _ _ _ h => h) (by kernel_rfl) (by kernel_rfl) (by kernel_rfl) (Or.inl ⟨by rfl, fun w hw => by ((try dsimp only at hw); go_split_ands; go_simp; with_reducible rfl)⟩) (by assumption) ?_
        try simp only [Act.put, List.setIfInBounds_toArray, List.set_cons_zero, List.set_cons_succ]
        refine wpAnyU_take (i := 4) (oi := ⟨some 40, _, _, _, _, _⟩) [5, 6, 7] rfl (by kernel_rfl) (by kernel_rfl) (by kernel_rfl) (fun _ _ _ h => h) (by kernel_rfl) (by kernel_rfl) (by kernel_rfl) (Or.inl ⟨by rfl, fun w hw => by ((try dsimp only at hw); go_split_ands; go_simp; with_reducible rfl)⟩) (by assumption) ?_
        try simp only [Act.put, List.setIfInBounds_toArray, List.set_cons_zero, List.set_cons_succ]
        refine wpAnyU_take (i := 5) (oi := ⟨some 41, _, _, _, _, _⟩) [6, 7] rfl (by kernel_rfl) (by kernel_rfl) (by kernel_rfl) (fun _ _ _ h => h) (by kernel_rfl) (by kernel_rfl) (by kernel_rfl) (yieldsIf_load_mid (by rfl) _ _ rfl _ _ rfl _ _ (fun w hw => by (try dsimp only at hw); go_split_ands; assumption) (by assumption) rfl (by assumption)) (by assumption) ?_
        try simp only [Act.put, List.setIfInBounds_toArray, List.set_cons_zero, List.set_cons_succ]
        clear hu hsz1 hsz2 hH
        refine wpAnyU_one (i := 6) (by kernel_rfl) rfl (fun K hK => ?_)
        go_simp
        go_at_call 23
        refine (rbranch_any wd (F j) (Em j) w8 HFj.out.1.2 HFj.out.1.1 HFj.out.2.2.2 HFj.out.2.2.1 ⟨HT.out.1.below (HB7.out.trans (HB0.out.mono HB7.out.size)), HT.out.2.below (HB7.out.trans (HB0.out.mono HB7.out.size))⟩).mono ?_
        rintro e w9 ⟨rfl, hb9⟩
        have HB9 : Hid (Below w7.heap.size w7 w9) := HB0.out.trans (hb9.mono HB0.out.size)
        rw [HUP.out]
        refine hK.out _ _ (fun _ => HSS.out _ HB9.out) ?_
        clear hK hb9
        refine wpAnyU_one (i := 7) (o := ⟨none, _, _, _, _, _⟩) (by kernel_rfl) rfl (fun K hK => ?_)
        refine wpOp_store_part (o := ⟨none, _, _, _, _, _⟩) (by rfl) 29 (.tmp 10) (.tmp 42) rfl 0 [] (bvs (F j)) (bvs (F (j + 1))) [] rfl rfl (blk_in (BlkIs.below HD7.out HB9.out)) rfl (by simp [bvs, HFj.out.1.1, HFj.out.2.1.1]) (by rw [size_dig]; simp [bvs, HFj.out.2.1.1]) (fun u hu => bvs_oneCell _ u hu) ?_
        intro w10 h10 g10
        have HK10 : Hid (BlkB w10 w.heap.size 31 ks) := (Touch.one g10).blk (BlkIs.below HK7.out HB9.out) (by omega)
        have HD10 : Hid (BlkB w10 (w.heap.size + 1) 29 (F (j + 1))) := blk_out h10
        have HZ10 : Hid (BlkB w10 (w.heap.size + 1 + 1) 29 (zs 32)) := (Touch.one g10).blk (BlkIs.below HZ7.out HB9.out) (by omega)
        have HB10 : Hid (Below w.heap.size w w10) := (HB7.out.trans (HB9.out.mono HB7.out.size)).grown g10 (Nat.le_trans HB7.out.size HB9.out.size) fun k hk => by injection hk with hk; omega
        refine hK.out _ _ (fun h => by cases h) ?_
        clear hK h10 g10
        refine wpAnyU_done (by kernel_rfl) ?_ _
        go_wp2_with fail
        go_roundw
        case rel => exact ⟨j + 1, by omega, by go_num, HK10.out, HD10.out, HZ10.out, HB10.out⟩
        case measure => simp [intOf]; omega
      · have HUP : Hid (nodeD wd (branchT wd (Em j) (F j)) = F (j + 1)) := by
          show _ = _
          rw [HST.out]
          unfold upT sidesN
          rw [if_neg hbit]
        have hbi : ¬ ((bitK ks (255 - j) : Nat) : Int) = 0 := by omega
        generalize bitK ks (255 - j) = bk at *
        clear hbit
        go_upto_region 10 with fail
        have hu := und_dig
        have hsz1 : (Tryd.prog.info? 29).map (·.size) = some (bvs (F j)).length := by rw [size_dig]; simp [bvs, HFj.out.1.1]
        have hsz2 : (Tryd.prog.info? 29).map (·.size) = some (bvs (Em j)).length := by rw [size_dig]; simp [bvs, HFj.out.2.2.1]
        have HSS : Hid (∀ W, Below w7.heap.size w7 W → W.rangeAt (w.heap.size + 1) 0 (bvs (F j)) ∧ W.rangeAt g (j * 32) (bvs (Em j))) := fun W hb => ⟨BlkIs.range (BlkIs.below HD7.out hb), HRG.out W (HB7.out.trans (hb.mono HB7.out.size))⟩
        refine wp_region_upTo (S := fun w' => w'.rangeAt (w.heap.size + 1) 0 (bvs (F j)) ∧ w'.rangeAt g (j * 32) (bvs (Em j))) 7 (by kernel_rfl) (HSS.out _ (drewN_below (Below.refl _ _) 1)) fun hH => ?_
        have HB0 : Hid (Below w7.heap.size w7 w7.drew) := drewN_below (Below.refl _ _) 1
        generalize w7.drew = w8 at *
        refine wpAnyU_take (i := 0) (oi := ⟨some 43, _, _, _, _, _⟩) [6, 7] rfl (by kernel_rfl) (by kernel_rfl) (by kernel_rfl) (fun _ _ _ h => h) (by kernel_rfl) (by kernel_rfl) (by kernel_rfl) (Or.inl ⟨by rfl, fun w hw => by ((try dsimp only at hw); go_split_ands; go_simp; with_reducible rfl)⟩) (by assumption) ?_
        try simp only [Act.put, List.setIfInBounds_toArray, List.set_cons_zero, List.set_cons_succ]
        refine wpAnyU_take (i := 1) (oi := ⟨some 44, _, _, _, _, _⟩) [3, 4, 6, 7] rfl (by kernel_rfl) (by kernel_rfl) (by kernel_rfl) (fun _ _ _ h => h) (by kernel_rfl) (by kernel_rfl) (by kernel_rfl) (Or.inl ⟨by rfl, fun w hw => by ((try dsimp only at hw); go_split_ands; go_simp; with_reducible rfl)⟩) (by assumption) ?_
        try simp only [Act.put, List.setIfInBounds_toArray, List.set_cons_zero, List.set_cons_succ]
        refine wpAnyU_take (i := 2) (oi := ⟨some 45, _, _, _, _, _⟩) [3, 4, 6, 7] rfl (by kernel_rfl) (by kernel_rfl) (by kernel_rfl) (fun _ _ _ h => h) (by kernel_rfl) (by kernel_rfl) (by kernel_rfl) (Or.inl ⟨by rfl, fun w hw => by ((try dsimp only at hw); go_split_ands; go_simp; with_reducible rfl)⟩) (by assumption) ?_
        try simp only [Act.put, List.setIfInBounds_toArray, List.set_cons_zero, List.set_cons_succ]
        refine wpAnyU_take (i := 3) (oi := ⟨some 46, _, _, _, _, _⟩) [4, 6, 7] rfl (by kernel_rfl) (by kernel_rfl) (by kernel_rfl) (fun _ _ _ h => h) (by kernel_rfl) (by kernel_rfl) (by kernel_rfl) (Or.inl ⟨by rfl, fun w hw => by ((try dsimp only at hw); go_split_ands; go_simp; with_reducible rfl)⟩) (by assumption) ?_
        try simp only [Act.put, List.setIfInBounds_toArray, List.set_cons_zero, List.set_cons_succ]
        refine wpAnyU_take (i := 4) (oi := ⟨some 47, _, _, _, _, _⟩) [6, 7] rfl (by kernel_rfl) (by kernel_rfl) (by kernel_rfl) (fun _ _ _ h => h) (by kernel_rfl) (by kernel_rfl) (by kernel_rfl) (yieldsIf_load_mid (by rfl) _ _ rfl _ _ rfl _ _ (fun w hw => by (try dsimp only at hw); go_split_ands; assumption) (by assumption) rfl (by assumption)) (by assumption) ?_
        try simp only [Act.put, List.setIfInBounds_toArray, List.set_cons_zero, List.set_cons_succ]
        refine wpAnyU_take (i := 5) (oi := ⟨some 48, _, _, _, _, _⟩) [6, 7] rfl (by kernel_rfl) (by kernel_rfl) (by kernel_rfl) (fun _ _ _ h => h) (by kernel_rfl) (by kernel_rfl) (by kernel_rfl) (yieldsIf_load_mid (by rfl) _ _ rfl _ _ rfl _ _ (fun w hw => by (try dsimp only at hw); go_split_ands; assumption) (by assumption) rfl (by assumption)) (by assumption) ?_
        try simp only [Act.put, List.setIfInBounds_toArray, List.set_cons_zero, List.set_cons_succ]
        clear hu hsz1 hsz2 hH
        refine wpAnyU_one (i := 6) (by kernel_rfl) rfl (fun K hK => ?_)
        go_simp
        go_at_call 23
        refine (rbranch_any wd (Em j) (F j) w8 HFj.out.2.2.2 HFj.out.2.2.1 HFj.out.1.2 HFj.out.1.1 ⟨HT.out.1.below (HB7.out.trans (HB0.out.mono HB7.out.size)), HT.out.2.below (HB7.out.trans (HB0.out.mono HB7.out.size))⟩).mono ?_
        rintro e w9 ⟨rfl, hb9⟩
        have HB9 : Hid (Below w7.heap.size w7 w9) := HB0.out.trans (hb9.mono HB0.out.size)
        rw [HUP.out]
        refine hK.out _ _ (fun _ => HSS.out _ HB9.out) ?_
        clear hK hb9
        refine wpAnyU_one (i := 7) (o := ⟨none, _, _, _, _, _⟩) (by kernel_rfl) rfl (fun K hK => ?_)
        refine wpOp_store_part (o := ⟨none, _, _, _, _, _⟩) (by rfl) 29 (.tmp 10) (.tmp 49) rfl 0 [] (bvs (F j)) (bvs (F (j + 1))) [] rfl rfl (blk_in (BlkIs.below HD7.out HB9.out)) rfl (by simp [bvs, HFj.out.1.1, HFj.out.2.1.1]) (by rw [size_dig]; simp [bvs, HFj.out.2.1.1]) (fun u hu => bvs_oneCell _ u hu) ?_
        intro w10 h10 g10
        have HK10 : Hid (BlkB w10 w.heap.size 31 ks) := (Touch.one g10).blk (BlkIs.below HK7.out HB9.out) (by omega)
        have HD10 : Hid (BlkB w10 (w.heap.size + 1) 29 (F (j + 1))) := blk_out h10
        have HZ10 : Hid (BlkB w10 (w.heap.size + 1 + 1) 29 (zs 32)) := (Touch.one g10).blk (BlkIs.below HZ7.out HB9.out) (by omega)
        have HB10 : Hid (Below w.heap.size w w10) := (HB7.out.trans (HB9.out.mono HB7.out.size)).grown g10 (Nat.le_trans HB7.out.size HB9.out.size) fun k hk => by injection hk with hk; omega
        refine hK.out _ _ (fun h => by cases h) ?_
        clear hK h10 g10
        refine wpAnyU_done (by kernel_rfl) ?_ _
        go_wp2_with fail
        go_roundw
        case rel => exact ⟨j + 1, by omega, by go_num, HK10.out, HD10.out, HZ10.out, HB10.out⟩
        case measure => simp [intOf]; omega
    · have hnlt : ¬ (j : Int) < h := by omega
      obtain rfl : j = h := by omega
      have HFj := Lib.hid (HPF.out j)
      go_wp2_with (first
        | (refine wpList_load_arr (o := ⟨some 50, _, _, _, _, _⟩) (by rfl) 29 (.tmp 10) rfl ⟨w.heap.size + 1, 0, none⟩ 32 (F j) rfl (HDr.out.whole HFj.out.2 HFj.out.1) (by omega) (by kernel_rfl) (by kernel_rfl) ?_)
        | (refine wpList_store_part (o := ⟨none, _, _, _, _, _⟩) (by rfl) 29 (.tmp 12) (.tmp 50) rfl 0 [] (bvs (zs 32)) (bvs (F j)) [] rfl rfl (blk_in HZr.out) rfl (by simp [bvs, zs, HFj.out.1]) (by rw [size_dig]; simp [bvs, HFj.out.1]) (fun u hu => bvs_oneCell _ u hu) ?_; intro w9 h9 g9))
      exact arr_ret rfl rfl (blk_out h9) HFj.out.1 row_dig size_dig rfl ⟨rfl, HBr.out.grown g9 HBr.out.size fun k hk => by injection hk with hk; omega⟩
end Go.Proofs.YtfnlhfaihoojfaaDoor
