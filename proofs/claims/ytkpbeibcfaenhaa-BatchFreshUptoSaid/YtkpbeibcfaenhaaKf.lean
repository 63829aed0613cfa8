/- Signed, Signs, ApartC (merged by merge_k.py) -/
import Derived.Test.YtkpbeibcfaenhaaKc
import Derived.Test.YtkpbeibcfaenhaaKe
import Derived.Test.YtkpbeibcfaenhaaGe
/- ledgerlaw3.signed. -/
namespace Go.Proofs.Ytkpbeibcfaenhaa
open Go.RowKit
def sgKey (i k : Nat) : List Nat := [i % 256, i / 256 % 256, k % 256, k / 256 % 256] ++ zs 28
theorem sgKey_length (i k : Nat) : (sgKey i k).length = 32 := by simp [sgKey, zs]
theorem sgKey_isB (i k : Nat) : IsB (sgKey i k) := fun x hx => by
  simp only [sgKey, List.mem_append, List.mem_cons, List.not_mem_nil, or_false] at hx
  rcases hx with (rfl | rfl | rfl | rfl) | hx
  · omega
  · omega
  · omega
  · omega
  · exact zs_isB 28 x hx
def sgC (i k : Nat) : Chg := ⟨sgKey i k, true, []⟩
theorem built_key4 (a b c d : Int) : Try.prog.built 25 [(0, .int .u8 a), (1, .int .u8 b), (2, .int .u8 c), (3, .int .u8 d)] = some (([Value.int .u8 a, Value.int .u8 b, Value.int .u8 c, Value.int .u8 d] : List Value) ++ bvs (zs 28)).toArray := by kernel_rfl
theorem sgKey_cells (i k : Nat) : (bvs (sgKey i k)) = [.int .u8 ((i : Int) % 256), .int .u8 ((i : Int) / 256 % 256), .int .u8 ((k : Int) % 256), .int .u8 ((k : Int) / 256 % 256)] ++ bvs (zs 28) := by
  simp [sgKey, bvs, bv]
def SgPost (i k : Nat) (w : World) (e : Ending) (w' : World) : Prop := e = .returned (.agg (chC (sgC i k) none 0).toArray) ∧ Below w.heap.size w w'
set_option maxRecDepth 100000 in
set_option maxHeartbeats 1600000 in
theorem signed_any (i k : Nat) (w : World) (hi : i ≤ 1073741824) (hk : k ≤ 2147483648) :
    Calls Try.prog 56 #[.int .i64 i, .int .i64 k] w (SgPost i k w) := by
  have HC := Lib.hid (sgKey_cells i k)
  have HL := Lib.hid (sgKey_length i k)
  go_enter Try.func56, Try.ntmps56
  go_wp2_with (first
    | ((with_reducible refine stopAt (o := ⟨some 4, _, _, _, _, _⟩) ?_); refine allocNew (o := ⟨some 4, _, _, _, _, _⟩) (by rfl) 45 rfl _ _ info_chS ?_; intro w1 HA1 HW1 HS1)
    | ((with_reducible refine stopAt (o := ⟨some 15, _, _, _, _, _⟩) ?_); refine buildAt (o := ⟨some 15, _, _, _, _, _⟩) (by rfl) 25 #[(0, .tmp 6), (1, .tmp 9), (2, .tmp 11), (3, .tmp 14)] rfl [(0, .int .u8 ((i : Int) % 256)), (1, .int .u8 ((i : Int) / 256 % 256)), (2, .int .u8 ((k : Int) % 256)), (3, .int .u8 ((k : Int) / 256 % 256))] (by rfl) _ (built_key4 _ _ _ _) ?_; rw [← HC.out])
    | ((with_reducible refine stopAt (o := ⟨some 16, _, _, _, _, _⟩) ?_); refine buildAt (o := ⟨some 16, _, _, _, _, _⟩) (by rfl) 45 #[(0, .tmp 15), (1, .const (.bool true))] rfl [(0, .agg (bvs (sgKey i k)).toArray), (1, .bool true)] (by rfl) _ (built_ch2 HL.out) ?_)
    | ((with_reducible refine stopAt (o := ⟨none, .store _ (.tmp 4) _, _, _, _, _⟩) ?_); refine storeV (o := ⟨none, _, _, _, _, _⟩) (by rfl) 45 (.tmp 4) (.tmp 16) rfl w.heap.size (chS (sgKey i k) true (.slice none 0 0)) _ 45 rfl rfl HA1.out (by rw [size_chg, chS_length _ _ HL.out]) (by rw [chS_length _ _ (zs_length 32), chS_length _ _ HL.out]) (chS_one rfl) ?_; intro w2 HA2 HG2 HS2))
  refine cells_ret (g := w.heap.size) rfl rfl HA2.out row_chg (by rw [size_chg, chS_length _ _ HL.out]) rfl ?_
  exact ⟨rfl, HW1.out.grown HG2.out HW1.out.size fun k hk => by injection hk with hk; omega⟩
end Go.Proofs.Ytkpbeibcfaenhaa

/- ledgerlaw3.signs. (printed by gen_signs.py) -/
namespace Go.Proofs.Ytkpbeibcfaenhaa
open Go.RowKit
theorem chC_cellKey {x : Chg} : chC x none 0 = chS x.key x.del (.slice none x.val.length 0) := rfl
set_option maxRecDepth 100000 in
set_option maxHeartbeats 4000000 in
theorem signs_any (A : Option Addr) (N c : Nat) (ns : Nat → Nat) (w : World) (hL : ∀ i, i < N → ∃ g Ai ci, A = some ⟨g, 0, none⟩ ∧ w.cell? ⟨g, i, none⟩ = some (.slice Ai (ns i) ci) ∧ ChsAt w Ai (ns i) (sgC i)) (hn : N ≤ 1073741824) (hs : ∀ i, i < N → ns i ≤ 2147483648) :
    Calls Try.prog 57 #[.slice A N c] w fun e w' => e = .returned (.bool true) ∧ Below w.heap.size w w' := by
  have HL := Lib.hid hL
  have HS := Lib.hid hs
  have hu := und_key
  clear hL hs
  go_enter Try.func57, Try.ntmps57
  go_wp2_with fail
  go_loopw [3] (fun i wr => ∃ j : Nat, j ≤ N ∧ i = .int .i64 j ∧ Hid (Below w.heap.size w wr)) (fun i _ => N - (intOf i).toNat)
  case atStart => exact ⟨0, by omega, rfl, Below.refl _ _⟩
  case round =>
    obtain ⟨j, hj, rfl, HB⟩ := hrel
    obtain ⟨w1, rfl⟩ : ∃ w1, w1 = wr := ⟨_, rfl⟩
    by_cases hlt : j < N
    · have hlt' : (j : Int) < N := by omega
      obtain ⟨g, Ai, ci, rfl, r0, hr⟩ := HL.out j hlt
      have hnj := HS.out j hlt
      obtain ⟨n, hn'⟩ : ∃ n, ns j = n := ⟨_, rfl⟩
      rw [hn'] at r0 hr hnj
      have HR := Lib.hid hr
      have HR0 : Hid (∀ W, Below w.heap.size w W → W.cell? ⟨g, j, none⟩ = some (.slice Ai n ci)) := fun W hW => (hW.cell (p := ⟨g, j, none⟩) (World.block_lt_of_cell? w _ r0)).trans r0
      clear hr r0 hn'
      go_wp2_with fail
      go_loopw [4] (fun i wr => ∃ k : Nat, k ≤ n ∧ i = .int .i64 k ∧ Hid (Below w.heap.size w wr)) (fun i _ => n - (intOf i).toNat)
      case atStart => exact ⟨0, by omega, rfl, HB.out⟩
      case round =>
        clear HB
        obtain ⟨k, hk, rfl, HB⟩ := hrel
        obtain ⟨w2, rfl⟩ : ∃ w2, w2 = wr := ⟨_, rfl⟩
        have c0 := HR0.out w2 HB.out
        by_cases hlk : k < n
        · have hlk' : (k : Int) < n := by omega
          obtain ⟨b, o, Av, Cv, rfl, hb, hr, hkB, hkl, hvr, hvC, hCm, hnil⟩ := HR.out.2 k hlk
          have HRR : Hid (∀ W, Below w.heap.size w W → W.rangeAt b (o + k * 34) (bvs (sgKey j k)) ∧ W.cell? ⟨b, o + k * 34 + 32, none⟩ = some (.bool true) ∧ W.cell? ⟨b, o + k * 34 + 33, none⟩ = some (.slice Av 0 Cv)) := fun W hW =>
            have h2 := range_below hW hb hr
            ⟨ch_key h2, ch_del h2 hkl, ch_val h2 hkl⟩
          have HKl : Hid ((sgKey j k).length = 32) := hkl
          have hsz : (Try.prog.info? 25).map (·.size) = some (bvs (sgKey j k)).length := by rw [size_key]; simp [bvs, HKl.out]
          have hek : ∀ w, (Op.equalIn 10000 25 (.agg (bvs (sgKey j k)).toArray) (.agg (bvs (sgKey j k)).toArray)).run Try.prog w = .ok true w := fun w => by have h := key_eq w (sgKey j k) (sgKey j k) hkB hkB hkl hkl; rw [h]; simp
          clear hr hkB hkl hvr hvC hCm hnil hb
          go_wp2_with fail
          refine (signed_any j k w2 (by omega) (by omega)).mono ?_
          rintro e w3 ⟨rfl, hb3⟩
          have HB3 : Hid (Below w.heap.size w w3) := HB.out.trans (hb3.mono HB.out.size)
          have HZ : Hid ((chC (sgC j k) none 0).length = 34) := chC_length HKl.out
          have HCC : Hid (chC (sgC j k) none 0 = chS (sgKey j k) true (.slice none 0 0)) := rfl
          have HC1 : Hid (∀ v ∈ chC (sgC j k) none 0, v.oneCell' = true) := chC_one
          clear hb3
          generalize chC (sgC j k) none 0 = cc at *
          go_wp2_with (first
            | ((with_reducible refine stopAt (o := ⟨some 5, _, _, _, _, _⟩) ?_); refine allocNew (o := ⟨some 5, _, _, _, _, _⟩) (by rfl) 45 rfl _ _ info_chS ?_; intro w4 HA4 HW4 HS4)
            | ((with_reducible refine stopAt (o := ⟨none, .store _ (.tmp 5) _, _, _, _, _⟩) ?_); refine storeV (o := ⟨none, _, _, _, _, _⟩) (by rfl) 45 (.tmp 5) (.tmp 23) rfl w3.heap.size cc _ 45 rfl rfl HA4.out (by rw [size_chg, HZ.out]) (by rw [HZ.out, chS_length _ _ (zs_length 32)]) HC1.out ?_; intro w5 HA5 HG5 HS5))
          rename_i KK hKK
          have HKK := Lib.hid hKK
          clear hKK c0
          have HB5 : Hid (Below w.heap.size w w5) := (HB3.out.trans (HW4.out.mono HB3.out.size)).grown HG5.out (Nat.le_trans HB3.out.size HW4.out.size) fun q hq => by injection hq with hq; rw [← hq]; exact HB3.out.size
          have HA6 : Hid (w5.rangeAt w3.heap.size 0 (bvs (sgKey j k))) := by
            have h := BlkIs.range HA5.out
            rw [HCC.out] at h
            exact fun q v hq => h q v (by unfold chS; rw [List.getElem?_append_left (List.getElem?_eq_some_iff.1 hq).1]; exact hq)
          have hS : (w5.drew).cell? ⟨g, j, none⟩ = some (.slice (some ⟨b, o, none⟩) n ci) ∧ w5.drew.rangeAt b (o + k * 34) (bvs (sgKey j k)) ∧ w5.drew.cell? ⟨b, o + k * 34 + 32, none⟩ = some (.bool true) ∧ w5.drew.cell? ⟨b, o + k * 34 + 33, none⟩ = some (.slice Av 0 Cv) ∧ w5.drew.rangeAt w3.heap.size 0 (bvs (sgKey j k)) := ⟨HR0.out w5 HB5.out, (HRR.out w5 HB5.out).1, (HRR.out w5 HB5.out).2.1, (HRR.out w5 HB5.out).2.2, HA6.out⟩
          refine wp_region_held_drew (S := fun w' => w'.cell? ⟨g, j, none⟩ = some (.slice (some ⟨b, o, none⟩) n ci) ∧ w'.rangeAt b (o + k * 34) (bvs (sgKey j k)) ∧ w'.cell? ⟨b, o + k * 34 + 32, none⟩ = some (.bool true) ∧ w'.cell? ⟨b, o + k * 34 + 33, none⟩ = some (.slice Av 0 Cv) ∧ w'.rangeAt w3.heap.size 0 (bvs (sgKey j k))) (by kernel_rfl) hS fun hH => ?_
          have HB6 : Hid (Below w.heap.size w w5.drew) := HB5.out.trans (drewN_below (Below.refl _ _) 1)
          clear hS HA6 HB5 HA5 HG5 HS5
          generalize w5.drew = w6 at *
          generalize w3.heap.size = gc at *
          refine wpAnyH_take (i := 0) (oi := ⟨some 24, _, _, _, _, _⟩) rfl (by kernel_rfl) (by kernel_rfl) (by kernel_rfl) (fun _ _ _ h => h) (Or.inl ⟨by rfl, fun w hw => by ((try dsimp only at hw); go_split_ands; go_simp; with_reducible rfl)⟩) (by assumption) ?_
          try simp only [Act.put, List.setIfInBounds_toArray, List.set_cons_zero, List.set_cons_succ]
          refine wpAnyH_take (i := 1) (oi := ⟨some 25, _, _, _, _, _⟩) rfl (by kernel_rfl) (by kernel_rfl) (by kernel_rfl) (fun _ _ _ h => h) (Or.inl ⟨by rfl, fun w hw => by ((try dsimp only at hw); go_split_ands; go_simp; with_reducible rfl)⟩) (by assumption) ?_
          try simp only [Act.put, List.setIfInBounds_toArray, List.set_cons_zero, List.set_cons_succ]
          refine wpAnyH_take (i := 2) (oi := ⟨some 26, _, _, _, _, _⟩) rfl (by kernel_rfl) (by kernel_rfl) (by kernel_rfl) (fun _ _ _ h => h) (Or.inl ⟨by rfl, fun w hw => by ((try dsimp only at hw); go_split_ands; go_simp; with_reducible rfl)⟩) (by assumption) ?_
          try simp only [Act.put, List.setIfInBounds_toArray, List.set_cons_zero, List.set_cons_succ]
          refine wpAnyH_take (i := 3) (oi := ⟨some 27, _, _, _, _, _⟩) rfl (by kernel_rfl) (by kernel_rfl) (by kernel_rfl) (fun _ _ _ h => h) (Or.inl ⟨by rfl, fun w hw => by ((try dsimp only at hw); go_split_ands; go_simp; with_reducible rfl)⟩) (by assumption) ?_
          try simp only [Act.put, List.setIfInBounds_toArray, List.set_cons_zero, List.set_cons_succ]
          refine wpAnyH_take (i := 4) (oi := ⟨some 28, _, _, _, _, _⟩) rfl (by kernel_rfl) (by kernel_rfl) (by kernel_rfl) (fun _ _ _ h => h) (Or.inl ⟨by rfl, fun w hw => by ((try dsimp only at hw); go_split_ands; go_simp; with_reducible rfl)⟩) (by assumption) ?_
          try simp only [Act.put, List.setIfInBounds_toArray, List.set_cons_zero, List.set_cons_succ]
          refine wpAnyH_take (i := 5) (oi := ⟨some 29, _, _, _, _, _⟩) rfl (by kernel_rfl) (by kernel_rfl) (by kernel_rfl) (fun _ _ _ h => h) (Or.inl ⟨by rfl, fun w hw => by ((try dsimp only at hw); go_split_ands; go_simp; with_reducible rfl)⟩) (by assumption) ?_
          try simp only [Act.put, List.setIfInBounds_toArray, List.set_cons_zero, List.set_cons_succ]
          refine wpAnyH_take (i := 6) (oi := ⟨some 30, _, _, _, _, _⟩) rfl (by kernel_rfl) (by kernel_rfl) (by kernel_rfl) (fun _ _ _ h => h) (Or.inl ⟨by rfl, fun w hw => by ((try dsimp only at hw); go_split_ands; go_simp; with_reducible rfl)⟩) (by assumption) ?_
          try simp only [Act.put, List.setIfInBounds_toArray, List.set_cons_zero, List.set_cons_succ]
          refine wpAnyH_take (i := 7) (oi := ⟨some 31, _, _, _, _, _⟩) rfl (by kernel_rfl) (by kernel_rfl) (by kernel_rfl) (fun _ _ _ h => h) (yieldsIf_load_mid (by rfl) _ _ rfl _ _ rfl _ _ (fun w hw => by (try dsimp only at hw); go_split_ands; assumption) (by assumption) rfl (by assumption)) (by assumption) ?_
          try simp only [Act.put, List.setIfInBounds_toArray, List.set_cons_zero, List.set_cons_succ]
          refine wpAnyH_take (i := 8) (oi := ⟨some 32, _, _, _, _, _⟩) rfl (by kernel_rfl) (by kernel_rfl) (by kernel_rfl) (fun _ _ _ h => h) (Or.inl ⟨by rfl, fun w hw => by ((try dsimp only at hw); go_split_ands; go_simp; with_reducible rfl)⟩) (by assumption) ?_
          try simp only [Act.put, List.setIfInBounds_toArray, List.set_cons_zero, List.set_cons_succ]
          refine wpAnyH_take (i := 9) (oi := ⟨some 33, _, _, _, _, _⟩) rfl (by kernel_rfl) (by kernel_rfl) (by kernel_rfl) (fun _ _ _ h => h) (yieldsIf_load_mid (by rfl) _ _ rfl _ _ rfl _ _ (fun w hw => by (try dsimp only at hw); go_split_ands; assumption) (by assumption) rfl (by assumption)) (by assumption) ?_
          try simp only [Act.put, List.setIfInBounds_toArray, List.set_cons_zero, List.set_cons_succ]
          refine wpAnyH_ready (rs := [10]) (by kernel_rfl) (by simp) ?_
          refine AllReadyH.cons rfl (fun K hK => ?_) (AllReadyH.nil)
          go_simp
          refine hK.out _ _ hH (fun hH2 => ?_)
          clear hK hH
          refine wpAnyH_take (i := 11) (oi := ⟨some 35, _, _, _, _, _⟩) rfl (by kernel_rfl) (by kernel_rfl) (by kernel_rfl) (fun _ _ _ h => h) (Or.inl ⟨by rfl, fun w hw => by ((try dsimp only at hw); go_split_ands; go_simp; with_reducible rfl)⟩) (by assumption) ?_
          try simp only [Act.put, List.setIfInBounds_toArray, List.set_cons_zero, List.set_cons_succ]
          refine wpAnyH_take (i := 12) (oi := ⟨some 36, _, _, _, _, _⟩) rfl (by kernel_rfl) (by kernel_rfl) (by kernel_rfl) (fun _ _ _ h => h) (Or.inl ⟨by rfl, fun w hw => by ((try dsimp only at hw); go_split_ands; go_simp; with_reducible rfl)⟩) (by assumption) ?_
          try simp only [Act.put, List.setIfInBounds_toArray, List.set_cons_zero, List.set_cons_succ]
          refine wpAnyH_take (i := 13) (oi := ⟨some 37, _, _, _, _, _⟩) rfl (by kernel_rfl) (by kernel_rfl) (by kernel_rfl) (fun _ _ _ h => h) (Or.inl ⟨by rfl, fun w hw => by ((try dsimp only at hw); go_split_ands; go_simp; with_reducible rfl)⟩) (by assumption) ?_
          try simp only [Act.put, List.setIfInBounds_toArray, List.set_cons_zero, List.set_cons_succ]
          refine wpAnyH_take (i := 14) (oi := ⟨some 38, _, _, _, _, _⟩) rfl (by kernel_rfl) (by kernel_rfl) (by kernel_rfl) (fun _ _ _ h => h) (Or.inl ⟨by rfl, fun w hw => by ((try dsimp only at hw); go_split_ands; go_simp; with_reducible rfl)⟩) (by assumption) ?_
          try simp only [Act.put, List.setIfInBounds_toArray, List.set_cons_zero, List.set_cons_succ]
          refine wpAnyH_take (i := 15) (oi := ⟨some 39, _, _, _, _, _⟩) rfl (by kernel_rfl) (by kernel_rfl) (by kernel_rfl) (fun _ _ _ h => h) (Or.inl ⟨by rfl, fun w hw => by ((try dsimp only at hw); go_split_ands; go_simp; with_reducible rfl)⟩) (by assumption) ?_
          try simp only [Act.put, List.setIfInBounds_toArray, List.set_cons_zero, List.set_cons_succ]
          refine wpAnyH_take (i := 16) (oi := ⟨some 40, _, _, _, _, _⟩) rfl (by kernel_rfl) (by kernel_rfl) (by kernel_rfl) (fun _ _ _ h => h) (Or.inl ⟨by rfl, fun w hw => by ((try dsimp only at hw); go_split_ands; go_simp; with_reducible rfl)⟩) (by assumption) ?_
          try simp only [Act.put, List.setIfInBounds_toArray, List.set_cons_zero, List.set_cons_succ]
          refine wpAnyH_take (i := 17) (oi := ⟨some 41, _, _, _, _, _⟩) rfl (by kernel_rfl) (by kernel_rfl) (by kernel_rfl) (fun _ _ _ h => h) (Or.inl ⟨by rfl, fun w hw => by ((try dsimp only at hw); go_split_ands; go_simp; with_reducible rfl)⟩) (by assumption) ?_
          try simp only [Act.put, List.setIfInBounds_toArray, List.set_cons_zero, List.set_cons_succ]
          refine wpAnyH_take (i := 18) (oi := ⟨some 42, _, _, _, _, _⟩) rfl (by kernel_rfl) (by kernel_rfl) (by kernel_rfl) (fun _ _ _ h => h) (Or.inl ⟨by rfl, fun w hw => by ((try dsimp only at hw); go_split_ands; go_simp; with_reducible rfl)⟩) (by assumption) ?_
          try simp only [Act.put, List.setIfInBounds_toArray, List.set_cons_zero, List.set_cons_succ]
          refine wpAnyH_take (i := 19) (oi := ⟨some 43, _, _, _, _, _⟩) rfl (by kernel_rfl) (by kernel_rfl) (by kernel_rfl) (fun _ _ _ h => h) (Or.inl ⟨by rfl, fun w hw => by ((try dsimp only at hw); go_split_ands; go_simp; with_reducible rfl)⟩) (by assumption) ?_
          try simp only [Act.put, List.setIfInBounds_toArray, List.set_cons_zero, List.set_cons_succ]
          refine wpAnyH_take (i := 20) (oi := ⟨some 44, _, _, _, _, _⟩) rfl (by kernel_rfl) (by kernel_rfl) (by kernel_rfl) (fun _ _ _ h => h) (Or.inl ⟨by rfl, fun w hw => by ((try dsimp only at hw); go_split_ands; go_simp; with_reducible rfl)⟩) (by assumption) ?_
          try simp only [Act.put, List.setIfInBounds_toArray, List.set_cons_zero, List.set_cons_succ]
          refine wpAnyH_take (i := 21) (oi := ⟨some 45, _, _, _, _, _⟩) rfl (by kernel_rfl) (by kernel_rfl) (by kernel_rfl) (fun _ _ _ h => h) (Or.inl ⟨by rfl, fun w hw => by ((try dsimp only at hw); go_split_ands; go_simp; with_reducible rfl)⟩) (by assumption) ?_
          try simp only [Act.put, List.setIfInBounds_toArray, List.set_cons_zero, List.set_cons_succ]
          refine wpAnyH_take (i := 22) (oi := ⟨some 46, _, _, _, _, _⟩) rfl (by kernel_rfl) (by kernel_rfl) (by kernel_rfl) (fun _ _ _ h => h) (Or.inl ⟨by rfl, fun w hw => by ((try dsimp only at hw); go_split_ands; go_simp; with_reducible rfl)⟩) (by assumption) ?_
          try simp only [Act.put, List.setIfInBounds_toArray, List.set_cons_zero, List.set_cons_succ]
          refine wpAnyH_take (i := 23) (oi := ⟨some 47, _, _, _, _, _⟩) rfl (by kernel_rfl) (by kernel_rfl) (by kernel_rfl) (fun _ _ _ h => h) (Or.inl ⟨by rfl, fun w hw => by ((try dsimp only at hw); go_split_ands; go_simp; with_reducible rfl)⟩) (by assumption) ?_
          try simp only [Act.put, List.setIfInBounds_toArray, List.set_cons_zero, List.set_cons_succ]
          refine wpAnyH_take (i := 24) (oi := ⟨some 48, _, _, _, _, _⟩) rfl (by kernel_rfl) (by kernel_rfl) (by kernel_rfl) (fun _ _ _ h => h) (Or.inl ⟨by rfl, fun w hw => by ((try dsimp only at hw); go_split_ands; go_simp; with_reducible rfl)⟩) (by assumption) ?_
          try simp only [Act.put, List.setIfInBounds_toArray, List.set_cons_zero, List.set_cons_succ]
          refine wpAnyH_take (i := 25) (oi := ⟨some 49, _, _, _, _, _⟩) rfl (by kernel_rfl) (by kernel_rfl) (by kernel_rfl) (fun _ _ _ h => h) (Or.inl ⟨by rfl, fun w hw => by ((try dsimp only at hw); go_split_ands; go_simp; with_reducible rfl)⟩) (by assumption) ?_
          try simp only [Act.put, List.setIfInBounds_toArray, List.set_cons_zero, List.set_cons_succ]
          refine wpAnyH_take (i := 26) (oi := ⟨some 50, _, _, _, _, _⟩) rfl (by kernel_rfl) (by kernel_rfl) (by kernel_rfl) (fun _ _ _ h => h) (Or.inl ⟨by rfl, fun w hw => by ((try dsimp only at hw); go_split_ands; go_simp; with_reducible rfl)⟩) (by assumption) ?_
          try simp only [Act.put, List.setIfInBounds_toArray, List.set_cons_zero, List.set_cons_succ]
          refine wpAnyH_take (i := 27) (oi := ⟨some 51, _, _, _, _, _⟩) rfl (by kernel_rfl) (by kernel_rfl) (by kernel_rfl) (fun _ _ _ h => h) (Or.inl ⟨by rfl, fun w hw => by ((try dsimp only at hw); go_split_ands; go_simp; with_reducible rfl)⟩) (by assumption) ?_
          try simp only [Act.put, List.setIfInBounds_toArray, List.set_cons_zero, List.set_cons_succ]
          refine wpAnyH_take (i := 28) (oi := ⟨some 52, _, _, _, _, _⟩) rfl (by kernel_rfl) (by kernel_rfl) (by kernel_rfl) (fun _ _ _ h => h) (Or.inl ⟨by rfl, fun w hw => by ((try dsimp only at hw); go_split_ands; go_simp; with_reducible rfl)⟩) (by assumption) ?_
          try simp only [Act.put, List.setIfInBounds_toArray, List.set_cons_zero, List.set_cons_succ]
          refine wpAnyH_take (i := 29) (oi := ⟨some 53, _, _, _, _, _⟩) rfl (by kernel_rfl) (by kernel_rfl) (by kernel_rfl) (fun _ _ _ h => h) (Or.inl ⟨by rfl, fun w hw => by ((try dsimp only at hw); go_split_ands; go_simp; with_reducible rfl)⟩) (by assumption) ?_
          try simp only [Act.put, List.setIfInBounds_toArray, List.set_cons_zero, List.set_cons_succ]
          refine wpAnyH_take (i := 30) (oi := ⟨some 54, _, _, _, _, _⟩) rfl (by kernel_rfl) (by kernel_rfl) (by kernel_rfl) (fun _ _ _ h => h) (Or.inl ⟨by rfl, fun w hw => by ((try dsimp only at hw); go_split_ands; go_simp; with_reducible rfl)⟩) (by assumption) ?_
          try simp only [Act.put, List.setIfInBounds_toArray, List.set_cons_zero, List.set_cons_succ]
          refine wpAnyH_take (i := 31) (oi := ⟨some 55, _, _, _, _, _⟩) rfl (by kernel_rfl) (by kernel_rfl) (by kernel_rfl) (fun _ _ _ h => h) (Or.inl ⟨by rfl, fun w hw => by ((try dsimp only at hw); go_split_ands; go_simp; with_reducible rfl)⟩) (by assumption) ?_
          try simp only [Act.put, List.setIfInBounds_toArray, List.set_cons_zero, List.set_cons_succ]
          refine wpAnyH_take (i := 32) (oi := ⟨some 56, _, _, _, _, _⟩) rfl (by kernel_rfl) (by kernel_rfl) (by kernel_rfl) (fun _ _ _ h => h) (Or.inl ⟨by rfl, fun w hw => by ((try dsimp only at hw); go_split_ands; go_simp; with_reducible rfl)⟩) (by assumption) ?_
          try simp only [Act.put, List.setIfInBounds_toArray, List.set_cons_zero, List.set_cons_succ]
          refine wpAnyH_take (i := 33) (oi := ⟨some 57, _, _, _, _, _⟩) rfl (by kernel_rfl) (by kernel_rfl) (by kernel_rfl) (fun _ _ _ h => h) (Or.inl ⟨by rfl, fun w hw => by ((try dsimp only at hw); go_split_ands; go_simp; with_reducible rfl)⟩) (by assumption) ?_
          try simp only [Act.put, List.setIfInBounds_toArray, List.set_cons_zero, List.set_cons_succ]
          refine wpAnyH_done (by kernel_rfl) ?_ _
          change KK _ _
          refine HKK.out _ _ ?_
          clear HKK KK hH2 hsz hek
          go_wp2_with fail
          go_roundw
          case rel => exact ⟨k + 1, by omega, by go_num, HB6.out⟩
          case measure => simp [intOf]; omega
        · have hnlk : ¬ (k : Int) < n := by omega
          go_wp2_with fail
          go_roundw
          case rel => exact ⟨j + 1, by omega, by go_num, HB.out⟩
          case measure => simp [intOf]; omega
    · have hnlt : ¬ (j : Int) < N := by omega
      go_wp2_with fail
      go_ret
      exact ⟨rfl, HB.out⟩
end Go.Proofs.Ytkpbeibcfaenhaa

/- ledgerlaw3.rows.apart. (printed by gen_apartc.py) -/
namespace Go.Proofs.Ytkpbeibcfaenhaa
open Go.RowKit
def mC (i k : Nat) : List Value := chC (sgC i k) none 0
theorem mC_length (i k : Nat) : (mC i k).length = 34 := chC_length (sgKey_length i k)
theorem ml_flat (i n : Nat) : ml mC i n = flat (sgC i) (fun _ => none) (fun _ => 0) n := by
  induction n with
  | zero => rfl
  | succ n ih => rw [ml, flat, ih]; rfl
theorem sg_own {w : World} {base n i : Nat} {v : Value} (h : w.ownsRow base 45 34 v n (ml mC i n)) : ∃ A c, v = .slice A n c ∧ ChsAt w A n (sgC i) := by
  rw [ml_flat] at h
  have h1 : ChsOwn w base v n (sgC i) (fun _ => none) (fun _ => 0) := { own := h, key := fun k _ => ⟨sgKey_isB i k, sgKey_length i k⟩, val := fun k _ => ⟨RB.nil _ _, Nat.le_refl _, Nat.zero_le _, fun _ => rfl⟩, apart := fun k _ h0 => by exact absurd h0 (by simp [sgC]) }
  obtain ⟨A, c, e, hc, _⟩ := h1.form
  exact ⟨A, c, e, hc⟩
theorem readyC {w : World} {base gb fo c : Nat} {A : Option Addr} {L : List Value} {ns : Nat → Nat} (hs : Spn w gb fo A c L) (ho : OwnAll w base 45 34 L ns fun j => ml mC j (ns j)) :
    ∀ i, i < L.length → ∃ g Ai ci, A = some ⟨g, 0, none⟩ ∧ w.cell? ⟨g, i, none⟩ = some (.slice Ai (ns i) ci) ∧ ChsAt w Ai (ns i) (sgC i) := fun i hi => by
  obtain ⟨g, h1, _, _, h4⟩ := hs.at_ i hi
  have hv : L[i]? = some L[i] := List.getElem?_eq_getElem hi
  obtain ⟨Ai, ci, e, hr⟩ := sg_own (ho i _ hv)
  exact ⟨g, Ai, ci, h1, by rw [h4, hv, e], hr⟩
theorem readyGC {w : World} {base M0 : Nat} {T : TypeId} {gv : Value} {L Gl : List Value} {ns : Nat → Nat} {N : Nat} (hN : L.length = N) (hG : Gl.length = N) (hr : w.ownsRow M0 T 1 gv Gl.length Gl)
    (hd : ∀ (j : Nat) (v u : Value), j < N → L[j]? = some v → Gl[j]? = some u → w.ownsRow base 45 34 v (ns j) (ml mC j (ns j)) ∧ w.ownsRow base 45 34 u (ns j + 300) (ml mC j (ns j + 300))) :
    ∃ A c, gv = .slice A N c ∧ ∀ i, i < N → ∃ g Ai ci, A = some ⟨g, 0, none⟩ ∧ w.cell? ⟨g, i, none⟩ = some (.slice Ai (ns i + 300) ci) ∧ ChsAt w Ai (ns i + 300) (sgC i) := by
  obtain ⟨A, c, e, _⟩ := rowV_form hr
  rw [hG] at e
  refine ⟨A, c, e, fun i hi => ?_⟩
  obtain ⟨g, c', e', _, h4⟩ := rowV_at hr (i := i) (by omega)
  have hv : L[i]? = some (L[i]'(by omega)) := List.getElem?_eq_getElem (by omega)
  have hu : Gl[i]? = some (Gl[i]'(by omega)) := List.getElem?_eq_getElem (by omega)
  obtain ⟨Ai, ci, e6, hr6⟩ := sg_own (hd i _ _ hi hv hu).2
  rw [e] at e'
  exact ⟨g, Ai, ci, (slice_inj e').1, by rw [h4, hu, e6], hr6⟩
theorem splice_take {α : Type} {L cs : List α} {o m : Nat} (h : o + cs.length ≤ m) (hm : m ≤ L.length) : (splice L o cs).take m = splice (L.take m) o cs := by
  have h1 := splice_in (L := L.take m) (M := L.drop m) (cs := cs) (o := o) (by rw [List.length_take]; omega)
  rw [List.take_append_drop] at h1
  rw [h1, List.take_append_of_le_length (by rw [show (splice (L.take m) o cs).length = (L.take m).length by unfold splice; simp only [List.length_append, List.length_take, List.length_drop]; omega, List.length_take]; omega)]
  exact List.take_of_length_le (by unfold splice; simp only [List.length_append, List.length_take, List.length_drop]; omega)
/-- A change is stored into a row of them. -/
theorem wpOp_storeC {w : World} {ops : Array Oper} {Q : Exit → Act → World → Prop} {K : Act → World → Prop} {o : Oper} {a : Act} (hw : Region.wanted o (yielded ops a.tmps) = true) (ty : TypeId) (x y : Operand) (ho : o.op = .store ty x y) {base g n c k : Nat} {cs us : List Value}
    (hown : w.ownsRow base 45 34 (.slice (some ⟨g, 0, none⟩) n c) n cs) (hk : k < n) (hx : a.eval x = .pointer (some ⟨g, k * 34, none⟩)) (hy : a.eval y = .agg us.toArray) (hul : us.length = 34) (h1 : ∀ v ∈ us, v.oneCell' = true) (hty : ty = 45)
    (h : ∀ w', w'.ownsRow base 45 34 (.slice (some ⟨g, 0, none⟩) n c) n (splice cs (k * 34) us) → w.grownBy w' (some g) → K (a.put o.dst undef) w') :
    if Region.wanted o (yielded ops a.tmps) = true then o.wp Try.prog a w K Q else K (a.put o.dst undef) w := by
  subst hty
  rcases hown.2 with ⟨e, _⟩ | ⟨g', cap, cur, e, hb, hblk, hnc, hcm, hsz, ht⟩
  · cases e
  · injection e with e1 _ e3
    injection e1 with e1
    injection e1 with e1
    subst e1 e3
    have hlc : cur.toList.length = c * 34 := by rw [Array.length_toList, hsz]
    have hkc : k * 34 + 34 ≤ n * 34 := by omega
    have hnc' : n * 34 ≤ c * 34 := by omega
    refine wpOp_storeMid hw _ x y ho g (k * 34) us cur.toList 45 hx hy (show _ = _ by rw [Array.toArray_toList]; exact hblk) (by rw [size_chg, hul]) (by omega) h1 fun w' hb' hg' _ => h w' ⟨?_, .inr ⟨g, c, _, rfl, hb, hb'.out, hnc, hcm, ?_, ?_⟩⟩ hg'.out
    · have h2 := hown.1
      unfold splice
      simp only [List.length_append, List.length_take, List.length_drop]
      omega
    · unfold splice
      simp only [List.size_toArray, List.length_append, List.length_take, List.length_drop]
      omega
    · show List.take (n * 34) (List.toArray _).toList = _
      rw [splice_take (by omega) (by omega), ht]
def ApPostC (U : Nat → Prop) (w : World) (e : Ending) (w' : World) : Prop := e = .returned (.bool true) ∧ Touch U w w'
set_option maxRecDepth 100000 in
set_option maxHeartbeats 4000000 in
theorem apartC_any (base gb cB c : Nat) (AB A : Option Addr) (LB L : List Value) (nsB ns : Nat → Nat) (ctB ct : Nat → List Value) (w : World) (hsB : Spn w gb 0 AB cB LB) (hoB : OwnAll w base 5 1 LB nsB ctB) (haB : AptAll LB) (hnB : LB.length ≤ 1073741824) (hmC : ∀ i, i < LB.length → nsB i ≤ 1073741824)
    (hx : ∀ W, Touch (BlkOf LB) w W → Spn W gb 2 A c L ∧ OwnAll W base 45 34 L ns ct) (ha : AptAll L) (hn : L.length ≤ 67108864) (hm : ∀ i, i < L.length → ns i ≤ 67108864) (hb : base ≤ w.heap.size) :
    Calls Try.prog 41 #[.pointer (some ⟨gb, 0, none⟩)] w (ApPostC (fun B => BlkOf LB B ∨ BlkOf L B) w) := by
  obtain ⟨N, hN⟩ : ∃ N, L.length = N := ⟨_, rfl⟩
  have HN := Lib.hid hN
  have HA := Lib.hid ha
  have HM : Hid (∀ i, i < N → ns i ≤ 67108864) := by rw [← hN]; exact hm
  have HAB := Lib.hid (apartB_any base gb cB AB LB nsB ctB w hsB hoB haB hnB hmC hb)
  have HX := Lib.hid hx
  rw [hN] at hn
  clear hsB hoB haB hnB hmC hx ha hm hN
  go_enter Try.func41, Try.ntmps41
  go_wp2_with fail
  refine HAB.out.mono ?_
  rintro e wb ⟨rfl, htb⟩
  have HTB := Lib.hid htb
  have hbb : base ≤ wb.heap.size := Nat.le_trans hb htb.size
  obtain ⟨hs, ho⟩ := HX.out wb htb
  have HS := Lib.hid hs
  have HO0 : Hid (OwnAll wb base 45 34 L ns (Fk mC 34 ns ct 0 0)) := Fk_start ho
  have HC : Hid (∀ i, i < N → (ct i).length = ns i * 34) := fun i hi => (ho i _ (List.getElem?_eq_getElem (by have := HN.out; omega))).1
  have HR : Hid (∀ W, Touch (BlkOf L) wb W → W.cell? ⟨gb, 2, none⟩ = some (.slice A N c)) := fun W hW => by rw [← HN.out]; exact (hs.touch hW).head
  clear htb hs ho HX HAB hb
  go_wp2_with fail
  go_loopw [3] (fun i wr => ∃ j : Nat, j ≤ N ∧ i = .int .i64 j ∧ Hid (OwnAll wr base 45 34 L ns (Fk mC 34 ns ct j 0)) ∧ Hid (Touch (BlkOf L) wb wr)) (fun i _ => N - (intOf i).toNat)
  case atStart => exact ⟨0, by omega, rfl, HO0.out, Touch.refl _ _⟩
  case round =>
    clear HO0
    obtain ⟨j, hj, rfl, HO, HT⟩ := hrel
    obtain ⟨w1, rfl⟩ : ∃ w1, w1 = wr := ⟨_, rfl⟩
    have c0 := HR.out w1 HT.out
    by_cases hlt : j < N
    · have hlt' : (j : Int) < N := by omega
      have hjL : j < L.length := by rw [HN.out]; exact hlt
      obtain ⟨g0, rfl, hg0, hng0, hc0⟩ := HS.out.at_ j hjL
      obtain ⟨v, hv⟩ : ∃ v, L[j]? = some v := ⟨_, List.getElem?_eq_getElem hjL⟩
      have HV := Lib.hid hv
      obtain ⟨Av, cv, ev, _⟩ := rowV_form (Fk_row HO.out hv)
      have HEV := Lib.hid ev
      have HCt := Lib.hid (HC.out j hlt)
      have hnj := HM.out j hlt
      obtain ⟨n, hn'⟩ : ∃ n, ns j = n := ⟨_, rfl⟩
      have HNJ := Lib.hid hn'
      rw [hn'] at HEV HCt hnj
      rw [hv, HEV.out] at hc0
      have HR0 : Hid (∀ W, Touch (BlkOf L) wb W → W.cell? ⟨g0, j, none⟩ = some (.slice Av n cv)) := fun W hW => (hW.cell (p := ⟨g0, j, none⟩) hg0 hng0).trans hc0
      have HNE : Hid (∀ W, Touch (BlkOf L) wb W → ∀ u, (Value.slice Av n cv).ownBlock = some u → u ≠ gb ∧ u ≠ g0) := fun W hW u hu => ⟨fun e => HS.out.ng (by rw [← e]; exact ⟨j, v, hv, by rw [HEV.out]; exact hu⟩), fun e => hng0 (by rw [← e]; exact ⟨j, v, hv, by rw [HEV.out]; exact hu⟩)⟩
      clear hv ev hn' hc0 hjL hng0 hg0
      go_wp2_with fail
      go_loopw [4] (fun i wr => ∃ k : Nat, k ≤ n ∧ i = .int .i64 k ∧ Hid (OwnAll wr base 45 34 L ns (Fk mC 34 ns ct j k)) ∧ Hid (Touch (BlkOf L) wb wr)) (fun i _ => n - (intOf i).toNat)
      case atStart => exact ⟨0, by omega, rfl, HO.out, HT.out⟩
      case round =>
        clear HO HT c0
        obtain ⟨k, hk, rfl, HO, HT⟩ := hrel
        obtain ⟨w2, rfl⟩ : ∃ w2, w2 = wr := ⟨_, rfl⟩
        have c0 := HR.out w2 HT.out
        have r0 := HR0.out w2 HT.out
        by_cases hlk : k < n
        · have hlk' : (k : Int) < n := by omega
          have hrow := Fk_row HO.out HV.out
          rw [HNJ.out, HEV.out] at hrow
          obtain ⟨gi, rfl⟩ : ∃ gi, Av = some ⟨gi, 0, none⟩ := by
            rcases hrow.2 with ⟨_, h0⟩ | ⟨g, _, _, e1, _⟩
            · omega
            · exact ⟨g, by injection e1⟩
          have HD2 : Hid (OwnAll w2.drew base 45 34 L ns (Fk mC 34 ns ct j k)) := HO.out
          have HT2 : Hid (Touch (BlkOf L) wb w2.drew) := HT.out.trans (Touch.ofBelow (drewN_below (Below.refl _ _) 1))
          have hrow2 : w2.drew.ownsRow base 45 34 (.slice (some ⟨gi, 0, none⟩) n cv) n (mixed mC 34 j (ct j) k) := hrow
          have HRW := Lib.hid hrow2
          have c02 : w2.drew.cell? ⟨gb, 2, none⟩ = some (.slice (some ⟨g0, 0, none⟩) N c) := c0
          have r02 : w2.drew.cell? ⟨g0, j, none⟩ = some (.slice (some ⟨gi, 0, none⟩) n cv) := r0
          clear hrow hrow2 HO HT
          go_wp2_with fail
          rename_i KK hKK
          have HKK := Lib.hid hKK
          clear hKK c0 r0
          refine wp_region_upTo (S := fun w' => w'.cell? ⟨gb, 2, none⟩ = some (.slice (some ⟨g0, 0, none⟩) N c) ∧ w'.cell? ⟨g0, j, none⟩ = some (.slice (some ⟨gi, 0, none⟩) n cv)) 12 (by kernel_rfl) ⟨c02, r02⟩ fun hH => ?_
          generalize w2.drew = w3 at *
          refine wpAnyU_take (i := 0) (oi := ⟨some 35, _, _, _, _, _⟩) [1, 2, 3, 5, 6, 11, 12] rfl (by kernel_rfl) (by kernel_rfl) (by kernel_rfl) (fun _ _ _ h => h) (by kernel_rfl) (by kernel_rfl) (by kernel_rfl) (Or.inl ⟨by rfl, fun w hw => by ((try dsimp only at hw); go_split_ands; go_simp; with_reducible rfl)⟩) (by assumption) ?_
          try simp only [Act.put, List.setIfInBounds_toArray, List.set_cons_zero, List.set_cons_succ]
          refine wpAnyU_take (i := 1) (oi := ⟨some 36, _, _, _, _, _⟩) [2, 3, 5, 6, 11, 12] rfl (by kernel_rfl) (by kernel_rfl) (by kernel_rfl) (fun _ _ _ h => h) (by kernel_rfl) (by kernel_rfl) (by kernel_rfl) (Or.inl ⟨by rfl, fun w hw => by ((try dsimp only at hw); go_split_ands; go_simp; with_reducible rfl)⟩) (by assumption) ?_
          try simp only [Act.put, List.setIfInBounds_toArray, List.set_cons_zero, List.set_cons_succ]
          refine wpAnyU_take (i := 2) (oi := ⟨some 37, _, _, _, _, _⟩) [3, 5, 6, 11, 12] rfl (by kernel_rfl) (by kernel_rfl) (by kernel_rfl) (fun _ _ _ h => h) (by kernel_rfl) (by kernel_rfl) (by kernel_rfl) (Or.inl ⟨by rfl, fun w hw => by ((try dsimp only at hw); go_split_ands; go_simp; with_reducible rfl)⟩) (by assumption) ?_
          try simp only [Act.put, List.setIfInBounds_toArray, List.set_cons_zero, List.set_cons_succ]
          refine wpAnyU_take (i := 3) (oi := ⟨some 38, _, _, _, _, _⟩) [5, 6, 11, 12] rfl (by kernel_rfl) (by kernel_rfl) (by kernel_rfl) (fun _ _ _ h => h) (by kernel_rfl) (by kernel_rfl) (by kernel_rfl) (Or.inl ⟨by rfl, fun w hw => by ((try dsimp only at hw); go_split_ands; go_simp; with_reducible rfl)⟩) (by assumption) ?_
          try simp only [Act.put, List.setIfInBounds_toArray, List.set_cons_zero, List.set_cons_succ]
          refine wpAnyU_take (i := 4) (oi := ⟨some 39, _, _, _, _, _⟩) [5, 6, 11, 12] rfl (by kernel_rfl) (by kernel_rfl) (by kernel_rfl) (fun _ _ _ h => h) (by kernel_rfl) (by kernel_rfl) (by kernel_rfl) (Or.inl ⟨by rfl, fun w hw => by ((try dsimp only at hw); go_split_ands; go_simp; with_reducible rfl)⟩) (by assumption) ?_
          try simp only [Act.put, List.setIfInBounds_toArray, List.set_cons_zero, List.set_cons_succ]
          refine wpAnyU_take (i := 5) (oi := ⟨some 40, _, _, _, _, _⟩) [6, 11, 12] rfl (by kernel_rfl) (by kernel_rfl) (by kernel_rfl) (fun _ _ _ h => h) (by kernel_rfl) (by kernel_rfl) (by kernel_rfl) (Or.inl ⟨by rfl, fun w hw => by ((try dsimp only at hw); go_split_ands; go_simp; with_reducible rfl)⟩) (by assumption) ?_
          try simp only [Act.put, List.setIfInBounds_toArray, List.set_cons_zero, List.set_cons_succ]
          refine wpAnyU_take (i := 6) (oi := ⟨some 41, _, _, _, _, _⟩) [11, 12] rfl (by kernel_rfl) (by kernel_rfl) (by kernel_rfl) (fun _ _ _ h => h) (by kernel_rfl) (by kernel_rfl) (by kernel_rfl) (Or.inl ⟨by rfl, fun w hw => by ((try dsimp only at hw); go_split_ands; go_simp; with_reducible rfl)⟩) (by assumption) ?_
          try simp only [Act.put, List.setIfInBounds_toArray, List.set_cons_zero, List.set_cons_succ]
          refine wpAnyU_take (i := 7) (oi := ⟨some 42, _, _, _, _, _⟩) [11, 12] rfl (by kernel_rfl) (by kernel_rfl) (by kernel_rfl) (fun _ _ _ h => h) (by kernel_rfl) (by kernel_rfl) (by kernel_rfl) (Or.inl ⟨by rfl, fun w hw => by ((try dsimp only at hw); go_split_ands; go_simp; with_reducible rfl)⟩) (by assumption) ?_
          try simp only [Act.put, List.setIfInBounds_toArray, List.set_cons_zero, List.set_cons_succ]
          refine wpAnyU_take (i := 8) (oi := ⟨some 43, _, _, _, _, _⟩) [10, 11, 12] rfl (by kernel_rfl) (by kernel_rfl) (by kernel_rfl) (fun _ _ _ h => h) (by kernel_rfl) (by kernel_rfl) (by kernel_rfl) (Or.inl ⟨by rfl, fun w hw => by ((try dsimp only at hw); go_split_ands; go_simp; with_reducible rfl)⟩) (by assumption) ?_
          try simp only [Act.put, List.setIfInBounds_toArray, List.set_cons_zero, List.set_cons_succ]
          refine wpAnyU_take (i := 9) (oi := ⟨some 44, _, _, _, _, _⟩) [10, 11, 12] rfl (by kernel_rfl) (by kernel_rfl) (by kernel_rfl) (fun _ _ _ h => h) (by kernel_rfl) (by kernel_rfl) (by kernel_rfl) (Or.inl ⟨by rfl, fun w hw => by ((try dsimp only at hw); go_split_ands; go_simp; with_reducible rfl)⟩) (by assumption) ?_
          try simp only [Act.put, List.setIfInBounds_toArray, List.set_cons_zero, List.set_cons_succ]
          refine wpAnyU_one (i := 10) (by kernel_rfl) rfl (fun K hK => ?_)
          go_simp
          refine (signed_any j k w3 (by omega) (by omega)).mono ?_
          rintro e w4 ⟨rfl, hb4⟩
          have HB4 := Lib.hid hb4
          have c04 : w4.cell? ⟨gb, 2, none⟩ = some (.slice (some ⟨g0, 0, none⟩) N c) := (hb4.cell (p := ⟨gb, 2, none⟩) (World.block_lt_of_cell? w3 _ c02)).trans c02
          have r04 : w4.cell? ⟨g0, j, none⟩ = some (.slice (some ⟨gi, 0, none⟩) n cv) := (hb4.cell (p := ⟨g0, j, none⟩) (World.block_lt_of_cell? w3 _ r02)).trans r02
          have HRW4 := Lib.hid (HRW.out.kept (grown_of_below hb4 none) (by simp [Value.ownBlock]))
          have HZ : Hid ((mC j k).length = 34) := mC_length j k
          have HC1 : Hid (∀ v ∈ mC j k, v.oneCell' = true) := chC_one
          have HMX : Hid (splice (mixed mC 34 j (ct j) k) (k * 34) (mC j k) = mixed mC 34 j (ct j) (k + 1)) := mixed_next mC_length
          change Hid (∀ v ∈ mC j k, v.oneCell' = true) at HC1
          rw [show chC (sgC j k) none 0 = mC j k from rfl]
          have hS4 := And.intro c04 r04
          refine hK.out _ _ (fun _ => hS4) ?_
          clear hK hb4 c02 r02 HRW c04 r04
          generalize mC j k = cc at *
          refine wpAnyU_take (i := 11) (oi := ⟨some 46, _, _, _, _, _⟩) [12] rfl (by kernel_rfl) (by kernel_rfl) (by kernel_rfl) (fun _ _ _ h => h) (by kernel_rfl) (by kernel_rfl) (by kernel_rfl) (Or.inl ⟨by rfl, fun w hw => by ((try dsimp only at hw); go_split_ands; go_simp; with_reducible rfl)⟩) (by assumption) ?_
          try simp only [Act.put, List.setIfInBounds_toArray, List.set_cons_zero, List.set_cons_succ]
          refine wpAnyU_one (i := 12) (by kernel_rfl) rfl (fun K hK => ?_)
          refine wpOp_storeC (o := ⟨none, _, _, _, _, _⟩) ?hw 45 (.tmp 46) (.tmp 45) rfl HRW4.out hlk ?hx ?hy HZ.out HC1.out rfl ?hh
          case hw => kernel_rfl
          case hx => rfl
          case hy => rfl
          intro w5 ho5 hg5
          refine hK.out _ _ (fun h => by cases h) ?_
          refine wpAnyU_done (by kernel_rfl) ?_ _
          clear hK hH hS4
          change KK _ _
          refine HKK.out _ _ ?_
          clear HKK KK
          have hT5 : Touch (fun B => (Value.slice (some ⟨gi, 0, none⟩) n cv).ownBlock = some B) w4 w5 := (Touch.grown hg5).mono fun q _ hq => hq.symm
          have HO5 : Hid (OwnAll w5 base 45 34 L ns (Fk mC 34 ns ct j (k + 1))) := Fk_step (fun i u hu => (HD2.out i u hu).kept (grown_of_below HB4.out none) (by cases u.ownBlock <;> simp)) HA.out HV.out (by rw [HEV.out]; exact hT5) (by rw [HNJ.out, HEV.out, ← HMX.out]; exact ho5)
          have HT5 : Hid (Touch (BlkOf L) wb w5) := (HT2.out.trans (Touch.ofBelow HB4.out)).trans (hT5.mono fun B _ hB => ⟨j, v, HV.out, by rw [HEV.out]; exact hB⟩)
          clear HD2 HT2 ho5 hg5 hT5
          go_wp2_with fail
          go_roundw
          case rel => exact ⟨k + 1, by omega, by go_num, HO5.out, HT5.out⟩
          case measure => simp [intOf]; omega
        · have hnlk : ¬ (k : Int) < n := by omega
          have HO5 : Hid (OwnAll w2 base 45 34 L ns (Fk mC 34 ns ct (j + 1) 0)) := Fk_next (by rw [HNJ.out]; have h := HO.out; rwa [show k = n by omega] at h) (by rw [HNJ.out]; exact HCt.out)
          go_wp2_with fail
          go_roundw
          case rel => exact ⟨j + 1, by omega, by go_num, HO5.out, HT.out⟩
          case measure => simp [intOf]; omega
    · have hnlt : ¬ (j : Int) < N := by omega
      obtain rfl : j = N := by omega
      have HW : Hid (OwnAll w1 base 45 34 L ns fun i => ml mC i (ns i)) := fun i v hv => by
        have h := HO.out i v hv
        have hi := (List.getElem?_eq_some_iff.1 hv).1
        unfold Fk at h
        rwa [if_pos (by have := HN.out; omega)] at h
      have HS1 := Lib.hid (HS.out.touch HT.out)
      clear HO HC
      have HRd := Lib.hid (readyC HS1.out HW.out)
      rw [HN.out] at HRd
      go_wp2_with fail
      refine (signs_any A j c ns w1 HRd.out (by omega) (fun i hi => by have := HM.out i hi; omega)).mono ?_
      rintro e w2 ⟨rfl, hq⟩
      have HB2 := Lib.hid hq
      have HT2 : Hid (Touch (BlkOf L) wb w2) := HT.out.trans (Touch.ofBelow HB2.out)
      have HS2 := Lib.hid (HS.out.touch HT2.out)
      have HG0 : Hid (Gs w2 w2 base 45 34 mC 30 L ns 0 (.slice none 0 0) []) := Gs.start fun i v hv => (HW.out i v hv).kept (grown_of_below HB2.out none) (by cases v.ownBlock <;> simp)
      clear hq HB2 HS1 HW HRd c0 HT
      go_wp2_with fail
      go_loopw [5, 6] (fun gv i wr => ∃ (m : Nat) (Gl : List Value) (Ag : Option Addr) (cg : Nat), m ≤ j ∧ i = .int .i64 m ∧ gv = .slice Ag m cg ∧ Hid (Gs w2 wr base 45 34 mC 30 L ns m (.slice Ag m cg) Gl)) (fun _ i _ => j - (intOf i).toNat)
      case atStart => exact ⟨0, [], none, 0, by omega, rfl, rfl, HG0.out⟩
      case round =>
        clear HG0
        obtain ⟨m, Gl, Ag, cg, hm, rfl, rfl, HG⟩ := hrel
        obtain ⟨y, rfl⟩ : ∃ y, y = wr := ⟨_, rfl⟩
        have HTy : Hid (Touch (BlkOf L) wb y) := HT2.out.trans HG.out.touch
        have c0 := HR.out y HTy.out
        by_cases hlm : m < j
        · have hlm' : (m : Int) < j := by omega
          have hmL : m < L.length := by rw [HN.out]; exact hlm
          obtain ⟨g0, rfl, hg0, hng0, hc0⟩ := (HS.out.touch HTy.out).at_ m hmL
          obtain ⟨v, hv⟩ : ∃ v, L[m]? = some v := ⟨_, List.getElem?_eq_getElem hmL⟩
          have HV := Lib.hid hv
          obtain ⟨Av, cv, ev, _⟩ := rowV_form (HG.out.own m v (Nat.le_refl _) hv)
          have HK0 := Lib.hid (Gk.start (HG.out.own m v (Nat.le_refl _) hv))
          have HEV := Lib.hid ev
          have hnj := HM.out m hlm
          rw [hv, ev] at hc0
          rw [ev] at HK0 HV
          obtain ⟨n, hn'⟩ : ∃ n, ns m = n := ⟨_, rfl⟩
          have HNJ := Lib.hid hn'
          rw [hn'] at HK0 hnj hc0 HV
          clear hv ev hn' hmL hng0 hg0 HEV v
          have hby : base ≤ y.heap.size := Nat.le_trans hbb HTy.out.size
          go_wp2_with fail
          go_loopw [7, 8] (fun g kk wr => ∃ (k : Nat) (Ak : Option Addr) (ck : Nat), k ≤ 300 ∧ kk = .int .i64 k ∧ g = .slice Ak (n + k) ck ∧ Hid (Gk y wr base 45 34 mC m n (.slice Av n cv) k (.slice Ak (n + k) ck))) (fun _ kk _ => 300 - (intOf kk).toNat)
          case atStart => exact ⟨0, Av, cv, by omega, rfl, rfl, HK0.out⟩
          case round =>
            clear HK0 hc0 c0
            obtain ⟨k, Ak, ck, hk, rfl, rfl, HK⟩ := hrel
            obtain ⟨z, rfl⟩ : ∃ z, z = wr := ⟨_, rfl⟩
            have hbz : base ≤ z.heap.size := Nat.le_trans hby HK.out.touch.size
            obtain ⟨p, hp⟩ : ∃ p, n + k = p := ⟨_, rfl⟩
            have HPK := Lib.hid hp
            have hp2 : p ≤ 1073742124 := by omega
            rw [hp]
            have hown := HK.out.own
            rw [hp] at hown
            have HOW := Lib.hid hown
            clear hp hown
            by_cases hlk : k < 300
            · have hlk' : (k : Int) < 300 := by omega
              go_wp2_with fail
              refine (signed_any m p z (by omega) (by omega)).mono ?_
              rintro e z1 ⟨rfl, hb1⟩
              have HK1 := Lib.hid (HK.out.below hb1)
              have HOW1 := Lib.hid (HOW.out.kept (grown_of_below hb1 none) (by cases (Value.slice Ak p ck).ownBlock <;> simp))
              have hbz1 : base ≤ z1.heap.size := Nat.le_trans hbz hb1.size
              have HZ : Hid ((mC m p).length = 34) := mC_length m p
              have HC1 : Hid (∀ v ∈ mC m p, v.oneCell' = true) := chC_one
              rw [show chC (sgC m p) none 0 = mC m p from rfl]
              have HMS : Hid (ml mC m p ++ mC m p = ml mC m (p + 1)) := rfl
              clear hb1 HOW HK
              generalize mC m p = cc at *
              go_wp2_with (first
                | ((with_reducible refine stopAt (o := ⟨some 78, _, _, _, _, _⟩) ?_); refine buildSlice1 (o := ⟨some 78, _, _, _, _, _⟩) rfl z1 30 45 _ 34 (.tmp 77) rfl und_chl info_chg (by decide) (by decide) cc.toArray rfl (by rw [List.size_toArray, HZ.out]) ?_)
                | ((with_reducible refine stopAt (o := ⟨some 79, _, _, _, _, _⟩) ?_); refine appendS (o := ⟨some 79, _, _, _, _, _⟩) und_chl info_chg3 rfl (by decide) z1 rfl (.tmp 73) (.tmp 78) rfl base _ p _ HOW1.out cc _ rfl HZ.out HC1.out rfl rfl (by omega) (by omega) hbz1 ?_; intro g' z2 ho2 hg2 hl2 hs2; obtain ⟨Ak', ck', eg', _⟩ := rowV_form ho2; rw [HMS.out] at ho2; have HK2 := Lib.hid (show _ ∧ _ ∧ _ ∧ _ from ⟨ho2, hg2, hl2, hs2⟩); clear ho2 hg2 hl2 hs2; subst eg'))
              have HKn : Hid (Gk y z2 base 45 34 mC m n (.slice Av n cv) (k + 1) (.slice Ak' (p + 1) ck')) := by
                have e1 := HPK.out
                subst e1
                exact HK1.out.next HK2.out.1 HK2.out.2.1 HK2.out.2.2.1 HK2.out.2.2.2
              have hpe : p + 1 = n + (k + 1) := by have := HPK.out; omega
              rw [hpe] at HKn
              clear HK2 HK1 HOW1
              go_roundw
              case rel => exact ⟨k + 1, Ak', ck', by omega, by go_num, by rw [hpe], HKn.out⟩
              case measure => simp [intOf]; omega
            · have hnlk : ¬ (k : Int) < 300 := by omega
              obtain rfl : k = 300 := by omega
              have HKe : Hid (Gk y z base 45 34 mC m n (.slice Av n cv) 300 (.slice Ak p ck)) := by
                have h := HK.out
                rwa [HPK.out] at h
              have hrowz : z.ownsRow w2.heap.size 30 1 (.slice Ag m cg) Gl.length Gl := HKe.out.touch.row HG.out.row fun B hB hB' => by
                have h1 := (HG.out.row.lt B hB).1
                have h2 := HG.out.low B ⟨m, _, HV.out, hB'⟩
                omega
              have HRZ := Lib.hid hrowz
              have hgl : Gl.length ≤ 1073741824 := by rw [HG.out.len]; omega
              have hbz2 : w2.heap.size ≤ z.heap.size := Nat.le_trans HG.out.touch.size HKe.out.touch.size
              have hgl2 : (Gl ++ [Value.slice Ak p ck]).length = m + 1 := by rw [List.length_append, HG.out.len]; rfl
              have HGL2 := Lib.hid hgl2
              clear hrowz HK HOW hgl2
              go_wp2_with ((with_reducible refine stopAt (o := ⟨some 83, _, _, _, _, _⟩) ?_); refine appendV (o := ⟨some 83, _, _, _, _, _⟩) und_chls info_chls z rfl (.tmp 80) (.tmp 82) rfl w2.heap.size _ Gl HRZ.out _ rfl rfl rfl hgl hbz2 ?_; intro gv' z2 hr2 hg2 hl2; obtain ⟨Ag', cg', eg', _⟩ := rowV_form hr2; rw [HGL2.out] at eg'; subst eg'; have HK2 := Lib.hid (show _ ∧ _ ∧ _ from ⟨hr2, hg2, hl2⟩); clear hr2 hg2 hl2)
              have HGn := Lib.hid (HG.out.next HA.out HV.out HKe.out.touch (by rw [HNJ.out]; exact HKe.out.old) (by rw [HNJ.out, HPK.out]; exact (HPK.out ▸ HKe.out.own)) HKe.out.lies HK2.out.1 HK2.out.2.1 HK2.out.2.2)
              clear HK2 HG HKe HRZ
              go_roundw
              case rel => exact ⟨m + 1, _, Ag', cg', by omega, by go_num, rfl, HGn.out⟩
              case measure => simp [intOf]; omega
        · have hnlm : ¬ (m : Int) < j := by omega
          obtain rfl : m = j := by omega
          have HSy := Lib.hid (HS.out.touch HTy.out)
          have hdn := HG.out.done.now
          have HRd := Lib.hid (readyC (base := base) HSy.out (ns := ns) (fun i v hv => by
            have hi := (List.getElem?_eq_some_iff.1 hv).1
            have hi2 : i < Gl.length := by rw [HG.out.len]; have := HN.out; omega
            exact (hdn i v _ (by have := HN.out; omega) hv (List.getElem?_eq_getElem hi2)).1))
          rw [HN.out] at HRd
          obtain ⟨Ag', cg', eg', hrg⟩ := readyGC HN.out HG.out.len HG.out.row hdn
          obtain ⟨e1, _, e3⟩ := slice_inj eg'
          subst e1 e3
          have HRg := Lib.hid hrg
          clear hdn hrg eg' HG HSy
          go_wp2_with fail
          refine (signs_any A m c ns y HRd.out (by omega) (fun i hi => by have := HM.out i hi; omega)).mono ?_
          rintro e w3 ⟨rfl, hq⟩
          have HB3 := Lib.hid hq
          have HT3 : Hid (Touch (BlkOf L) wb w3) := HTy.out.trans (Touch.ofBelow HB3.out)
          have HRg3 : Hid (∀ i, i < m → ∃ g Ai ci, Ag = some ⟨g, 0, none⟩ ∧ w3.cell? ⟨g, i, none⟩ = some (.slice Ai (ns i + 300) ci) ∧ ChsAt w3 Ai (ns i + 300) (sgC i)) := fun i hi => by
            obtain ⟨g, Ai, ci, h1, h2, h3⟩ := HRg.out i hi
            exact ⟨g, Ai, ci, h1, (hq.cell (p := ⟨g, i, none⟩) (World.block_lt_of_cell? y _ h2)).trans h2, h3.below hq⟩
          clear hq HB3 HRg HRd c0
          go_wp2_with fail
          refine (signs_any Ag m cg (fun i => ns i + 300) w3 HRg3.out (by omega) (fun i hi => by have := HM.out i hi; show ns i + 300 ≤ _; omega)).mono ?_
          rintro e w4 ⟨rfl, hq⟩
          have HT4 : Hid (Touch (BlkOf L) wb w4) := HT3.out.trans (Touch.ofBelow hq)
          clear hq
          go_wp2_with fail
          go_ret
          exact ⟨rfl, (HTB.out.mono fun _ _ h => .inl h).trans (HT4.out.mono fun _ _ h => .inr h)⟩
end Go.Proofs.Ytkpbeibcfaenhaa
