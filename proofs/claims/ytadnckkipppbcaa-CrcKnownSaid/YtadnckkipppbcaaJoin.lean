/- crc.Join. -/
import Derived.Test.YtadnckkipppbcaaTwice
import Derived.Test.YtadnckkipppbcaaFeed
namespace Go.Proofs.Ytadnckkipppbcaa
open Go.RowKit
/-- What n zero bytes make of each bit. -/
def zF (s : Nat) (i : Nat) : Nat := bs (8 * s) (2 ^ i)
theorem zF_lt (s : Nat) : ∀ i, i < 32 → zF s i < 4294967296 := fun i hi => bs_lt (Nat.pow_lt_pow_right (a := 2) (n := 32) (by omega) hi)
theorem zF_of (s : Nat) {r : Nat} (hr : r < 4294967296) : ofN (zF s) r = bs (8 * s) r := ofN_linear (F := bs (8 * s)) (bs_xor _) hr
theorem zF_twice (s : Nat) : (arrF fun i => ofN (zF s) (zF s i)) = arrF (zF (2 * s)) := by
  have h : (List.range 32).map (fun i => Value.int .u32 (ofN (zF s) (zF s i) : Nat)) = (List.range 32).map (fun i => Value.int .u32 (zF (2 * s) i : Nat)) := by
    apply List.map_congr_left
    intro i hi
    rw [zF_of s (zF_lt s i (List.mem_range.1 hi)), zF, zF, ← bs_add]
    congr 4
    omega
  exact congrArg List.toArray h
theorem feed_zero (i : Nat) : feedN (2 ^ i) [0] = zF 1 i := by
  show stepN (2 ^ i) 0 = _
  rw [stepN_bs, Nat.xor_zero]
  rfl
set_option maxHeartbeats 1600000 in
theorem join_any (a b : Nat) (n : Int) (w : World) (ha : a < 4294967296) (hb : b < 4294967296) (hn : n ≤ 9223372036854775807) :
    Calls Try.prog 21 #[.int .u32 a, .int .u32 b, .int .i64 n] w fun e w' => e = .returned (.int .u32 (joinN a b n : Nat)) ∧ Below w.heap.size w w' := by
  by_cases hneg : n < 0
  · have HJ : Hid (joinN a b n = 0) := if_pos hneg
    go_enter Try.func21, Try.ntmps21
    go_wp2
    go_ret
    exact ⟨by rw [HJ.out]; rfl, Below.refl _ _⟩
  · obtain ⟨t, rfl⟩ := Int.eq_ofNat_of_zero_le (show 0 ≤ n by omega)
    have HJ : Hid (joinN a b t = bs (8 * t) a ^^^ b) := by
      show (if (t : Int) < 0 then 0 else bs (8 * (t : Int).toNat) a ^^^ b) = _
      rw [if_neg hneg, Int.toNat_natCast]
    go_enter Try.func21, Try.ntmps21
    go_wp2
    go_loopw [11] (fun i wr => ∃ k : Nat, k ≤ 32 ∧ i = .int .i64 k ∧ Hid (BlkIs wr w.heap.size 42 (upF (zF 1) k)) ∧ Hid (Below w.heap.size w wr)) (fun i _ => 32 - (intOf i).toNat)
    case atStart => exact ⟨0, by omega, rfl, by rw [upF_zero]; exact BlkIs.new _ _ _, (Below.refl _ _).alloc (Nat.le_refl _) _⟩
    case round =>
      obtain ⟨k, hk, rfl, H0, HB⟩ := hrel
      by_cases hlt : k < 32
      · have hp : 2 ^ k < 4294967296 := Nat.pow_lt_pow_right (a := 2) (n := 32) (by omega) hlt
        have hsh : ((2 : Int) ^ k % 4294967296) = ((2 ^ k : Nat) : Int) := by
          have h1 : ((2 ^ k : Nat) : Int) = (2 : Int) ^ k := by simp
          rw [← h1]
          generalize 2 ^ k = p at hp
          omega
        have HSH := Lib.hid hsh
        have HZ := Lib.hid (feed_zero k)
        clear hsh
        go_wp2_with fail
        rw [HSH.out]
        refine (feed_any (2 ^ k) _ 1 1 [0] _ hp (RB_new wr 5 _ (0, 0) [0] (IsB.one (by omega)) rfl) (by omega)).mono ?_
        rintro e w2 ⟨rfl, hb2⟩
        rw [HZ.out]
        have hb : Below wr.heap.size wr w2 := ((Below.refl _ _).alloc (Nat.le_refl _) _).trans (hb2.mono (by simp))
        have h2 := H0.out.below hb
        have hc : w2.cell? ⟨w.heap.size, k, none⟩ = some (.int .u32 0) := by
          rw [h2.cell, upF, arrF_get _ hlt, if_neg (by omega)]
          rfl
        have hz := h2.frozen k
        have hlb := h2.lt
        have HS : Hid (BlkIs (w2.setCell ⟨w.heap.size, k, none⟩ (.int .u32 (zF 1 k : Nat))) w.heap.size 42 (upF (zF 1) (k + 1))) := by
          have := h2.stored k (.int .u32 (zF 1 k : Nat))
          rwa [upF_set _ hlt] at this
        have HB2 : Hid (Below w.heap.size w (w2.setCell ⟨w.heap.size, k, none⟩ (.int .u32 (zF 1 k : Nat)))) := (HB.out.trans (hb.mono HB.out.size)).setCell (Nat.le_refl _) _
        clear h2 hb hb2
        go_wp2
        go_roundw
        case rel => exact ⟨k + 1, by omega, by go_num, HS.out, HB2.out⟩
        case measure => simp [intOf]; omega
      · have h0 := H0.out
        rw [show k = 32 by omega, upF_done] at h0
        have H1 := Lib.hid h0
        have hge : 32 ≤ k := by omega
        clear h0 H0
        go_wp2
        go_loopw [0, 2] (fun x i wr => ∃ m r s : Nat, m ≤ t ∧ Hid (r + m * s = t) ∧ i = .int .i64 m ∧ x = .int .u32 (bs (8 * r) a : Nat) ∧ Hid (BlkIs wr w.heap.size 42 (arrF (zF s))) ∧ Hid (Below w.heap.size w wr)) (fun _ i _ => (intOf i).toNat)
        case atStart => exact ⟨t, 0, 1, Nat.le_refl _, by show 0 + t * 1 = t; omega, rfl, rfl, H1.out, HB.out⟩
        case round =>
          clear H1 HB
          obtain ⟨m, r, s, hm, HS, rfl, rfl, H0, HB⟩ := hrel
          have hxl : bs (8 * r) a < 4294967296 := bs_lt ha
          by_cases h0 : 0 < m
          · have HR0 := Lib.hid (blk_range H0.out)
            have HIN : Hid ((Try.prog.info? 42).map (·.size) = some (arrF (zF s)).toList.length) := by
              show _ = _
              rw [size_turn]; simp [arrF_size]
            have HTW : Hid (∀ W, Calls Try.prog 26 #[.agg (arrF (zF s))] W fun e w' => e = .returned (.agg (arrF (zF (2 * s)))) ∧ Below W.heap.size W w') := fun W => by
              have := twice_any (zF s) W (zF_lt s)
              rwa [zF_twice] at this
            have HIN2 : Hid ((Try.prog.info? 42).map (·.size) = some (arrF (zF (2 * s))).size) := by
              show _ = _
              rw [size_turn, arrF_size]
            have HTH : Hid (∀ W, BlkIs W w.heap.size 42 (arrF (zF s)) → W.there w.heap.size 0 (arrF (zF (2 * s))).size) := fun W h j hj => by
              rw [arrF_size] at hj
              rw [Nat.zero_add, h.cell, arrF_get _ hj]
              exact ⟨rfl, h.frozen j⟩
            have HFI : Hid (∀ W, BlkIs W w.heap.size 42 (arrF (zF s)) → BlkIs (W.setCells w.heap.size 0 (arrF (zF (2 * s))).toList) w.heap.size 42 (arrF (zF (2 * s)))) := fun W h => blk_setAll h (by rw [arrF_size, arrF_size])
            rcases Nat.mod_two_eq_zero_or_one m with h2 | h2
            · have hodd : bits .and .i64 (m : Int) 1 = 0 := by rw [and64_1 m (by omega), h2]; rfl
              have HS2 : Hid (r + m / 2 * (2 * s) = t) := by
                show _ = t
                rw [← HS.out, ← Nat.mul_assoc, show m / 2 * 2 = m by omega]
              clear h2
              go_wp2_with (first
                | (refine wpList_load_mid (op := ⟨some 31, .load 42 (.tmp 7), _, _, _, _⟩) rfl _ (.tmp 7) rfl w.heap.size 0 rfl (arrF (zF s)).toList _ HR0.out und_turn rfl HIN.out ?_)
                | fail)
              refine (HTW.out _).mono ?_
              rintro e w2 ⟨rfl, hb2⟩
              have H2 := Lib.hid (H0.out.below hb2)
              have HB2 := Lib.hid (below_setCells (HB.out.trans (hb2.mono HB.out.size)) w.heap.size (Nat.le_refl _) 0 (arrF (zF (2 * s))).toList)
              have HF2 := Lib.hid (HFI.out _ H2.out)
              clear hb2
              go_wp2_with (first
                | (refine wpList_store_mid (op := ⟨none, .store 42 (.tmp 7) (.tmp 32), _, _, _, _⟩) rfl _ (.tmp 7) (.tmp 32) rfl w.heap.size 0 (arrF (zF (2 * s))) rfl rfl (HTH.out _ H2.out) HIN2.out (arrF_one _) ?_)
                | fail)
              go_roundw
              case rel => exact ⟨m / 2, r, 2 * s, by omega, HS2, by go_num, rfl, HF2.out, HB2.out⟩
              case measure => simp [intOf]; omega
            · have hodd : bits .and .i64 (m : Int) 1 = 1 := by rw [and64_1 m (by omega), h2]; rfl
              have HS2 : Hid (r + s + m / 2 * (2 * s) = t) := by
                have e : m * s = s + m / 2 * (2 * s) := by
                  conv => lhs; rw [show m = 1 + m / 2 * 2 by omega]
                  rw [Nat.add_mul, Nat.one_mul, Nat.mul_assoc]
                show _ = t
                rw [← HS.out, e, Nat.add_assoc]
              have hq : ofN (zF s) (bs (8 * r) a) = bs (8 * (r + s)) a := by
                rw [zF_of s hxl, ← bs_add]
                congr 1
                omega
              have HOF := Lib.hid (of_any (zF s) (bs (8 * r) a) wr (zF_lt s) hxl)
              rw [hq] at HOF
              clear h2 hq
              generalize bs (8 * r) a = q at *
              go_wp2_with (first
                | (refine wpList_load_mid (op := ⟨some 28, .load 42 (.tmp 7), _, _, _, _⟩) rfl _ (.tmp 7) rfl w.heap.size 0 rfl (arrF (zF s)).toList _ HR0.out und_turn rfl HIN.out ?_)
                | fail)
              refine HOF.out.mono ?_
              rintro e w1 ⟨rfl, hb1⟩
              have H1 := Lib.hid (H0.out.below hb1)
              have HB1 := Lib.hid (HB.out.trans (hb1.mono HB.out.size))
              have HR1 := Lib.hid (blk_range H1.out)
              clear hb1
              go_wp2_with (first
                | (refine wpList_load_mid (op := ⟨some 31, .load 42 (.tmp 7), _, _, _, _⟩) rfl _ (.tmp 7) rfl w.heap.size 0 rfl (arrF (zF s)).toList _ HR1.out und_turn rfl HIN.out ?_)
                | fail)
              refine (HTW.out _).mono ?_
              rintro e w2 ⟨rfl, hb2⟩
              have H2 := Lib.hid (H1.out.below hb2)
              have HB2 := Lib.hid (below_setCells (HB1.out.trans (hb2.mono HB1.out.size)) w.heap.size (Nat.le_refl _) 0 (arrF (zF (2 * s))).toList)
              have HF2 := Lib.hid (HFI.out _ H2.out)
              clear hb2
              go_wp2_with (first
                | (refine wpList_store_mid (op := ⟨none, .store 42 (.tmp 7) (.tmp 32), _, _, _, _⟩) rfl _ (.tmp 7) (.tmp 32) rfl w.heap.size 0 (arrF (zF (2 * s))) rfl rfl (HTH.out _ H2.out) HIN2.out (arrF_one _) ?_)
                | fail)
              go_roundw
              case rel => exact ⟨m / 2, r + s, 2 * s, by omega, HS2, by go_num, rfl, HF2.out, HB2.out⟩
              case measure => simp [intOf]; omega
          · obtain rfl : m = 0 := by omega
            have hr : r = t := by have := HS.out; omega
            subst hr
            have hx := xor32 (bs (8 * r) a) b hxl hb
            generalize bs (8 * r) a = q at *
            go_wp2
            go_ret
            exact ⟨by rw [HJ.out]; rfl, HB.out⟩
end Go.Proofs.Ytadnckkipppbcaa
