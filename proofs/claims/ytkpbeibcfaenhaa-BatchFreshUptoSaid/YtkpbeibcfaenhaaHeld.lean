/- batch.held. -/
import Derived.Test.YtkpbeibcfaenhaaGb
import Derived.Test.YtkpbeibcfaenhaaBatN
namespace Go.Proofs.Ytkpbeibcfaenhaa
open Go.RowKit
theorem zero_chg : ((zarr 32) ++ #[(.bool false : Value), .slice none 0 0]).toList.length = 34 := by simp [zarr, bvs, zs]
set_option maxRecDepth 100000 in
set_option maxHeartbeats 1600000 in
theorem held_any (A : Option Addr) (N c most : Nat) (X : Nat → Chg) (w : World) (hx : ChsAt w A N X) (hm : most ≤ 4096) :
    Calls Try.prog 45 #[.slice A N c, .int .i64 most] w fun e w' => e = .returned (.int .i64 (heldN X N most : Nat)) ∧ Below w.heap.size w w' := by
  have HX := Lib.hid hx
  have hn := hx.1
  unfold maxLen at hn
  clear hx
  go_enter Try.func45, Try.ntmps45
  by_cases hmn : most < N
  · have HR : Hid (heldN X N most = 31) := by show _ = _; unfold heldN; rw [if_pos hmn]
    have hmn' : (most : Int) < N := by omega
    go_wp2_with fail
    go_ret
    exact ⟨by rw [HR.out]; rfl, Below.refl _ _⟩
  · have hmn' : ¬ (most : Int) < N := by omega
    go_wp2_with fail
    go_loopw [13] (fun i wr => ∃ k : Nat, k ≤ N ∧ i = .int .i64 k ∧ Hid (anyLong X k = false) ∧ Hid (Below w.heap.size w wr)) (fun i _ => N - (intOf i).toNat)
    case atStart => exact ⟨0, by omega, rfl, rfl, Below.refl _ _⟩
    case round =>
      obtain ⟨k, hk, rfl, HL, HB⟩ := hrel
      obtain ⟨w1, rfl⟩ : ∃ w1, w1 = wr := ⟨_, rfl⟩
      by_cases hlt : k < N
      · obtain ⟨b, o, Av, Cv, rfl, hb, hr, hkB, hkl, hvr, hvC, hCm, hnil⟩ := (HX.out.below HB.out).2 k hlt
        have hlt' : (k : Int) < N := by omega
        have HR := Lib.hid hr
        have hsz : (Try.prog.info? 45).map (·.size) = some (chC (X k) Av Cv).length := by rw [size_chg, chC_length hkl]
        have HL34 : Hid (((zarr 32) ++ #[(.bool false : Value), .slice none 0 0]).toList.length = (chC (X k) Av Cv).length) := by show _ = _; rw [chC_length hkl, zero_chg]
        have HKL := Lib.hid hkl
        clear hr hkB hkl hvr hvC hCm hnil
        have fin : ∀ w2 w3 : World, Below w1.heap.size w1 w2 → w2.grownBy w3 (some w1.heap.size) → Below w.heap.size w w3 := fun w2 w3 h1 h2 => (HB.out.trans (h1.mono HB.out.size)).grown h2 (Nat.le_trans HB.out.size h1.size) (fun k hk => by injection hk with hk; rw [← hk]; exact HB.out.size)
        have HF := Lib.hid fin
        clear fin
        have HLk : Hid (long (X k) = (!(X k).del && decide (128 < (X k).val.length))) := rfl
        have HLn : Hid (anyLong X (k + 1) = (anyLong X k || long (X k))) := rfl
        have HLt : Hid (long (X k) = true → anyLong X N = true) := fun h => anyLong_at hlt h
        generalize X k = x at *
        obtain ⟨ky, dl, vl⟩ := x
        cases dl
        · by_cases hlen : 128 < vl.length
          · have hlen' : (128 : Int) < (vl.length : Int) := by omega
            go_wp2_with (first
              | ((with_reducible refine stopAt (o := ⟨some 16, _, _, _, _, _⟩) ?_); refine loadRange (o := ⟨some 16, _, _, _, _, _⟩) (by rfl) 45 (.tmp 15) rfl b (o + k * 34) _ rfl HR.out row_chg hsz ?_)
              | ((with_reducible refine stopAt (o := ⟨some 6, _, _, _, _, _⟩) ?_); refine allocNew (o := ⟨some 6, _, _, _, _, _⟩) (by rfl) 45 rfl _ _ info_chg ?_; intro w2 HA2 HW2 HS2)
              | ((with_reducible refine stopAt (o := ⟨none, .store _ (.tmp 6) _, _, _, _, _⟩) ?_); refine storeV (o := ⟨none, _, _, _, _, _⟩) (by rfl) 45 (.tmp 6) (.tmp 16) rfl w1.heap.size _ _ 45 rfl rfl HA2.out hsz HL34.out chC_one ?_; intro w3 HA3 HG3 HS3; have b1 := ch_del (BlkIs.range HA3.out) HKL.out; have b2 := ch_val (BlkIs.range HA3.out) HKL.out; rw [Nat.zero_add] at b1 b2))
            go_ret
            refine ⟨?_, HF.out w2 w3 HW2.out HG3.out⟩
            rw [show heldN X N most = 32 by unfold heldN; rw [if_neg hmn, HLt.out (by rw [HLk.out]; simp; exact hlen)]; rfl]
            rfl
          · have hlen' : ¬ (128 : Int) < (vl.length : Int) := by omega
            have HLm : Hid (anyLong X (k + 1) = false) := by
              show _ = _
              rw [HLn.out, HL.out, HLk.out]
              simp
              omega
            go_wp2_with (first
              | ((with_reducible refine stopAt (o := ⟨some 16, _, _, _, _, _⟩) ?_); refine loadRange (o := ⟨some 16, _, _, _, _, _⟩) (by rfl) 45 (.tmp 15) rfl b (o + k * 34) _ rfl HR.out row_chg hsz ?_)
              | ((with_reducible refine stopAt (o := ⟨some 6, _, _, _, _, _⟩) ?_); refine allocNew (o := ⟨some 6, _, _, _, _, _⟩) (by rfl) 45 rfl _ _ info_chg ?_; intro w2 HA2 HW2 HS2)
              | ((with_reducible refine stopAt (o := ⟨none, .store _ (.tmp 6) _, _, _, _, _⟩) ?_); refine storeV (o := ⟨none, _, _, _, _, _⟩) (by rfl) 45 (.tmp 6) (.tmp 16) rfl w1.heap.size _ _ 45 rfl rfl HA2.out hsz HL34.out chC_one ?_; intro w3 HA3 HG3 HS3; have b1 := ch_del (BlkIs.range HA3.out) HKL.out; have b2 := ch_val (BlkIs.range HA3.out) HKL.out; rw [Nat.zero_add] at b1 b2))
            go_roundw
            case rel => exact ⟨k + 1, by omega, by go_num, HLm.out, HF.out w2 w3 HW2.out HG3.out⟩
            case measure => simp [intOf]; omega
        · have HLm : Hid (anyLong X (k + 1) = false) := by
            show _ = _
            rw [HLn.out, HL.out, HLk.out]
            simp
          go_wp2_with (first
            | ((with_reducible refine stopAt (o := ⟨some 16, _, _, _, _, _⟩) ?_); refine loadRange (o := ⟨some 16, _, _, _, _, _⟩) (by rfl) 45 (.tmp 15) rfl b (o + k * 34) _ rfl HR.out row_chg hsz ?_)
            | ((with_reducible refine stopAt (o := ⟨some 6, _, _, _, _, _⟩) ?_); refine allocNew (o := ⟨some 6, _, _, _, _, _⟩) (by rfl) 45 rfl _ _ info_chg ?_; intro w2 HA2 HW2 HS2)
            | ((with_reducible refine stopAt (o := ⟨none, .store _ (.tmp 6) _, _, _, _, _⟩) ?_); refine storeV (o := ⟨none, _, _, _, _, _⟩) (by rfl) 45 (.tmp 6) (.tmp 16) rfl w1.heap.size _ _ 45 rfl rfl HA2.out hsz HL34.out chC_one ?_; intro w3 HA3 HG3 HS3; have b1 := ch_del (BlkIs.range HA3.out) HKL.out; have b2 := ch_val (BlkIs.range HA3.out) HKL.out; rw [Nat.zero_add] at b1 b2))
          go_roundw
          case rel => exact ⟨k + 1, by omega, by go_num, HLm.out, HF.out w2 w3 HW2.out HG3.out⟩
          case measure => simp [intOf]; omega
      · have hnlt : ¬ (k : Int) < N := by omega
        obtain rfl : k = N := by omega
        go_wp2_with fail
        go_ret
        refine ⟨?_, HB.out⟩
        rw [show heldN X k most = 0 by unfold heldN; rw [if_neg hmn, HL.out]; rfl]
        rfl
end Go.Proofs.Ytkpbeibcfaenhaa
