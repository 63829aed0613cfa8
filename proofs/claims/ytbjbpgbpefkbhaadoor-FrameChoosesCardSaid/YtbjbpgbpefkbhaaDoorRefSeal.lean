/- ledgerref2.Seal and Whole. -/
import Derived.Test.YtbjbpgbpefkbhaaDoorRefSum
namespace Go.Proofs.YtbjbpgbpefkbhaaDoor
open Go.RowKit
def byN (s j : Nat) : Nat := s / 2 ^ (8 * j) % 256
theorem byN_lt (s j : Nat) : byN s j < 256 := Nat.mod_lt _ (by omega)
theorem byN_int (s j : Nat) : ((s : Int) / 2 ^ (8 * j) % 256) = ((byN s j : Nat) : Int) := by
  unfold byN
  simp
theorem byN_le4 {s : Nat} (hs : s < 4294967296) : upTo (byN s) 4 = le4 s := by
  have h3 : s / 16777216 < 256 := by omega
  simp [upTo, byN, le4, List.range_succ, Nat.mod_eq_of_lt h3]
set_option maxHeartbeats 800000 in
theorem refseal_any (A : Option Addr) (n c : Nat) (xs : List Nat) (w : World) (hx : RB w A n xs) (hn : 8 * n + 32 ≤ 140737488355328) (hd : DivT w) :
    Calls Tryd.prog 46 #[.slice A n c] w fun e w' => ∃ v, e = .returned v ∧ OwnU w' w.heap.size v (sealN xs) ∧ Below w.heap.size w w' := by
  have HX := Lib.hid hx
  have HF := Lib.hid (refsum_any A n c xs w hx hn hd)
  have hs := updN_lt 0 xs
  have HS : Hid (sealN xs = xs ++ upTo (byN (updN 0 xs)) 4) := by
    show sealN xs = _
    rw [byN_le4 hs]
    rfl
  clear hx hd
  generalize updN 0 xs = s at *
  go_enter Tryd.func46, Tryd.ntmps46
  go_wp2_with fail
  refine HF.out.mono ?_
  rintro e w1 ⟨rfl, hb⟩
  have HB1 := Lib.hid hb
  clear hb HF
  go_wp2
  go_loopw [4, 5] (fun v i wr => ∃ k : Nat, k ≤ n ∧ i = .int .i64 k ∧ Hid (OwnU wr w.heap.size v (xs.take k)) ∧ Hid (Below w.heap.size w wr)) (fun _ i _ => n - (intOf i).toNat)
  case atStart => exact ⟨0, by omega, rfl, Own.nil _ _ _, HB1.out⟩
  case round =>
    obtain ⟨k, hk, rfl, HO, HB⟩ := hrel
    have hlen := HX.out.1
    by_cases hlt : k < n
    · obtain ⟨ad, rfl, hb, hcell⟩ := HX.out.at_ hlt
      have hc := cell_later hb HB.out hcell
      have hlt8 : xs.getD k 0 < 256 := HX.out.lt hlt
      have HT := Lib.hid (take_succ_getD (show k < xs.length by omega))
      have hl2 : (xs.take k).length + 1 ≤ 140737488355328 := by rw [List.length_take]; omega
      clear hcell hlen
      generalize xs.getD k 0 = b at *
      go_wp2_with (at_builtin; refine append1 und_bytes info_byte wr rfl (.tmp 15) (.tmp 20) rfl w.heap.size _ (xs.take k) HO.out b hlt8 rfl rfl hl2 HB.out.size ?_; intro v' w1 hown1 hgrow1)
      have hb1 := HB.out.grown hgrow1 HB.out.size HO.out.ge
      go_roundw
      case rel => exact ⟨k + 1, by omega, by go_num, by rw [HT.out]; exact hown1, hb1⟩
      case measure => simp [intOf]; omega
    · have HO2 : Hid (OwnU wr w.heap.size u4 (xs ++ upTo (byN s) 0)) := by
        have h := HO.out
        rw [List.take_of_length_le (by omega)] at h
        show OwnU _ _ _ _
        simpa [upTo] using h
      clear HO
      go_wp2
      go_loopw [4, 6] (fun v i wr => ∃ j : Nat, j ≤ 4 ∧ i = .int .i64 j ∧ Hid (OwnU wr w.heap.size v (xs ++ upTo (byN s) j)) ∧ Hid (Below w.heap.size w wr)) (fun _ i _ => 4 - (intOf i).toNat)
      case atStart => exact ⟨0, by omega, rfl, HO2.out, HB.out⟩
      case round =>
        clear HO2 HB
        obtain ⟨j, hj, rfl, HO, HB⟩ := hrel
        by_cases hjt : j < 4
        · have hby := byN_int s j
          have hbl := byN_lt s j
          have HSU : Hid (upTo (byN s) (j + 1) = upTo (byN s) j ++ [byN s j]) := upTo_succ _ _
          have hl2 : (xs ++ upTo (byN s) j).length + 1 ≤ 140737488355328 := by rw [List.length_append, upTo_length]; omega
          clear hlen
          generalize byN s j = b at *
          go_wp2_with (at_builtin; refine append1 und_bytes info_byte wr rfl (.tmp 26) (.tmp 33) rfl w.heap.size _ (xs ++ upTo (byN s) j) HO.out b hbl rfl rfl hl2 HB.out.size ?_; intro v' w2 hown1 hgrow1)
          have HB1 := Lib.hid (HB.out.grown hgrow1 HB.out.size HO.out.ge)
          go_roundw
          case rel => exact ⟨j + 1, by omega, by go_num, by rw [HSU.out, ← List.append_assoc]; exact hown1, HB1.out⟩
          case measure => simp [intOf]; omega
        · have HO4 : Hid (OwnU wr w.heap.size u4 (sealN xs)) := by
            have h := HO.out
            rw [show j = 4 by omega, ← HS.out] at h
            exact h
          go_wp2
          go_ret
          exact ⟨_, rfl, HO4.out, HB.out⟩
end Go.Proofs.YtbjbpgbpefkbhaaDoor
