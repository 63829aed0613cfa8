/- ledgerlaw5.slot: the walk. -/
import Derived.Test.YtbjbpgbpefkbhaaStands
import Derived.Test.YtbjbpgbpefkbhaaShort
namespace Go.Proofs.Ytbjbpgbpefkbhaa
open Go.RowKit
theorem slot_front {tail : List Nat} (i : Nat) (hi : i < 192) : (tail ++ zs 192).take (i + 1) = (tail ++ zs 192).take i ++ [if i < tail.length then tail.getD i 0 else 0] := by
  rw [take_succ_getD (by rw [List.length_append, zs_length]; omega)]
  congr 2
  by_cases h : i < tail.length
  · rw [if_pos h]
    simp [List.getD, List.getElem?_append_left h]
  · rw [if_neg h]
    have : (tail ++ zs 192)[i]? = some 0 := by
      rw [List.getElem?_append_right (by omega), zs, List.getElem?_replicate, if_pos (by omega)]
    simp [List.getD, this]
set_option maxRecDepth 8000 in
set_option maxHeartbeats 800000 in
theorem slot_any (A B : Option Addr) (c n d : Nat) (xs tail : List Nat) (w : World) (hx : RB w A 256 xs) (ht : RB w B n tail) (hc : 256 ≤ c) :
    Calls Try.prog 24 #[.slice A 256 c, .slice B n d] w fun e w' => ∃ v, e = .returned v ∧ OwnU w' w.heap.size v (slotN xs tail) ∧ Below w.heap.size w w' := by
  have HC := Lib.hid (copied_any A 64 c (xs.take 64) w (hx.take (by omega)) (by omega))
  have HX := Lib.hid ht
  have HL : Hid ((xs.take 64).length = 64) := by show _ = _; rw [List.length_take, hx.1]; rfl
  have HS : Hid (slotN xs tail = xs.take 64 ++ (tail ++ zs 192).take 192) := rfl
  rw [HS.out]
  have HZ : Hid (∀ k, k < 192 → (tail ++ zs 192).take (k + 1) = (tail ++ zs 192).take k ++ [if k < tail.length then tail.getD k 0 else 0]) := fun k hk => slot_front k hk
  clear hx ht HS
  generalize xs.take 64 = ys at *
  generalize tail ++ zs 192 = Z at *
  go_enter Try.func24, Try.ntmps24
  go_wp2_with fail
  refine HC.out.mono ?_
  rintro e w1 ⟨v, rfl, hown, hbel⟩
  have HO := Lib.hid hown
  have HB := Lib.hid hbel
  clear hown hbel HC
  go_wp2
  obtain ⟨M, hM⟩ : ∃ M : Nat, M = 192 := ⟨_, rfl⟩
  go_loopw [5, 6] (fun v i wr => ∃ k : Nat, k ≤ M ∧ i = .int .i64 k ∧ Hid (OwnU wr w.heap.size v (ys ++ Z.take k)) ∧ Hid (Below w.heap.size w wr)) (fun _ i _ => M - (intOf i).toNat)
  case atStart => exact ⟨0, by omega, rfl, by simpa using HO, HB⟩
  case round =>
    clear HO HB
    obtain ⟨k, hk, rfl, HO, HB⟩ := hrel
    by_cases hlt : k < 192
    · have HT := Lib.hid (HZ.out k hlt)
      have hl2 : (ys ++ Z.take k).length + 1 ≤ 140737488355328 := by rw [List.length_append, HL.out, List.length_take]; omega
      have HLT := Lib.hid HX.out.1
      by_cases hkn : k < n
      · obtain ⟨ad, rfl, hb, hcell⟩ := HX.out.at_ hkn
        have hc := cell_later hb HB.out hcell
        have hlt8 : tail.getD k 0 < 256 := HX.out.lt hkn
        rw [if_pos (by rw [HLT.out]; exact hkn)] at HT
        have hi' : (k : Int) < 192 := by omega
        have hn' : (k : Int) < n := by omega
        clear hcell hb HLT
        generalize tail.getD k 0 = b at *
        go_wp2_with (at_builtin; refine append1 und_bytes info_byte wr rfl (.tmp 18) (.tmp 23) rfl w.heap.size _ (ys ++ Z.take k) HO.out b hlt8 rfl rfl hl2 HB.out.size ?_; intro v' w1 hown1 hgrow1)
        have hb1 := HB.out.grown hgrow1 HB.out.size HO.out.ge
        go_roundw
        case rel => exact ⟨k + 1, by omega, by go_num, by rw [HT.out, ← List.append_assoc]; exact hown1, hb1⟩
        case measure => simp [intOf]; omega
      · have hkn' : ¬ (k : Int) < n := by omega
        rw [if_neg (by rw [HLT.out]; exact hkn)] at HT
        clear HLT
        go_wp2_with (at_builtin; refine append1 und_bytes info_byte wr rfl (.tmp 25) (.tmp 26) rfl w.heap.size _ (ys ++ Z.take k) HO.out 0 (by omega) rfl rfl hl2 HB.out.size ?_; intro v' w1 hown1 hgrow1)
        have hb1 := HB.out.grown hgrow1 HB.out.size HO.out.ge
        go_roundw
        case rel => exact ⟨k + 1, by omega, by go_num, by rw [HT.out, ← List.append_assoc]; exact hown1, hb1⟩
        case measure => simp [intOf]; omega
    · obtain rfl : k = 192 := by omega
      go_wp2
      go_ret
      exact ⟨_, rfl, HO.out, HB.out⟩
end Go.Proofs.Ytbjbpgbpefkbhaa
