/- ledgerref5's small functions: laid, joined, filled, zeros, read. -/
import Derived.Test.YtbjbpgbpefkbhaaDoorPack
namespace Go.Proofs.YtbjbpgbpefkbhaaDoor
open Go.RowKit
theorem div_step (v k : Nat) : v / 256 ^ k / 256 = v / 256 ^ (k + 1) := by rw [Nat.div_div_eq_div_mul, Nat.pow_succ]
set_option maxHeartbeats 400000 in
theorem laid_any (v n : Nat) (w : World) (hn : n ≤ 8) (hv : v < 9223372036854775808) :
    Calls Tryd.prog 44 #[.int .i64 v, .int .i64 n] w fun e w' => ∃ v', e = .returned v' ∧ OwnU w' w.heap.size v' (leN v n) ∧ Below w.heap.size w w' := by
  go_enter Tryd.func44, Tryd.ntmps44
  go_wp2
  go_loopw [0, 5, 6] (fun x l i wr => ∃ k : Nat, k ≤ n ∧ i = .int .i64 k ∧ x = .int .i64 (v / 256 ^ k : Nat) ∧ Hid (OwnU wr w.heap.size l (leN v k)) ∧ Hid (Below w.heap.size w wr)) (fun _ _ i _ => n - (intOf i).toNat)
  case atStart => exact ⟨0, by omega, rfl, by simp, Own.nil _ _ _, Below.refl _ _⟩
  case round =>
    obtain ⟨k, hk, rfl, rfl, HO, HB⟩ := hrel
    by_cases hlt : k < n
    · have hd := div_step v k
      have hlt2 : v / 256 ^ k < 9223372036854775808 := Nat.lt_of_le_of_lt (Nat.div_le_self _ _) hv
      have HS := Lib.hid (leN_succ v k)
      have HD := Lib.hid hd
      clear hd
      have hl2 : (leN v k).length + 1 ≤ 140737488355328 := by rw [leN_length]; omega
      have hb : v / 256 ^ k % 256 < 256 := Nat.mod_lt _ (by omega)
      generalize v / 256 ^ k = x at *
      go_wp2_with (at_builtin; refine append1 und_bytes info_byte wr rfl (.tmp 12) (.tmp 16) rfl w.heap.size _ (leN v k) HO.out (x % 256) hb rfl rfl hl2 HB.out.size ?_; intro v' w1 hown1 hgrow1)
      have HB1 := Lib.hid (HB.out.grown hgrow1 HB.out.size HO.out.ge)
      go_roundw
      case rel => exact ⟨k + 1, by omega, by go_num, by rw [← HD.out]; go_num, by rw [HS.out]; exact hown1, HB1.out⟩
      case measure => simp [intOf]; omega
    · have HK : Hid (k = n) := by show k = n; omega
      go_wp2
      go_ret
      exact ⟨_, rfl, by have h := HO.out; rwa [HK.out] at h, HB.out⟩
set_option maxRecDepth 100000 in
set_option maxHeartbeats 400000 in
theorem joined_any (A B : Option Addr) (n c m d : Nat) (xs ys : List Nat) (w : World) (hx : RB w A n xs) (hy : RB w B m ys) (hn : n + m ≤ 140737488355328) :
    Calls Tryd.prog 43 #[.slice A n c, .slice B m d] w fun e w' => ∃ v, e = .returned v ∧ OwnU w' w.heap.size v (xs ++ ys) ∧ Below w.heap.size w w' := by
  have HX := Lib.hid hx
  have HY := Lib.hid hy
  clear hx hy
  go_enter Tryd.func43, Tryd.ntmps43
  go_wp2
  go_loopw [5, 6] (fun l i wr => ∃ k : Nat, k ≤ n ∧ i = .int .i64 k ∧ Hid (OwnU wr w.heap.size l (xs.take k)) ∧ Hid (Below w.heap.size w wr)) (fun _ i _ => n - (intOf i).toNat)
  case atStart => exact ⟨0, by omega, rfl, by show OwnU _ _ _ _; simpa using Own.nil _ _ _, Below.refl _ _⟩
  case round =>
    obtain ⟨k, hk, rfl, HO, HB⟩ := hrel
    by_cases hlt : k < n
    · obtain ⟨ad, rfl, hb, hcell⟩ := HX.out.at_ hlt
      have hc := cell_later hb HB.out hcell
      have hlt8 := HX.out.lt hlt
      have HT := Lib.hid (take_succ_getD (show k < xs.length by have := HX.out.1; omega))
      have hl2 : (xs.take k).length + 1 ≤ 140737488355328 := by rw [List.length_take]; omega
      clear hcell
      generalize xs.getD k 0 = b at *
      go_wp2_with (at_builtin; refine append1 und_bytes info_byte wr rfl (.tmp 14) (.tmp 19) rfl w.heap.size _ (xs.take k) HO.out b hlt8 rfl rfl hl2 HB.out.size ?_; intro v' w1 hown1 hgrow1)
      have hb1 := HB.out.grown hgrow1 HB.out.size HO.out.ge
      go_roundw
      case rel => exact ⟨k + 1, by omega, by go_num, by rw [HT.out]; exact hown1, hb1⟩
      case measure => simp [intOf]; omega
    · have HO2 : Hid (OwnU wr w.heap.size u5 (xs ++ ys.take 0)) := by
        have h := HO.out
        rw [List.take_of_length_le (by have := HX.out.1; omega)] at h
        show OwnU _ _ _ _
        simpa using h
      clear HO
      go_wp2
      go_loopw [5, 7] (fun l i wr => ∃ k : Nat, k ≤ m ∧ i = .int .i64 k ∧ Hid (OwnU wr w.heap.size l (xs ++ ys.take k)) ∧ Hid (Below w.heap.size w wr)) (fun _ i _ => m - (intOf i).toNat)
      case atStart => exact ⟨0, by omega, rfl, HO2.out, HB.out⟩
      case round =>
        clear HO2 HB
        obtain ⟨k2, hk2, rfl, HO, HB⟩ := hrel
        by_cases hlt2 : k2 < m
        · obtain ⟨ad, rfl, hb, hcell⟩ := HY.out.at_ hlt2
          have hc := cell_later hb HB.out hcell
          have hlt8 := HY.out.lt hlt2
          have HT := Lib.hid (take_succ_getD (show k2 < ys.length by have := HY.out.1; omega))
          have hl2 : (xs ++ ys.take k2).length + 1 ≤ 140737488355328 := by rw [List.length_append, List.length_take, HX.out.1]; omega
          clear hcell
          generalize ys.getD k2 0 = b at *
          go_wp2_with (at_builtin; refine append1 und_bytes info_byte wr rfl (.tmp 27) (.tmp 32) rfl w.heap.size _ (xs ++ ys.take k2) HO.out b hlt8 rfl rfl hl2 HB.out.size ?_; intro v' w1 hown1 hgrow1)
          have hb1 := HB.out.grown hgrow1 HB.out.size HO.out.ge
          go_roundw
          case rel => exact ⟨k2 + 1, by omega, by go_num, by rw [HT.out, ← List.append_assoc]; exact hown1, hb1⟩
          case measure => simp [intOf]; omega
        · have HT : Hid (ys.take k2 = ys) := List.take_of_length_le (by have := HY.out.1; omega)
          go_wp2
          go_ret
          exact ⟨_, rfl, by have h := HO.out; rwa [HT.out] at h, HB.out⟩
def filN (xs : List Nat) (n : Nat) : List Nat := xs.take n ++ zs (n - xs.length)
theorem filN_at {xs : List Nat} {k : Nat} : filN xs (k + 1) = filN xs k ++ [xs.getD k 0] := by
  unfold filN
  rcases Nat.lt_or_ge k xs.length with h | h
  · rw [take_succ_getD h, show k + 1 - xs.length = 0 by omega, show k - xs.length = 0 by omega]
    simp [zs]
  · rw [List.take_of_length_le (by omega), List.take_of_length_le h, show k + 1 - xs.length = (k - xs.length) + 1 by omega, List.append_assoc, show xs.getD k 0 = 0 by simp [List.getD, h]]
    congr 1
    exact zs_split (k - xs.length) 1
theorem filN_length (xs : List Nat) (n : Nat) : (filN xs n).length = n := by
  unfold filN
  rw [List.length_append, List.length_take, zs_length]
  omega
theorem filN_self {xs : List Nat} {n : Nat} (h : xs.length = n) : filN xs n = xs := by
  unfold filN
  rw [List.take_of_length_le (by omega), show n - xs.length = 0 by omega]
  simp [zs]
set_option maxHeartbeats 400000 in
theorem filled_any (A : Option Addr) (n c m : Nat) (xs : List Nat) (w : World) (hx : RB w A n xs) (hm : m ≤ 140737488355328) :
    Calls Tryd.prog 45 #[.slice A n c, .int .i64 m] w fun e w' => ∃ v, e = .returned v ∧ OwnU w' w.heap.size v (filN xs m) ∧ Below w.heap.size w w' := by
  have HX := Lib.hid hx
  clear hx
  go_enter Tryd.func45, Tryd.ntmps45
  go_wp2
  go_loopw [5, 6] (fun l i wr => ∃ k : Nat, k ≤ m ∧ i = .int .i64 k ∧ Hid (OwnU wr w.heap.size l (filN xs k)) ∧ Hid (Below w.heap.size w wr)) (fun _ i _ => m - (intOf i).toNat)
  case atStart => exact ⟨0, by omega, rfl, by show OwnU _ _ _ _; simpa [filN, zs] using Own.nil _ _ _, Below.refl _ _⟩
  case round =>
    obtain ⟨k, hk, rfl, HO, HB⟩ := hrel
    by_cases hlt : k < m
    · have HT := Lib.hid (filN_at (xs := xs) (k := k))
      have hl2 : (filN xs k).length + 1 ≤ 140737488355328 := by rw [filN_length]; omega
      by_cases hlt2 : k < n
      · obtain ⟨ad, rfl, hb, hcell⟩ := HX.out.at_ hlt2
        have hc := cell_later hb HB.out hcell
        have hlt8 := HX.out.lt hlt2
        clear hcell
        generalize xs.getD k 0 = b at *
        go_wp2_with (at_builtin; refine append1 und_bytes info_byte wr rfl (.tmp 16) (.tmp 21) rfl w.heap.size _ (filN xs k) HO.out b hlt8 rfl rfl hl2 HB.out.size ?_; intro v' w1 hown1 hgrow1)
        have hb1 := HB.out.grown hgrow1 HB.out.size HO.out.ge
        go_roundw
        case rel => exact ⟨k + 1, by omega, by go_num, by rw [HT.out]; exact hown1, hb1⟩
        case measure => simp [intOf]; omega
      · have HZ : Hid (xs.getD k 0 = 0) := by
          show xs.getD k 0 = 0
          have := HX.out.1
          simp [List.getD, show xs.length ≤ k by omega]
        rw [HZ.out] at HT
        go_wp2_with (at_builtin; refine append1 und_bytes info_byte wr rfl (.tmp 23) (.tmp 24) rfl w.heap.size _ (filN xs k) HO.out 0 (by omega) rfl rfl hl2 HB.out.size ?_; intro v' w1 hown1 hgrow1)
        have hb1 := HB.out.grown hgrow1 HB.out.size HO.out.ge
        go_roundw
        case rel => exact ⟨k + 1, by omega, by go_num, by rw [HT.out]; exact hown1, hb1⟩
        case measure => simp [intOf]; omega
    · have HK : Hid (k = m) := by show k = m; omega
      go_wp2
      go_ret
      exact ⟨_, rfl, by have h := HO.out; rwa [HK.out] at h, HB.out⟩
set_option maxHeartbeats 400000 in
theorem zeros_any (A : Option Addr) (n c f t : Nat) (xs : List Nat) (w : World) (hx : RB w A n xs) (hft : f ≤ t) (htn : t ≤ n) (hn : n ≤ 140737488355328) :
    Calls Tryd.prog 54 #[.slice A n c, .int .i64 f, .int .i64 t] w fun e w' => e = .returned (.bool (allZ ((xs.drop f).take (t - f)))) ∧ w' = w := by
  have hlen := hx.1
  have HX := Lib.hid hx
  have hyl : ((xs.drop f).take (t - f)).length = t - f := by rw [List.length_take, List.length_drop]; omega
  have HG : Hid (∀ k, k < t - f → ((xs.drop f).take (t - f)).getD k 0 = xs.getD (f + k) 0) := fun k hk => by
    simp [List.getD, hk]
  have HYL := Lib.hid hyl
  generalize (xs.drop f).take (t - f) = ys at *
  clear hx hlen hyl
  go_enter Tryd.func54, Tryd.ntmps54
  go_wp2
  go_loop [7] (fun i => ∃ k : Nat, k ≤ t - f ∧ i = .int .i64 ((f + k : Nat) : Int) ∧ Hid (∀ x ∈ ys.take k, x = 0)) (fun i => t - (intOf i).toNat)
  case atStart => exact ⟨0, by omega, rfl, by show ∀ x ∈ ys.take 0, x = 0; simp⟩
  case round =>
    obtain ⟨k, hk, rfl, HZ⟩ := hrel
    have hylen := HYL.out
    by_cases hlt : k < t - f
    · obtain ⟨ad, rfl, hb, hc⟩ := HX.out.at_ (show f + k < n by omega)
      have hg := HG.out k hlt
      by_cases h0 : xs.getD (f + k) 0 = 0
      · have HZ2 : Hid (∀ x ∈ ys.take (k + 1), x = 0) := by
          show ∀ x ∈ ys.take (k + 1), x = 0
          rw [take_succ_getD (by omega), hg, h0]
          intro x hx
          rcases List.mem_append.1 hx with h | h
          · exact HZ.out x h
          · simpa using h
        rw [h0] at hc
        clear hg h0 hylen
        go_wp2
        go_round
        case rel => exact ⟨k + 1, by omega, by go_num, HZ2⟩
        case measure => simp [intOf]; omega
      · have HF := Lib.hid (allZ_at (xs := ys) (k := k) (by omega) (by rw [hg]; exact h0))
        have hn0 : (((xs.getD (f + k) 0 : Nat) : Int) != 0) = true := by rw [bne_iff_ne]; omega
        clear hg h0 hylen
        generalize xs.getD (f + k) 0 = b at *
        go_wp2
        go_ret
        exact ⟨by rw [HF.out]; rfl, rfl⟩
    · have HF := Lib.hid (allZ_end (xs := ys) (k := k) (by omega) HZ.out)
      clear hylen
      go_wp2
      go_ret
      exact ⟨by rw [HF.out]; rfl, rfl⟩
end Go.Proofs.YtbjbpgbpefkbhaaDoor
