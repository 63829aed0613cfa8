/- ledgerref1.filled. -/
import Derived.Test.YtfnlhfaihoojfaaDoorBehind
namespace Go.Proofs.YtfnlhfaihoojfaaDoor
open Go.RowKit
theorem info_byte : (Tryd.prog.info? 5).map (fun i => (i.zero, i.size, i.bytes)) = some (some (.int .u8 0), 1, 1) := by kernel_rfl
abbrev OwnU (w : World) (base : Nat) (v : Value) (xs : List Nat) : Prop := Own 5 w base v xs
def fillJ (xs : List Nat) (j : Nat) : List Nat := xs ++ (128 :: List.replicate j 0)
theorem fillJ_length (xs : List Nat) (j : Nat) : (fillJ xs j).length = xs.length + 1 + j := by simp [fillJ]; omega
theorem fillJ_next (xs : List Nat) (j : Nat) : fillJ xs j ++ [0] = fillJ xs (j + 1) := by
  simp [fillJ, List.replicate_succ']
theorem be64_next (long : Nat) {k : Nat} (h : k < 8) : (be64 long).take k ++ [long / 2 ^ (56 - 8 * k) % 256] = (be64 long).take (k + 1) := by
  rw [take_succ_getD (by rw [be64_length]; exact h), be64_at long h]
theorem fill_end (xs : List Nat) : fillJ xs ((119 - xs.length % 64) % 64) ++ (be64 (8 * xs.length % 18446744073709551616)).take 8 = fillN xs := by
  unfold fillJ fillN padN
  rw [List.take_of_length_le (by rw [be64_length]; exact Nat.le_refl _)]
  simp
def OwnRet (w : World) (ys : List Nat) (e : Ending) (w' : World) : Prop := ∃ v, e = .returned v ∧ OwnU w' w.heap.size v ys ∧ Below w.heap.size w w'
set_option maxRecDepth 100000 in
set_option maxHeartbeats 4000000 in
theorem filled_any (A : Option Addr) (n c : Nat) (xs : List Nat) (w : World) (hx : RB w A n xs) (hA : A = none → c = 0) (hn : n + 128 ≤ 140737488355328) :
    Calls Tryd.prog 65 #[.slice A n c] w (OwnRet w (fillN xs)) := by
  have HX := Lib.hid hx
  have HA := Lib.hid hA
  have hlx := hx.1
  have HLX := Lib.hid hlx
  clear hx hA hlx
  obtain ⟨m, HM⟩ : ∃ m, Hid (∀ _ : Nat, (119 - n % 64) % 64 = m) := ⟨_, fun _ => rfl⟩
  have hm63 : m ≤ 63 := by
    have := HM.out 0
    omega
  obtain ⟨long, HLG⟩ : ∃ long, Hid (∀ _ : Nat, 8 * n % 18446744073709551616 = long) := ⟨_, fun _ => rfl⟩
  go_enter Tryd.func65, Tryd.ntmps65
  go_wp2_with (at_builtin; first
    | (refine appendRB und_bytes info_byte w rfl (.tmp 6) (.tmp 7) rfl w.heap.size (.slice none 0 0) [] (Own.nil _ _ _) A n c xs HX.out HA.out rfl rfl (by simp; omega) (Nat.le_refl _) ?_; intro v1 w1 hown1 hgrow1; obtain ⟨A1, c1, rfl, _⟩ := hown1.form; have HO1 := Lib.hid hown1; have HG1 := Lib.hid hgrow1; have hs1 := hgrow1.size; clear hown1 hgrow1)
    | (refine append1 und_bytes info_byte w1 rfl (.tmp 9) (.tmp 10) rfl w.heap.size _ ([] ++ xs) HO1.out 128 (by omega) rfl rfl (by rw [List.nil_append, HLX.out]; omega) hs1 ?_; intro v2 w2 hown2 hgrow2))
  obtain ⟨A2, c2, rfl, _⟩ := hown2.form
  have HO2 : Hid (OwnU w2 w.heap.size (.slice A2 (n + 1 + 0) c2) (fillJ xs 0)) := by
    have h := hown2
    have e : (xs ++ [128] : List Nat).length = n + 1 + 0 := by simp [HLX.out]
    rw [List.nil_append, e] at h
    exact h
  have HB2 : Hid (Below w.heap.size w w2) := ((Below.refl w.heap.size w).grown HG1.out (Nat.le_refl _) (fun k hk => by cases hk)).grown hgrow2 hs1 HO1.out.ge
  have hl2 : (([] ++ xs ++ [128] : List Nat)).length = n + 1 := by simp [HLX.out]
  rw [hl2]
  clear hown2 hgrow2 HO1 HG1 hs1 hl2
  go_loopw [3] (fun u wr => ∃ (j : Nat) (B : Option Addr) (d : Nat), j ≤ m ∧ u = .slice B (n + 1 + j) d ∧ Hid (OwnU wr w.heap.size (.slice B (n + 1 + j) d) (fillJ xs j)) ∧ Hid (Below w.heap.size w wr)) (fun u _ => n + 1 + m - lenOf u)
  case atStart => exact ⟨0, A2, c2, by omega, rfl, HO2.out, HB2.out⟩
  case round =>
    clear HO2 HB2
    obtain ⟨j, B, d, hj, rfl, HO, HB⟩ := hrel
    obtain ⟨w3, rfl⟩ : ∃ w3, w3 = wr := ⟨_, rfl⟩
    have hlj : (fillJ xs j).length = n + 1 + j := by rw [fillJ_length, HLX.out]
    have HLJ := Lib.hid hlj
    by_cases hlt : j < m
    · have ht : (((n + 1 + j : Nat) : Int) % 64 == 56) = false := by
        have := HM.out 0
        simp; omega
      have ht' : (((n + 1 + j : Nat) : Int) % 64 != 56) = true := by
        have := HM.out 0
        simp; omega
      clear hlj
      go_wp2_with (at_builtin; refine append1 und_bytes info_byte w3 rfl (.tmp 16) (.tmp 17) rfl w.heap.size _ (fillJ xs j) HO.out 0 (by omega) rfl rfl (by rw [HLJ.out]; omega) HB.out.size ?_; intro v4 w4 hown4 hgrow4)
      obtain ⟨A4, c4, rfl, _⟩ := hown4.form
      have hl4 : (fillJ xs j ++ [0]).length = n + 1 + (j + 1) := by rw [List.length_append, HLJ.out]; rfl
      rw [hl4] at hown4
      rw [hl4]
      have HO4 : Hid (OwnU w4 w.heap.size (.slice A4 (n + 1 + (j + 1)) c4) (fillJ xs (j + 1))) := by
        rw [← fillJ_next]
        exact hown4
      have HB4 : Hid (Below w.heap.size w w4) := HB.out.grown hgrow4 HB.out.size HO.out.ge
      clear hown4 hgrow4 hl4
      go_roundw
      case rel => exact ⟨j + 1, A4, c4, by omega, rfl, HO4.out, HB4.out⟩
      case measure => simp [lenOf]; omega
    · have ht : (((n + 1 + j : Nat) : Int) % 64 == 56) = true := by
        have := HM.out 0
        simp; omega
      have ht' : (((n + 1 + j : Nat) : Int) % 64 != 56) = false := by
        have := HM.out 0
        simp; omega
      have hlg : IntKind.u64.wrap ((n : Int) * 8) = (long : Int) := by
        rw [← HLG.out 0]
        simp [IntKind.wrap, IntKind.bits, IntKind.signed]
        omega
      have HJ : Hid (∀ _ : Nat, j = m) := fun _ => by omega
      go_wp2_with fail
      have e15 : (((n : Int) + 1 + (j : Int)) % 64 != 56) = false := by
        have := HM.out 0
        simp; omega
      rw [e15]
      clear ht ht' hlg e15
      go_loopw [3, 5] (fun u i wr => ∃ (k : Nat) (B : Option Addr) (d : Nat), k ≤ 8 ∧ i = .int .i64 k ∧ u = .slice B (n + 1 + j + k) d ∧ Hid (OwnU wr w.heap.size (.slice B (n + 1 + j + k) d) (fillJ xs j ++ (be64 long).take k)) ∧ Hid (Below w.heap.size w wr)) (fun _ i _ => 8 - (intOf i).toNat)
      case atStart => exact ⟨0, B, d, by omega, rfl, rfl, by rw [List.take_zero, List.append_nil]; exact HO.out, HB.out⟩
      case round =>
        clear HO HB
        obtain ⟨k, B5, d5, hk, rfl, rfl, HO, HB⟩ := hrel
        obtain ⟨w5, rfl⟩ : ∃ w5, w5 = wr := ⟨_, rfl⟩
        have hlk : (fillJ xs j ++ (be64 long).take k).length = n + 1 + j + k := by rw [List.length_append, HLJ.out, List.length_take, be64_length]; omega
        have HLK := Lib.hid hlk
        clear hlk
        by_cases hlt : k < 8
        · have i0 : (0 : Int) ≤ 56 - 8 * (k : Int) := by omega
          have i1 : IntKind.u64.wrap (56 - 8 * (k : Int)) = 56 - 8 * (k : Int) := IntWalk.u64_in _ (by omega)
          have n0 : (56 - 8 * (k : Int)).toNat = 56 - 8 * k := by omega
          have hv : (long : Int) / 2 ^ (56 - 8 * k) % 256 = ((long / 2 ^ (56 - 8 * k) % 256 : Nat) : Int) := by simp
          obtain ⟨v, HV⟩ : ∃ v, Hid (∀ _ : Nat, long / 2 ^ (56 - 8 * k) % 256 = v) := ⟨_, fun _ => rfl⟩
          rw [HV.out 0] at hv
          have hv256 : v < 256 := by
            rw [← HV.out 0]
            exact Nat.mod_lt _ (by decide)
          go_wp2_with (at_builtin; refine append1 und_bytes info_byte w5 rfl (.tmp 27) (.tmp 35) rfl w.heap.size _ (fillJ xs j ++ (be64 long).take k) HO.out v hv256 rfl rfl (by rw [HLK.out]; omega) HB.out.size ?_; intro v6 w6 hown6 hgrow6)
          obtain ⟨A6, c6, rfl, _⟩ := hown6.form
          have hl6 : (fillJ xs j ++ (be64 long).take k ++ [v]).length = n + 1 + j + (k + 1) := by rw [List.length_append, HLK.out]; rfl
          rw [hl6] at hown6
          rw [hl6]
          have HO6 : Hid (OwnU w6 w.heap.size (.slice A6 (n + 1 + j + (k + 1)) c6) (fillJ xs j ++ (be64 long).take (k + 1))) := by
            rw [← be64_next long hlt, HV.out 0, ← List.append_assoc]
            exact hown6
          have HB6 : Hid (Below w.heap.size w w6) := HB.out.grown hgrow6 HB.out.size HO.out.ge
          clear hown6 hgrow6 hl6
          go_roundw
          case rel => exact ⟨k + 1, A6, c6, by omega, by go_num, rfl, HO6.out, HB6.out⟩
          case measure => simp [intOf]; omega
        · have HF : Hid (OwnU w5 w.heap.size (.slice B5 (n + 1 + j + k) d5) (fillN xs)) := by
            have h := HO.out
            have e1 := HJ.out 0
            have e2 := HM.out 0
            have e3 := HLG.out 0
            rw [← HLX.out] at e2 e3
            rw [show k = 8 by omega] at h ⊢
            rw [← fill_end xs, e2, e3, ← e1]
            exact h
          go_wp2_with fail
          go_ret
          exact ⟨_, rfl, HF.out, HB.out⟩
end Go.Proofs.YtfnlhfaihoojfaaDoor
