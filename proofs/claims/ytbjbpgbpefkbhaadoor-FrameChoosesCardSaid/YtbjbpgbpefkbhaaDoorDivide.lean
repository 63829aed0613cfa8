/- ledgerref2.divide: the remainder of the division of polynomials. -/
import Derived.Test.YtbjbpgbpefkbhaaDoorRefBits
import Derived.RegionTactic
namespace Go.Proofs.YtbjbpgbpefkbhaaDoor
open Go.RowKit
/-- The divisor's table lies where the program has it. -/
def DivT (w : World) : Prop := 0 < w.heap.size ∧ ∀ j, j < 33 → w.cell? ⟨0, j, none⟩ = some (.int .u8 (dv j : Nat))
theorem DivT.below {w w' : World} (h : DivT w) (hb : Below w.heap.size w w') : DivT w' := ⟨Nat.lt_of_lt_of_le h.1 hb.size, fun j hj => (hb.cell (p := ⟨0, j, none⟩) h.1).trans (h.2 j hj)⟩
theorem ownAt {e : TypeId} {w : World} {base g N c t : Nat} {f : Nat → Nat} (h : Own e w base (.slice (some ⟨g, 0, none⟩) N c) (upTo f N)) (ht : t < N) :
    w.cell? ⟨g, t, none⟩ = some (.int .u8 (f t : Nat)) ∧ w.frozen? ⟨g, t, none⟩ = false ∧ f t < 256 := by
  obtain ⟨g', c', e', _, _, hf, hc⟩ := h.shape (by rw [upTo_length]; omega)
  injection e' with e1 _ _
  injection e1 with e1
  injection e1 with e1 _ _
  subst e1
  have h1 := hc t (by rw [upTo_length]; exact ht)
  rw [upTo_get ht] at h1
  have h2 := h.isB _ (getD_mem (show t < (upTo f N).length by rw [upTo_length]; exact ht))
  rw [upTo_get ht] at h2
  exact ⟨h1, hf t, h2⟩
theorem ownSet {e : TypeId} {w : World} {base g N c t x : Nat} {f f' : Nat → Nat} (h : Own e w base (.slice (some ⟨g, 0, none⟩) N c) (upTo f N)) (hx : x < 256) (h1 : f' t = x) (h2 : ∀ u, u < N → u ≠ t → f' u = f u) :
    Own e (w.setCell ⟨g, t, none⟩ (.int .u8 (x : Int))) base (.slice (some ⟨g, 0, none⟩) N c) (upTo f' N) := by
  have hl : (upTo f N).length = N := upTo_length f N
  have h' : Own e w base (.slice (some ⟨g, 0, none⟩) (upTo f N).length c) (upTo f N) := by rw [hl]; exact h
  have := h'.set t x hx
  rwa [hl, upTo_set h1 h2] at this
set_option maxHeartbeats 3000000 in
theorem divide_any (s : Nat) (A : Option Addr) (n c : Nat) (xs : List Nat) (w : World) (hs : s < 4294967296) (hx : RB w A n xs) (hn : 8 * n + 32 ≤ 140737488355328) (hd : DivT w) :
    Calls Tryd.prog 63 #[.int .u32 s, .slice A n c] w fun e w' => e = .returned (.int .u32 (feedN s xs : Nat)) ∧ Below w.heap.size w w' := by
  have HB0 := Lib.hid (bits_any A n c xs w hx (by omega))
  have HD := Lib.hid hd
  have HX := Lib.hid hx
  clear hx hd
  go_enter Tryd.func63, Tryd.ntmps63
  go_wp2_with fail
  refine HB0.out.mono ?_
  rintro e w1 ⟨v1, rfl, hown1, hb1⟩
  have HO1 := Lib.hid hown1
  have HB1 := Lib.hid hb1
  obtain ⟨A1, c1, rfl, _⟩ := hown1.form
  rw [upTo_length] at HO1
  simp only [upTo_length]
  clear hown1 hb1 HB0
  go_wp2
  go_loopw [5, 7] (fun v i wr => ∃ k : Nat, k ≤ 32 ∧ i = .int .i64 k ∧ Hid (OwnU wr w.heap.size v (upTo (mbit xs) (8 * n + k))) ∧ Hid (Below w.heap.size w wr)) (fun _ i _ => 32 - (intOf i).toNat)
  case atStart => exact ⟨0, by omega, rfl, HO1.out, HB1.out⟩
  case round =>
    clear HO1 HB1
    obtain ⟨k, hk, rfl, HO, HB⟩ := hrel
    by_cases hlt : k < 32
    · have hl : (upTo (mbit xs) (8 * n + k)).length + 1 ≤ 140737488355328 := by rw [upTo_length]; omega
      have HZ : Hid (mbit xs (8 * n + k) = 0) := mbit_out (by rw [HX.out.1]; omega)
      go_wp2_with (at_builtin; refine append1 und_bytes info_byte wr rfl (.tmp 21) (.tmp 22) rfl w.heap.size _ (upTo (mbit xs) (8 * n + k)) HO.out 0 (by omega) rfl rfl hl HB.out.size ?_; intro v' w1 hown1 hgrow1)
      have HB1 := Lib.hid (HB.out.grown hgrow1 HB.out.size HO.out.ge)
      go_roundw
      case rel => exact ⟨k + 1, by omega, by go_num, by rw [← Nat.add_assoc, upTo_succ, HZ.out]; exact hown1, HB1.out⟩
      case measure => simp [intOf]; omega
    · have HN : Hid (k = 32) := by show k = 32; omega
      have ho := HO.out
      rw [HN.out] at ho
      obtain ⟨g, c2, e2, hbg, _, hfr0, _⟩ := ho.shape (by rw [upTo_length]; omega)
      rw [upTo_length] at e2
      have HO2 := Lib.hid ho
      subst e2
      clear ho HO
      go_wp2
      go_loopw [8] (fun i wr => ∃ k : Nat, k ≤ 32 ∧ i = .int .i64 k ∧ Hid (OwnU wr w.heap.size (.slice (some ⟨g, 0, none⟩) (8 * n + 32) c2) (upTo (mixed s (mbit xs) k) (8 * n + 32))) ∧ Hid (Below w.heap.size w wr)) (fun i _ => 32 - (intOf i).toNat)
      case atStart => exact ⟨0, by omega, rfl, HO2.out, HB.out⟩
      case round =>
        clear HO2 HB
        obtain ⟨k2, hk2, rfl, HO, HB⟩ := hrel
        by_cases hlt2 : k2 < 32
        · obtain ⟨hc, hf, hx8⟩ := ownAt HO.out (show k2 < 8 * n + 32 by omega)
          have hmx : mixed s (mbit xs) k2 k2 = mbit xs k2 := if_neg (by omega)
          rw [hmx] at hc hx8
          have hbit := bit32 s k2 hs
          have hb2 : s / 2 ^ k2 % 2 < 2 := by omega
          have hxor := xor8 (mbit xs k2) (s / 2 ^ k2 % 2) hx8 (by omega)
          have HS := Lib.hid (ownSet (f' := mixed s (mbit xs) (k2 + 1)) (t := k2) (x := mbit xs k2 ^^^ s / 2 ^ k2 % 2) HO.out (xor_lt8 hx8 (by omega)) (by unfold mixed; rw [if_pos (by omega), Nat.xor_comm]) (fun u _ hu => by
            unfold mixed
            by_cases h : u < k2
            · rw [if_pos h, if_pos (by omega)]
            · rw [if_neg h, if_neg (by omega)]))
          have HB2 := Lib.hid (HB.out.setCell (p := ⟨g, k2, none⟩) hbg (.int .u8 ((mbit xs k2 ^^^ s / 2 ^ k2 % 2 : Nat) : Int)))
          clear hmx
          generalize mbit xs k2 = m2 at *
          generalize s / 2 ^ k2 % 2 = b2 at *
          go_wp2
          go_roundw
          case rel => exact ⟨k2 + 1, by omega, by go_num, HS.out, HB2.out⟩
          case measure => simp [intOf]; omega
        · have HO3 : Hid (OwnU wr w.heap.size (.slice (some ⟨g, 0, none⟩) (8 * n + 32) c2) (upTo (lay s (mbit xs) 0) (8 * n + 32))) := by
            have h := HO.out
            rw [show k2 = 32 by omega, upTo_congr (fun t _ => mixed_done s (mbit xs) t)] at h
            exact h
          clear HO
          go_wp2
          go_loopw [9] (fun i wr => ∃ k : Nat, ∃ f : Nat → Nat, k ≤ 8 * n ∧ i = .int .i64 k ∧ Hid (∀ t, k ≤ t → f t = lay s (mbit xs) k t) ∧ Hid (OwnU wr w.heap.size (.slice (some ⟨g, 0, none⟩) (8 * n + 32) c2) (upTo f (8 * n + 32))) ∧ Hid (Below w.heap.size w wr)) (fun i _ => 8 * n - (intOf i).toNat)
          case atStart => exact ⟨0, _, by omega, rfl, fun _ _ => rfl, HO3.out, HB.out⟩
          case round =>
            clear HO3 HB
            obtain ⟨i3, f, hi3, rfl, HF, HO, HB⟩ := hrel
            obtain ⟨wo, hwo⟩ : ∃ wo : World, wo = wr := ⟨_, rfl⟩
            subst hwo
            by_cases hlt3 : i3 < 8 * n
            · obtain ⟨hc, _, hx8⟩ := ownAt HO.out (show i3 < 8 * n + 32 by omega)
              have hfi := HF.out i3 (Nat.le_refl _)
              have hfl : f i3 < 2 := by rw [hfi]; exact lay_lt s _ (mbit_lt xs) _ _
              by_cases hb1 : f i3 = 1
              · have hc1 : wo.cell? ⟨g, i3, none⟩ = some (.int .u8 1) := by rw [hc, hb1]; rfl
                have HST : Hid (∀ t, i3 + 1 ≤ t → lay s (mbit xs) (i3 + 1) t = lay s (mbit xs) i3 t ^^^ (if t - i3 < 33 then dv (t - i3) else 0)) := fun t ht => by
                  rw [lay_step hs (mbit_lt xs) ht, ← hfi, hb1]
                  simp
                clear hc hfi hfl hb1 hx8
                go_wp2
                go_loopw [10] (fun i wr => ∃ j : Nat, ∃ f2 : Nat → Nat, j ≤ 33 ∧ i = .int .i64 j ∧ Hid (∀ t, i3 ≤ t → f2 t = lay s (mbit xs) i3 t ^^^ (if t - i3 < j then dv (t - i3) else 0)) ∧ Hid (OwnU wr w.heap.size (.slice (some ⟨g, 0, none⟩) (8 * n + 32) c2) (upTo f2 (8 * n + 32))) ∧ Hid (Below w.heap.size w wr)) (fun i _ => 33 - (intOf i).toNat)
                case atStart => exact ⟨0, f, by omega, rfl, fun t ht => by rw [if_neg (by omega), Nat.xor_zero]; exact HF.out t ht, HO.out, HB.out⟩
                case round =>
                  clear HF HO HB hc1
                  obtain ⟨j, f2, hj, rfl, HF, HO, HB⟩ := hrel
                  by_cases hjt : j < 33
                  · obtain ⟨hc, hf, hx8⟩ := ownAt HO.out (show i3 + j < 8 * n + 32 by omega)
                    have hdv := ((HD.out.below HB.out).2 j hjt)
                    have hd2 := dv_lt j
                    have hxor := xor8 (f2 (i3 + j)) (dv j) hx8 (by omega)
                    have HS := Lib.hid (ownSet (f' := fun t => if t = i3 + j then f2 (i3 + j) ^^^ dv j else f2 t) (t := i3 + j) (x := f2 (i3 + j) ^^^ dv j) HO.out (xor_lt8 hx8 (by omega)) (if_pos rfl) (fun u _ hu => if_neg hu))
                    have HB2 := Lib.hid (HB.out.setCell (p := ⟨g, i3 + j, none⟩) hbg (.int .u8 ((f2 (i3 + j) ^^^ dv j : Nat) : Int)))
                    have HF2 : Hid (∀ t, i3 ≤ t → (fun t => if t = i3 + j then f2 (i3 + j) ^^^ dv j else f2 t) t = lay s (mbit xs) i3 t ^^^ (if t - i3 < j + 1 then dv (t - i3) else 0)) := fun t ht => by
                      by_cases e : t = i3 + j
                      · subst e
                        show (if i3 + j = i3 + j then _ else _) = _
                        rw [if_pos rfl, HF.out _ ht, if_neg (by omega), Nat.xor_zero, if_pos (by omega), show i3 + j - i3 = j by omega]
                      · show (if t = i3 + j then _ else _) = _
                        rw [if_neg e, HF.out t ht]
                        by_cases h : t - i3 < j
                        · rw [if_pos h, if_pos (by omega)]
                        · rw [if_neg h, if_neg (by omega)]
                    clear HF
                    generalize (fun t => if t = i3 + j then f2 (i3 + j) ^^^ dv j else f2 t) = f4 at *
                    generalize f2 (i3 + j) = a1 at *
                    generalize dv j = b1 at *
                    go_wp2
                    go_region
                    go_wp2
                    go_roundw
                    case rel => exact ⟨j + 1, f4, by omega, by go_num, HF2.out, HS.out, HB2.out.drew⟩
                    case measure => simp [intOf]; omega
                  · have HF3 : Hid (∀ t, i3 + 1 ≤ t → f2 t = lay s (mbit xs) (i3 + 1) t) := fun t ht => by
                      rw [HF.out t (by omega), HST.out t ht, show j = 33 by omega]
                    clear HF HST
                    go_wp2
                    go_roundw
                    case rel => exact ⟨i3 + 1, f2, by omega, by go_num, HF3.out, HO.out, HB.out⟩
                    case measure => simp [intOf]; omega
              · have ht : (((f i3 : Nat) : Int) == 1) = false := by rw [beq_eq_false_iff_ne]; omega
                have HF3 : Hid (∀ t, i3 + 1 ≤ t → f t = lay s (mbit xs) (i3 + 1) t) := fun t ht => by
                  rw [HF.out t (by omega), lay_step hs (mbit_lt xs) ht, ← hfi, if_neg (fun h => hb1 h.1), Nat.xor_zero]
                clear HF hfi hfl hb1
                generalize f i3 = fi at *
                go_wp2
                go_roundw
                case rel => exact ⟨i3 + 1, f, by omega, by go_num, HF3.out, HO.out, HB.out⟩
                case measure => simp [intOf]; omega
            · have HI3 : Hid (i3 = 8 * n) := by show i3 = 8 * n; omega
              have hR : stB s (mbit xs) (8 * n) = feedN s xs := by
                rw [← HX.out.1]
                exact stB_feed s xs HX.out.2.1
              have HBIT : Hid (∀ i, i < 32 → f (8 * n + i) = feedN s xs / 2 ^ i % 2) := fun i hi => by
                rw [HF.out _ (by rw [HI3.out]; omega), HI3.out, ← hR]
                have := lay_end (s := s) (xs := xs) i hi
                rwa [HX.out.1] at this
              have hRl : feedN s xs < 4294967296 := feedN_lt HX.out.2.1 hs
              clear hR HF
              generalize hRR : feedN s xs = R at *
              have HRR := Lib.hid hRR
              clear hRR
              go_wp2
              go_loopw [11, 12] (fun r i wr => ∃ k : Nat, k ≤ 32 ∧ i = .int .i64 k ∧ r = .int .u32 (R % 2 ^ k : Nat) ∧ Hid (OwnU wr w.heap.size (.slice (some ⟨g, 0, none⟩) (8 * n + 32) c2) (upTo f (8 * n + 32))) ∧ Hid (Below w.heap.size w wr)) (fun _ i _ => 32 - (intOf i).toNat)
              case atStart => exact ⟨0, by omega, rfl, by simp [Nat.mod_one], HO.out, HB.out⟩
              case round =>
                clear HO HB
                obtain ⟨k5, hk5, rfl, rfl, HO, HB⟩ := hrel
                by_cases hlt5 : k5 < 32
                · obtain ⟨hc, _, _⟩ := ownAt HO.out (show 8 * n + k5 < 8 * n + 32 by omega)
                  rw [HBIT.out k5 hlt5] at hc
                  have hb2 : R / 2 ^ k5 % 2 < 2 := by omega
                  have hrl : R % 2 ^ k5 < 2 ^ k5 := Nat.mod_lt _ (Nat.two_pow_pos k5)
                  have hor := or32bit (R % 2 ^ k5) (R / 2 ^ k5 % 2) k5 hrl hb2 hlt5
                  have HSUM := Lib.hid (bits_sum R k5)
                  clear hrl
                  generalize R / 2 ^ k5 % 2 = b at *
                  generalize R % 2 ^ k5 = r at *
                  go_wp2
                  go_roundw
                  case rel => exact ⟨k5 + 1, by omega, by go_num, by rw [HSUM.out]; simp, HO.out, HB.out⟩
                  case measure => simp [intOf]; omega
                · have HR : Hid (R % 2 ^ k5 = R) := by
                    show R % 2 ^ k5 = R
                    rw [show k5 = 32 by omega]
                    exact Nat.mod_eq_of_lt hRl
                  generalize R % 2 ^ k5 = r at *
                  go_wp2
                  go_ret
                  exact ⟨by rw [HRR.out, ← HR.out]; rfl, HB.out⟩
end Go.Proofs.YtbjbpgbpefkbhaaDoor
