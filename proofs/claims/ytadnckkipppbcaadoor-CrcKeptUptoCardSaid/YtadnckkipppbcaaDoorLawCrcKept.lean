/- ledgerlaw2.CrcKept: the walk. -/
import Derived.Test.YtadnckkipppbcaaDoorKept
import Derived.Test.YtadnckkipppbcaaDoorRefSeal
import Derived.Test.YtadnckkipppbcaaDoorSeal
import Derived.Test.YtadnckkipppbcaaDoorSame
import Derived.Test.YtadnckkipppbcaaDoorRows2
import Derived.Deep.Slices
import Derived.Deep.RegionHeld3
import Derived.Deep.Draws
import Derived.Lib.SlBytesConst
namespace Go.Proofs.YtadnckkipppbcaaDoor
open Go.RowKit
/-- The texts that came in. -/
def TextsAt (w : World) (P : Option Addr) (N lim : Nat) (T : Nat → Option Addr × Nat × List Nat) : Prop :=
  ∀ k, k < N → ∃ a, P = some a ∧ a.block < w.heap.size ∧ w.cell? (a.add k) = some (.slice (T k).1 (T k).2.2.length (T k).2.1) ∧ RB w (T k).1 (T k).2.2.length (T k).2.2 ∧ (T k).2.2.length ≤ (T k).2.1 ∧ (T k).2.2.length ≤ lim
theorem texts_of {w : World} {P : Option Addr} {N lim : Nat} (h : RBs w P N lim) : ∃ T, TextsAt w P N lim T :=
  Deep.choose_lt (p := fun k (T : Option Addr × Nat × List Nat) => ∃ a, P = some a ∧ a.block < w.heap.size ∧ w.cell? (a.add k) = some (.slice T.1 T.2.2.length T.2.1) ∧ RB w T.1 T.2.2.length T.2.2 ∧ T.2.2.length ≤ T.2.1 ∧ T.2.2.length ≤ lim) (fun k hk => by
    obtain ⟨a, A, L, C, xs, h1, h2, h3, h4, h5, h6⟩ := h.at_ hk
    obtain rfl : xs.length = L := h4.1
    exact ⟨(A, C, xs), a, h1, h2, h3, h4, h5, h6⟩)
theorem kseal1 (W : World) : Calls Tryd.prog 19 #[.slice (some ⟨W.heap.size, 0, none⟩) 3 3] (W.alloc (.cells #[Value.int .u8 97, Value.int .u8 98, Value.int .u8 99] 5 (3, 4))) fun e w' => ∃ v, e = .returned v ∧ OwnU w' (W.alloc (.cells #[Value.int .u8 97, Value.int .u8 98, Value.int .u8 99] 5 (3, 4))).heap.size v [97, 98, 99, 194, 65, 36, 53] ∧ Below (W.alloc (.cells #[Value.int .u8 97, Value.int .u8 98, Value.int .u8 99] 5 (3, 4))).heap.size (W.alloc (.cells #[Value.int .u8 97, Value.int .u8 98, Value.int .u8 99] 5 (3, 4))) w' := by
  have h := seal_any _ 3 3 [97, 98, 99] _ (RB_new W 5 #[Value.int .u8 97, Value.int .u8 98, Value.int .u8 99] (3, 4) [97, 98, 99] (by unfold IsB; decide) rfl) (fun h => by cases h) (by omega)
  rwa [show sealN [97, 98, 99] = [97, 98, 99, 194, 65, 36, 53] by decide +kernel] at h
theorem ks1 (W : World) (A : Option Addr) (c : Nat) (h : RB W A 7 [97, 98, 99, 194, 65, 36, 53]) : Calls Tryd.prog 18 #[.slice A 7 c, .slice (some ⟨W.heap.size, 0, none⟩) 7 7] (W.alloc (.cells #[Value.int .u8 97, Value.int .u8 98, Value.int .u8 99, Value.int .u8 194, Value.int .u8 65, Value.int .u8 36, Value.int .u8 53] 5)) fun e w' => e = .returned (.bool true) ∧ ∃ q, w' = (W.alloc (.cells #[Value.int .u8 97, Value.int .u8 98, Value.int .u8 99, Value.int .u8 194, Value.int .u8 65, Value.int .u8 36, Value.int .u8 53] 5)).drewN q :=
  same_true (h.alloc _) (RB_new W 5 #[Value.int .u8 97, Value.int .u8 98, Value.int .u8 99, Value.int .u8 194, Value.int .u8 65, Value.int .u8 36, Value.int .u8 53] (0, 0) [97, 98, 99, 194, 65, 36, 53] (by unfold IsB; decide) rfl) (by omega) rfl
/-- The Book begins. -/
theorem KSt.begin {w0 w : World} (zf : Nat → List Nat) (hb : Below w0.heap.size w0 w) :
    KSt w0 (w.alloc (.cells #[.slice none 0 0, .slice none 0 0, .slice none 0 0, .slice none 0 0] 37)) (w.heap.size + 1) w.heap.size 0 0 (.slice none 0 0) zf := by
  have hs : (w.alloc (.cells #[.slice none 0 0, .slice none 0 0, .slice none 0 0, .slice none 0 0] 37)).heap.size = w.heap.size + 1 := by simp
  have h0 := hb.size
  have hheads : Heads (w.alloc (.cells #[.slice none 0 0, .slice none 0 0, .slice none 0 0, .slice none 0 0] 37)) w.heap.size w0.heap.size (.slice none 0 0) (.slice none 0 0) (.slice none 0 0) (.slice none 0 0) [] [] [] [] (fun B => B = w.heap.size) := by
    refine ⟨BlkIs.new w _ _, World.ownsRow_nil _ _ _ _, World.ownsRow_nil _ _ _ _, World.ownsRow_nil _ _ _ _, World.ownsRow_nil _ _ _ _, apart_nil _ _ _, apart_nil _ _ _, apart_nil _ _ _, apart_nil _ _ _, apart_nil _ _ _, apart_nil _ _ _, ?_, ?_, ?_⟩
    · exact ⟨fun h => (by cases h), fun h => (by cases h), fun h => (by cases h), fun h => (by cases h)⟩
    · exact ⟨rfl, fun B h => by rcases h with h | h | h | h <;> cases h⟩
    · intro B h
      subst h
      exact ⟨h0, by omega⟩
  refine ⟨[], fun B => B = w.heap.size, fun _ => False, [], ⟨⟨_, _, _, _, hheads⟩, ?_, ?_, ?_⟩, rfl, Asked.nil _ _ _ _ _, rfl, hb.alloc h0 _, ?_, ?_, ?_, ?_, ?_⟩
  · intro i q h
    simp at h
  · exact fun _ _ h => h
  · exact fun _ h => h.elim
  · rintro B (h | h)
    · omega
    · exact h.elim
  · intro B h
    cases h
  · intro i y B h
    simp at h
  · omega
  · omega
set_option maxRecDepth 20000 in
set_option maxHeartbeats 8000000 in
theorem crcKept_walk (P0 : Option Addr) (N cap : Nat) (w0 : World) (hp : RBs w0 P0 N 1048576) (hN : N ≤ 1048576) (hd : DivT w0) :
    Calls Tryd.prog 6 #[.slice P0 N cap] w0 fun e w' => e = .returned (.bool true) ∧ Below w0.heap.size w0 w' := by
  have kc := fun (w : World) (C : Array Value) (n c : Nat) => Lib.run_convert_bytes_const (P := Tryd.prog) w 22 5 C n c und_bytes (by kernel_rfl)
  obtain ⟨T, hT⟩ := texts_of hp
  have HT := Lib.hid hT
  have HD := Lib.hid hd
  obtain ⟨zf, hzf⟩ : ∃ zf : Nat → List Nat, ∀ i, zf i = sealN (T (i / 2)).2.2 := ⟨_, fun _ => rfl⟩
  have HZF := Lib.hid hzf
  have hN2 : (N : Int) ≤ 1048576 := by omega
  clear hp hT hd hzf hN
  go_enter Tryd.func6, Tryd.ntmps6
  go_wp2_with fail
  refine (kseal1 _).mono ?_
  rintro e w1 ⟨v, rfl, hown, hb⟩
  have HB1 := Lib.hid (((Below.refl w0.heap.size w0).alloc (Nat.le_refl _) _).trans (hb.mono (by simp)))
  obtain ⟨A1, c1, rfl, hr, _⟩ := hown.form
  have HR1 := Lib.hid hr
  clear hb hown hr
  go_wp2_with fail
  refine (ks1 w1 A1 c1 HR1.out).mono ?_
  rintro e w2 ⟨rfl, q, hq⟩
  have HB2 : Hid (Below w0.heap.size w0 w2) := by
    rw [hq]
    exact drewN_below (HB1.out.alloc HB1.out.size _) q
  clear hq HR1 HB1
  have HK := Lib.hid (KSt.begin zf HB2.out)
  go_wp2_with fail
  generalize w2.alloc (.cells #[.slice none 0 0, .slice none 0 0, .slice none 0 0, .slice none 0 0] 37) = w3 at *
  generalize w2.heap.size = gb at *
  obtain ⟨M0, HK⟩ : ∃ M, Hid (KSt w0 w3 M gb 0 0 (.slice none 0 0) zf) := ⟨_, HK⟩
  go_loopw [4, 5, 6, 7, 8] (fun va i _ _ _ wr => ∃ k : Nat, i = .int .i64 (k : Int) ∧ Hid (k ≤ N) ∧ ∃ A c, va = .slice A (2 * k) c ∧ ∃ M, Hid (KSt w0 wr M gb k (2 * k) (.slice A (2 * k) c) zf)) (fun _ i _ _ _ _ => N - (intOf i).toNat)
  case atStart => exact ⟨0, rfl, Nat.zero_le _, none, 0, rfl, M0, HK⟩
  case round =>
    clear HK HB2
    obtain ⟨k, rfl, HKN, A0, c0, rfl, M, HK⟩ := hrel
    by_cases hlt : (k : Int) < N
    · obtain ⟨a, rfl, ha, hcell, hrb, hcap, hlim⟩ := HT.out k (by omega)
      have HKB := Lib.hid (HK.out.below)
      have HX := Lib.hid (hrb.below HKB.out)
      have hcell2 := cell_later ha HKB.out hcell
      have HZ0 : Hid (zf (2 * k) = sealN (T k).2.2) := by
        show zf (2 * k) = _
        rw [HZF.out, show 2 * k / 2 = k by omega]
      have HZ1 : Hid (zf (2 * k + 1) = sealN (T k).2.2) := by
        show zf (2 * k + 1) = _
        rw [HZF.out, show (2 * k + 1) / 2 = k by omega]
      clear hrb hcell ha
      generalize T k = tk at *
      obtain ⟨A, c, xs⟩ := tk
      dsimp only at hcell2 hcap hlim HX HZ0 HZ1
      have hlim2 : (xs.length : Int) ≤ 1048576 := by omega
      have HSL : Hid ((sealN xs).length ≤ 1073741824) := by
        show (sealN xs).length ≤ _
        rw [sealN_length]; omega
      have HSE : Hid (∀ W A c, RB W A xs.length xs → (A = none → c = 0) → Calls Tryd.prog 19 #[.slice A xs.length c] W fun e w' => ∃ v, e = .returned v ∧ OwnU w' W.heap.size v (sealN xs) ∧ Below W.heap.size W w') := fun W A c h hA => seal_any A xs.length c xs W h hA (by omega)
      have HRE : Hid (∀ W A c, RB W A xs.length xs → DivT W → Calls Tryd.prog 20 #[.slice A xs.length c] W fun e w' => ∃ v, e = .returned v ∧ OwnU w' W.heap.size v (sealN xs) ∧ Below W.heap.size W w') := fun W A c h hd => refseal_any A xs.length c xs W h (by omega) hd
      have HMM := Lib.hid HK.out.le
      have HMG := Lib.hid HK.out.ge
      have HVA : Hid (∀ B, (Value.slice A0 (2 * k) c0).ownBlock = some B → B < M) := by
        obtain ⟨_, _, _, _, _, _, _, _, _, _, k7, _⟩ := HK.out
        exact k7
      go_wp2_with fail
      refine (copied_any _ _ _ _ wr HX.out (by omega)).mono ?_
      rintro e w1 ⟨vt, rfl, hown, hb⟩
      have HT1 := Lib.hid hown
      have HK1 := Lib.hid (HK.out.keep hb)
      have HS1 := Lib.hid hb.size
      have HTL := Lib.hid hown.lt
      obtain ⟨At, ct, rfl, _⟩ := hown.form
      clear hown hb HK HX hcell2
      go_wp2_with fail
      refine (copied_any _ _ _ _ w1 HT1.out.reads (by omega)).mono ?_
      rintro e w2 ⟨vu, rfl, hown, hb⟩
      have HU2 := Lib.hid hown
      have HT2 := Lib.hid (HT1.out.below hb)
      have HK2 := Lib.hid (HK1.out.keep hb)
      have HS2 := Lib.hid hb.size
      have HUL := Lib.hid hown.lt
      obtain ⟨Au, cu, rfl, _⟩ := hown.form
      have HUA : Hid (Au = none → cu = 0) := HU2.out.reads'.2.2.2
      clear hown hb HT1 HK1
      go_wp2_with fail
      refine (HSE.out w2 _ _ HU2.out.reads HUA.out).mono ?_
      rintro e w3 ⟨vs, rfl, hown, hb⟩
      have HV3 := Lib.hid hown
      have HU3 := Lib.hid (HU2.out.below hb)
      have HT3 := Lib.hid (HT2.out.below hb)
      have HK3 := Lib.hid (HK2.out.keep hb)
      have HS3 := Lib.hid hb.size
      have HVL := Lib.hid hown.lt
      obtain ⟨As, cs, rfl, _⟩ := hown.form
      clear hown hb HU2 HT2 HK2
      go_wp2_with fail
      refine (HRE.out w3 _ _ HT3.out.reads (HD.out.below HK3.out.below)).mono ?_
      rintro e w4 ⟨vr, rfl, hown, hb⟩
      obtain ⟨Ar, cr, rfl, hrr, _⟩ := hown.form
      have HR4 := Lib.hid hrr
      have HV4 := Lib.hid (HV3.out.below hb)
      have HU4 := Lib.hid (HU3.out.below hb)
      have HT4 := Lib.hid (HT3.out.below hb)
      have HK4 := Lib.hid (HK3.out.keep hb)
      have HS4 := Lib.hid hb.size
      clear hown hb hrr HU3 HT3 HK3 HV3
      go_wp2_with fail
      refine (same_true HV4.out.reads HR4.out (by have := HSL.out; omega) rfl).mono ?_
      rintro e w5 ⟨rfl, q, hq⟩
      have hb : Below w4.heap.size w4 w5 := by rw [hq]; exact drewN_below (Below.refl _ _) q
      have HV5 := Lib.hid (HV4.out.below hb)
      have HU5 := Lib.hid (HU4.out.below hb)
      have HT5 := Lib.hid (HT4.out.below hb)
      have HK5 := Lib.hid (HK4.out.keep hb)
      have HS5 := Lib.hid hb.size
      clear hq hb HU4 HT4 HK4 HV4 HR4
      go_wp2_with fail
      refine (put_K (.slice As (sealN xs).length cs) (sealN xs) HK5.out (HV5.out.mono (by have := HMM.out; have := HMG.out; have := HS1.out; have := HS2.out; omega)) (fun B hB => by have := (HVL.out B hB).1; have := HMM.out; have := HS1.out; have := HS2.out; omega) HSL.out (by omega)).mono ?_
      rintro e w6 ⟨rfl, hk, ht⟩
      have HK6 := Lib.hid hk
      have HU6 : Hid (OwnU w6 w1.heap.size (.slice Au xs.length cu) xs) := ht.own HU5.out fun B hB hU => by
        have h1 := HUL.out B hB
        have := HMM.out
        have := HS1.out
        rcases hU with hU | hU
        · omega
        · have := (HVL.out B hU).1
          omega
      have HT6 : Hid (OwnU w6 wr.heap.size (.slice At xs.length ct) xs) := ht.own HT5.out fun B hB hU => by
        have h1 := HTL.out B hB
        have := HMM.out
        have := HS2.out
        rcases hU with hU | hU
        · omega
        · have := (HVL.out B hU).1
          omega
      have HG6 : Hid (w0.heap.size ≤ w6.heap.size) := hk.below.size
      have HUV : Hid (∀ B, (Value.slice Au xs.length cu).ownBlock = some B → (Value.slice A0 (2 * k) c0).ownBlock ≠ some B) := fun B hB e => by
        have := (HUL.out B hB).1
        have := HVA.out B e
        have := HMM.out
        have := HS1.out
        omega
      have HTV : Hid (∀ B, (Value.slice At xs.length ct).ownBlock = some B → (Value.slice A0 (2 * k) c0).ownBlock ≠ some B) := fun B hB e => by
        have := (HTL.out B hB).1
        have := HVA.out B e
        have := HMM.out
        omega
      clear HVA
      clear hk ht HU5 HT5 HK5 HV5 HVL HUL HTL HS1 HS2 HS3 HS4 HS5 HMM HMG
      go_wp2_with fail
      refine (HSE.out w6 _ _ HU6.out.reads HUA.out).mono ?_
      rintro e w7 ⟨v1, rfl, hown, hb⟩
      have HY7 := Lib.hid hown
      have HU7 := Lib.hid (HU6.out.below hb)
      have HT7 := Lib.hid (HT6.out.below hb)
      have HK7 := Lib.hid (HK6.out.keep hb)
      have HS7 := Lib.hid hb.size
      obtain ⟨A1, c1, rfl, _⟩ := hown.form
      clear hown hb HU6 HT6 HK6
      go_wp2_with fail
      refine (HSE.out w7 _ _ HU7.out.reads HUA.out).mono ?_
      rintro e w8 ⟨v2, rfl, hown, hb⟩
      have HZ8 := Lib.hid hown
      have HYL := Lib.hid HY7.out.lt
      have HY8 := Lib.hid (HY7.out.below hb)
      have HU8 := Lib.hid (HU7.out.below hb)
      have HT8 := Lib.hid (HT7.out.below hb)
      have HK8 := Lib.hid (HK7.out.keep hb)
      have HS8 := Lib.hid hb.size
      obtain ⟨A2, c2, rfl, _⟩ := hown.form
      clear hown hb HU7 HT7 HK7 HY7
      obtain ⟨Q, H, C, ys, kk⟩ := HK8.out
      have HP := Lib.hid kk
      have HRW := Lib.hid kk.2.2.1.row
      have HYN := Lib.hid kk.2.2.2.1
      have HGB := Lib.hid kk.2.2.2.2.1.size
      clear kk HK8
      go_wp2_with (at_builtin; refine appendVals (o := ⟨some 48, _, _, _, _, _⟩) und_rows info_bytes w8 (by rfl) (.tmp 42) (.tmp 47) (by rfl) w0.heap.size _ ys HRW.out [.slice A1 (sealN xs).length c1, .slice A2 (sealN xs).length c2] (by intro u hu; simp at hu; rcases hu with rfl | rfl <;> rfl) #[.slice A1 (sealN xs).length c1, .slice A2 (sealN xs).length c2] rfl 2 rfl (by omega) (by rfl) w8.heap.size rfl (by rfl) (by have := HYN.out; omega) HGB.out ?_; intro va w9 hrow hgr hlies)
      have HK9 : Hid (KSt w0 w9 w9.heap.size gb (k + 1) (2 * k + 2) va zf) :=
        KSt.push HP.out.1 HP.out.2.1 HP.out.2.2.1 HP.out.2.2.2.1 HP.out.2.2.2.2.1 HP.out.2.2.2.2.2.1 HP.out.2.2.2.2.2.2.1 HP.out.2.2.2.2.2.2.2.1 (y1 := .slice A1 (sealN xs).length c1) (y2 := .slice A2 (sealN xs).length c2) (N1 := w7.heap.size)
          (by rw [HZ0.out]; exact HY8.out.mono (by have := HG6.out; omega)) (by rw [HZ1.out]; exact HZ8.out.mono (by have := HG6.out; have := HS7.out; omega)) HYL.out (fun B hB => HZ8.out.ge B hB) HS7.out hrow hgr hlies
      have HU9 : Hid (OwnU w9 w1.heap.size (.slice Au xs.length cu) xs) := (Touch.grown hgr).own HU8.out fun B hB e => HUV.out B hB e.symm
      have HT9 : Hid (OwnU w9 wr.heap.size (.slice At xs.length ct) xs) := (Touch.grown hgr).own HT8.out fun B hB e => HTV.out B hB e.symm
      clear HUV HTV
      clear hrow hgr hlies HP HRW HYN HGB HY8 HZ8 HYL HU8 HT8 HS7 HS8 HZ0 HZ1
      refine (held_K HK9.out (by omega)).mono ?_
      rintro e w10 ⟨rfl, rfl⟩
      go_wp2_with fail
      refine (same_true HT9.out.reads HU9.out.reads (by omega) rfl).mono ?_
      rintro e w11 ⟨rfl, q, hq⟩
      have hb : Below w10.heap.size w10 w11 := by rw [hq]; exact drewN_below (Below.refl _ _) q
      have HU11 := Lib.hid (HU9.out.below hb)
      have HT11 := Lib.hid (HT9.out.below hb)
      have HK11 := Lib.hid (HK9.out.keep hb)
      clear hq hb HU9 HT9 HK9
      go_wp2_with fail
      refine (sum_any _ _ _ _ w11 HU11.out.reads (by omega)).mono ?_
      rintro e w12 ⟨rfl, hb⟩
      have HT12 := Lib.hid (HT11.out.below hb)
      have HK12 := Lib.hid (HK11.out.keep hb)
      have HRS := Lib.hid (refsum_any _ _ ct _ w12 HT12.out.reads (by omega) (HD.out.below HK12.out.below))
      generalize updN 0 xs = su at *
      clear hb HU11 HT11 HK11
      go_wp2_with fail
      refine HRS.out.mono ?_
      rintro e w13 ⟨rfl, hb⟩
      have HK13 := Lib.hid (HK12.out.keep hb)
      clear hb HT12 HK12 HRS
      go_wp2_with fail
      refine (held_K HK13.out (by omega)).mono ?_
      rintro e w14 ⟨rfl, rfl⟩
      go_wp2_with fail
      obtain ⟨A9, c9, ev⟩ := HK13.out.len
      go_roundw
      case rel => exact ⟨k + 1, by go_num, (show k + 1 ≤ N by omega), A9, c9, ev, _, ev ▸ HK13⟩
      case measure => simp [intOf]; omega
    · obtain rfl : k = N := by have := HKN.out; omega
      obtain ⟨ys, hyl, h3⟩ := HK.out.three
      have HYL := Lib.hid hyl
      have H3 := Lib.hid h3
      have hN3 : (k : Int) ≤ 1048576 := by omega
      clear hyl h3 HK HKN hlt
      go_wp2_with fail
      go_loopw [9] (fun i y => ∃ j : Nat, i = .int .i64 (j : Int) ∧ Hid (j ≤ 2 * k) ∧ Hid (K3 w0 y gb k 0 (.slice A0 (2 * k) c0) ys zf)) (fun i _ => 2 * k - (intOf i).toNat)
      case atStart => exact ⟨0, rfl, Nat.zero_le _, H3⟩
      case round =>
        clear H3
        obtain ⟨j, rfl, HJ, H3⟩ := hrel
        by_cases hlt : (j : Int) < 2 * k
        · obtain ⟨g, A, d, rfl, hc1, _, ho⟩ := H3.out.form (i := j) (by have := HYL.out; omega) (Nat.zero_le _)
          obtain ⟨h, hh⟩ : ∃ h, h = j / 2 := ⟨_, rfl⟩
          have HH : Hid (j / 2 = h) := hh.symm
          obtain ⟨a, rfl, ha, hcell, hrb, hcap, hlim⟩ := HT.out h (by omega)
          have HKB := Lib.hid (H3.out.below)
          have HX := Lib.hid (hrb.below HKB.out)
          have hc2 := cell_later ha HKB.out hcell
          have HO := Lib.hid ho
          have HZ0 : Hid (zf j = sealN (T h).2.2) := by
            show zf j = _
            rw [HZF.out, HH.out]
          have HAL : Hid (a.block < wr.heap.size) := Nat.lt_of_lt_of_le ha HKB.out.size
          clear hrb hcell ha ho
          generalize T h = tk at *
          obtain ⟨At, ct, xs⟩ := tk
          dsimp only at hc2 hcap hlim HX HZ0
          have hlim2 : (xs.length : Int) ≤ 1048576 := by omega
          have HSL : Hid ((zf j).length ≤ 1073741824) := by
            show (zf j).length ≤ _
            rw [HZ0.out, sealN_length]; omega
          have HRE : Hid (∀ W, RB W At xs.length xs → DivT W → Calls Tryd.prog 20 #[.slice At xs.length ct] W fun e w' => ∃ v, e = .returned v ∧ OwnU w' W.heap.size v (zf j) ∧ Below W.heap.size W w') := fun W h hd => by
            rw [HZ0.out]
            exact refseal_any At xs.length ct xs W h (by omega) hd
          clear HZ0 hlim hcap
          generalize zf j = zj at *
          have hj0 : 0 ≤ (j : Int) / 2 := by omega
          have hj1 : (j : Int) / 2 < k := by omega
          obtain ⟨ah, HAH⟩ : ∃ ah : Addr, Hid (ah = a.add h) := ⟨_, rfl⟩
          have hjn : a.add ((j : Int) / 2).toNat = ah := by rw [HAH.out, show ((j : Int) / 2).toNat = h by omega]
          rw [← HAH.out] at hc2
          clear hh
          go_wp2_with fail
          rename_i KK hKK
          have HKK := Lib.hid hKK
          clear hKK
          refine wp_region_held_drew (S := fun w' => (w'.cell? ⟨g, j, none⟩ = some (.slice A zj.length d) ∧ w'.cell? ah = some (.slice At xs.length ct)) ∧ Below wr.heap.size wr w') (by kernel_rfl) ⟨⟨hc1, hc2⟩, drewN_below (Below.refl _ _) 1⟩ fun hH => ?_
          refine wpAnyH_take (i := 0) (oi := ⟨some 76, _, _, _, _, _⟩) rfl (by kernel_rfl) (by kernel_rfl) (by kernel_rfl) (fun _ _ _ h => h) (Or.inl ⟨by rfl, fun w hw => by (try dsimp only at hw); go_simp; with_reducible rfl⟩) (by assumption) ?_
          try simp only [Act.put, List.setIfInBounds_toArray, List.set_cons_zero, List.set_cons_succ]
          refine wpAnyH_take (i := 1) (oi := ⟨some 77, _, _, _, _, _⟩) rfl (by kernel_rfl) (by kernel_rfl) (by kernel_rfl) (fun _ _ _ h => h) (Or.inl ⟨by rfl, fun w hw => by (try dsimp only at hw); go_simp; with_reducible rfl⟩) (by assumption) ?_
          try simp only [Act.put, List.setIfInBounds_toArray, List.set_cons_zero, List.set_cons_succ]
          refine wpAnyH_take (i := 2) (oi := ⟨some 78, _, _, _, _, _⟩) rfl (by kernel_rfl) (by kernel_rfl) (by kernel_rfl) (fun _ _ _ h => h) (Or.inl ⟨by rfl, fun w hw => by (try dsimp only at hw); go_simp; with_reducible rfl⟩) (by assumption) ?_
          try simp only [Act.put, List.setIfInBounds_toArray, List.set_cons_zero, List.set_cons_succ]
          refine wpAnyH_take (i := 3) (oi := ⟨some 79, _, _, _, _, _⟩) rfl (by kernel_rfl) (by kernel_rfl) (by kernel_rfl) (fun _ _ _ h => h) (Or.inl ⟨by rfl, fun w hw => by ((try dsimp only at hw); go_split_ands; go_simp; with_reducible rfl)⟩) (by assumption) ?_
          try simp only [Act.put, List.setIfInBounds_toArray, List.set_cons_zero, List.set_cons_succ]
          refine wpAnyH_take (i := 4) (oi := ⟨some 80, _, _, _, _, _⟩) rfl (by kernel_rfl) (by kernel_rfl) (by kernel_rfl) (fun _ _ _ h => h) (Or.inl ⟨by rfl, fun w hw => by (try dsimp only at hw); go_simp; with_reducible rfl⟩) (by assumption) ?_
          try simp only [Act.put, List.setIfInBounds_toArray, List.set_cons_zero, List.set_cons_succ]
          refine wpAnyH_take (i := 5) (oi := ⟨some 81, _, _, _, _, _⟩) rfl (by kernel_rfl) (by kernel_rfl) (by kernel_rfl) (fun _ _ _ h => h) (Or.inl ⟨by rfl, fun w hw => by (try dsimp only at hw); go_simp; with_reducible rfl⟩) (by assumption) ?_
          try simp only [Act.put, List.setIfInBounds_toArray, List.set_cons_zero, List.set_cons_succ]
          refine wpAnyH_take (i := 6) (oi := ⟨some 82, _, _, _, _, _⟩) rfl (by kernel_rfl) (by kernel_rfl) (by kernel_rfl) (fun _ _ _ h => h) (Or.inl ⟨by rfl, fun w hw => by ((try dsimp only at hw); go_split_ands; go_simp; (try go_bits); with_reducible rfl)⟩) (by assumption) ?_
          try simp only [Act.put, List.setIfInBounds_toArray, List.set_cons_zero, List.set_cons_succ]
          refine wpAnyH_take (i := 7) (oi := ⟨some 83, _, _, _, _, _⟩) rfl (by kernel_rfl) (by kernel_rfl) (by kernel_rfl) (fun _ _ _ h => h) (Or.inl ⟨by rfl, fun w hw => by (try dsimp only at hw); go_simp; with_reducible rfl⟩) (by assumption) ?_
          try simp only [Act.put, List.setIfInBounds_toArray, List.set_cons_zero, List.set_cons_succ]
          refine wpAnyH_take (i := 8) (oi := ⟨some 84, _, _, _, _, _⟩) rfl (by kernel_rfl) (by kernel_rfl) (by kernel_rfl) (fun _ _ _ h => h) (Or.inl ⟨by rfl, fun w hw => by ((try dsimp only at hw); go_split_ands; go_simp; with_reducible rfl)⟩) (by assumption) ?_
          try simp only [Act.put, List.setIfInBounds_toArray, List.set_cons_zero, List.set_cons_succ]
          refine wpAnyH_ready (rs := [9]) (by kernel_rfl) (by simp) ?_
          refine AllReadyH.cons rfl (fun K hK => ?_) (AllReadyH.nil)
          go_simp
          go_at_call 20
          have HDR := Lib.hid hH.2
          refine (HRE.out _ (HX.out.below HDR.out) (HD.out.below (HKB.out.trans (HDR.out.mono HKB.out.size)))).mono ?_
          rintro e w5 ⟨v, rfl, hown, hb⟩
          have HB5 := Lib.hid (HDR.out.trans hb)
          have HK5 := Lib.hid (H3.out.keep HB5.out)
          obtain ⟨Ar, cr, rfl, hrr, _⟩ := hown.form
          have HR5 := Lib.hid hrr
          have HO5 := Lib.hid (HO.out.below HB5.out)
          refine hK.out _ _ ⟨⟨(HB5.out.cell (p := ⟨g, j, none⟩) (lt_of_cell hc1)).trans hc1, (by rw [HAH.out] at hc2 ⊢; exact cell_later HAL.out HB5.out hc2)⟩, HB5.out⟩ (fun hH5 => ?_)
          clear hown hb hrr hK hH HDR HX HO H3 HRE
          refine wpAnyH_ready (rs := [10]) (by kernel_rfl) (by simp) ?_
          refine AllReadyH.cons rfl (fun K hK => ?_) (AllReadyH.nil)
          go_simp
          go_at_call 18
          refine (same_true HO5.out.reads HR5.out (by have := HSL.out; omega) rfl).mono ?_
          rintro e w6 ⟨rfl, q, hq⟩
          have HB6 : Hid (Below w5.heap.size w5 w6) := by rw [hq]; exact drewN_below (Below.refl _ _) q
          have HK6 := Lib.hid (HK5.out.keep HB6.out)
          refine hK.out _ _ ⟨⟨(HB6.out.cell (p := ⟨g, j, none⟩) (lt_of_cell hH5.1.1)).trans hH5.1.1, (by have h5 := hH5.1.2; rw [HAH.out] at h5 ⊢; exact cell_later (Nat.lt_of_lt_of_le HAL.out hH5.2.size) HB6.out h5)⟩, hH5.2.trans (HB6.out.mono hH5.2.size)⟩ (fun hH6 => ?_)
          clear hq hK hH5 HK5 HO5 HR5
          refine wpAnyH_take (i := 11) (oi := ⟨some 87, _, _, _, _, _⟩) rfl (by kernel_rfl) (by kernel_rfl) (by kernel_rfl) (fun _ _ _ h => h) (Or.inl ⟨by rfl, fun w hw => by (try dsimp only at hw); go_simp; with_reducible rfl⟩) (by assumption) ?_
          try simp only [Act.put, List.setIfInBounds_toArray, List.set_cons_zero, List.set_cons_succ]
          refine wpAnyH_done (by kernel_rfl) ?_ _
          change KK _ _
          refine HKK.out _ _ ?_
          clear HKK hH6 HB6 hc1 hc2 hjn hj0 hj1
          go_wp2_with fail
          go_roundw
          case rel => exact ⟨j + 1, by go_num, (show j + 1 ≤ 2 * k by omega), HK6⟩
          case measure => simp [intOf]; omega
        · clear HJ
          go_wp2_with fail
          go_loopw [10] (fun i y => ∃ q : Nat, i = .int .i64 (q : Int) ∧ Hid (q ≤ 2 * k) ∧ Hid (K3 w0 y gb k q (.slice A0 (2 * k) c0) ys zf)) (fun i _ => 2 * k - (intOf i).toNat)
          case atStart => exact ⟨0, rfl, Nat.zero_le _, H3⟩
          case round =>
            clear H3
            obtain ⟨q, rfl, HJ, H3⟩ := hrel
            by_cases hlt : (q : Int) < 2 * k
            · obtain ⟨g, A, d, rfl, hc1, hy, ho⟩ := H3.out.form (i := q) (by have := HYL.out; omega) (Nat.le_refl _)
              have HSL : Hid ((zf q).length ≤ 1073741824) := by
                obtain ⟨_, _, _, _, _, _, hl⟩ := HT.out (q / 2) (by omega)
                show (zf q).length ≤ _
                rw [HZF.out, sealN_length]
                omega
              have HPT := Lib.hid (put_3 _ H3.out hy HSL.out (by omega))
              clear ho hy
              go_wp2_with fail
              refine HPT.out.mono ?_
              rintro e w5 ⟨rfl, h5⟩
              have HK5 := Lib.hid h5
              clear h5 HPT H3 hc1
              go_wp2_with fail
              go_roundw
              case rel => exact ⟨q + 1, by go_num, (show q + 1 ≤ 2 * k by omega), HK5⟩
              case measure => simp [intOf]; omega
            · have HHE := Lib.hid (held_3 H3.out (by have := HJ.out; omega))
              clear HJ
              go_wp2_with fail
              refine HHE.out.mono ?_
              rintro e w5 ⟨rfl, rfl⟩
              go_wp2_with fail
              go_ret
              exact ⟨rfl, H3.out.below⟩
end Go.Proofs.YtadnckkipppbcaaDoor
