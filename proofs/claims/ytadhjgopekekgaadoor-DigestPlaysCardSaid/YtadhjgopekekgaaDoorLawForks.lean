/- ledgerlaw1.DigestForks: the walk. -/
import Derived.Test.YtadhjgopekekgaaDoorForkInv
namespace Go.Proofs.YtadhjgopekekgaaDoor
open Go.RowKit
theorem one_row (w : World) (t : TypeId) (A : Option Addr) (c : Nat) (hs : List Nat) (hr : RB w A hs.length hs) (h1 : hs.length ≤ c) (h2 : c ≤ maxLen) (h3 : A = none → c = 0) :
    RBf (w.alloc (.cells #[.slice A hs.length c] t)) (some ⟨w.heap.size, 0, none⟩) 1 (fun _ => hs) := by
  refine ⟨by unfold maxLen; omega, fun k hk => ⟨_, A, c, rfl, by simp, ?_, hr.alloc _, h1, h2, h3⟩⟩
  obtain rfl : k = 0 := by omega
  rw [add_lit, cell_of_row _ _ _ _ _ _ (heap_alloc_new w _)]
  rfl
theorem rows_pc {w : World} {P : Option Addr} {N k : Nat} {X : Nat → List Nat} (h : RBf w P N X) (hk : k < N) : ∃ a A C, P = some a ∧ (∀ W, Below w.heap.size w W → W.cell? (a.add k) = some (.slice A (X k).length C)) ∧ PcAt w A C (X k) := by
  obtain ⟨a, A, C, h1, h2, h3, h4, h5, h6, h7⟩ := h.2 k hk
  exact ⟨a, A, C, h1, fun W hb => cell_later h2 hb h3, PcAt.mk' h4 h5 h6 h7⟩
set_option maxRecDepth 100000 in
set_option maxHeartbeats 8000000 in
theorem forks_walk (A : Option Addr) (c : Nat) (hs : List Nat) (PL : Option Addr) (NL cL : Nat) (XL : Nat → List Nat) (PR : Option Addr) (NR cR : Nat) (XR : Nat → List Nat) (w : World)
    (hA : RB w A hs.length hs) (h1 : hs.length ≤ c) (h2 : c ≤ maxLen) (h3 : A = none → c = 0) (hl : RBf w PL NL XL) (hr : RBf w PR NR XR) (ht : Tabs w) :
    Calls Tryd.prog 7 #[.slice A hs.length c, .slice PL NL cL, .slice PR NR cR] w fun e w' => e = .returned (.bool true) ∧ Below w.heap.size w w' := by
  obtain ⟨D0, H0⟩ : ∃ D, Hid (∀ _ : Nat, shaN [] = D ∧ wrN s0 = D) := ⟨shaN [], fun _ => ⟨rfl, known0.symm⟩⟩
  have he : Hid (∀ (xs : List Nat) (w : World), (Op.equalIn 10000 23 (.agg (bvs (shaN xs)).toArray) (.agg (bvs (shaN xs)).toArray)).run Tryd.prog w = .ok true w) := fun xs w => dig_same w (shaN_isB xs) (shaN_length xs)
  have HP := Lib.hid (PcAt.mk' hA h1 h2 h3)
  have HO := Lib.hid (one_row w 26 A c hs hA h1 h2 h3)
  have HL := Lib.hid hl
  have HR := Lib.hid hr
  have HT := Lib.hid ht
  have hNL := hl.1
  have hNR := hr.1
  unfold maxLen at hNL hNR h2
  clear hA hl hr ht h3
  go_enter Tryd.func7, Tryd.ntmps7
  go_wp2_with fail
  refine (room_any 2147483647 _ 1 _ (fun _ => hs) _ (by omega) (by omega) HO.out).mono ?_
  rintro e w1 ⟨r1, rfl, hw1, a0, a1, a2⟩
  have HB1 : Hid (Below w.heap.size w w1) := by rw [hw1]; exact (Below.refl w.heap.size w).alloc (Nat.le_refl _) _
  clear hw1 HO
  go_wp2_with fail
  refine (room_any r1 PL NL cL XL w1 a0 a1 (HL.out.below HB1.out)).mono ?_
  rintro e w' ⟨r2, rfl, rfl, b0, b1, b2⟩
  obtain ⟨w1, rfl⟩ : ∃ w1, w1 = w' := ⟨_, rfl⟩
  go_wp2_with fail
  refine (room_any r2 PR NR cR XR w1 b0 b1 (HR.out.below HB1.out)).mono ?_
  rintro e w' ⟨r3, rfl, rfl, c0, c1, c2⟩
  obtain ⟨w1, rfl⟩ : ∃ w1, w1 = w' := ⟨_, rfl⟩
  by_cases hr : 0 ≤ r3
  · have HS : Hid (hs.length + sumL XL NL + sumL XR NR ≤ 2147483647) := by
      have q1 := c2 hr
      have q2 := b2 (by omega)
      have q3 := a2 (by omega)
      simp only [sumL] at q3
      show _ ≤ _
      omega
    clear a2 b2 c2
    go_wp2_with fail
    refine (new_any _ (HT.out.below HB1.out).1).mono ?_
    rintro e w2 ⟨g1, rfl, hg1, hh1, hb⟩
    have HB2 := Lib.hid (HB1.out.trans (hb.mono HB1.out.size))
    have HH2 := Lib.hid hh1
    have hg1l : w.heap.size ≤ g1 := Nat.le_trans HB1.out.size hg1
    clear hh1 hb hg1
    have he0 : ∀ w, (Op.equalIn 10000 23 (.agg (bvs D0).toArray) (.agg (bvs D0).toArray)).run Tryd.prog w = .ok true w := fun w => by rw [← (H0.out 0).1]; exact he.out [] w
    go_wp2_with fail
    refine (dsum_any none 0 0 [] _ (RB.nil _ _) (by omega) (by omega) (HT.out.below HB2.out)).mono ?_
    rintro e w3 ⟨rfl, hb⟩
    have HB3 := Lib.hid (HB2.out.trans (hb.mono HB2.out.size))
    have HH3 := Lib.hid (HH2.out.below hb)
    clear hb
    rw [(H0.out 0).1]
    go_wp2_with fail
    refine (written_any s0 _ rfl).mono ?_
    rintro e w4 ⟨rfl, hb⟩
    have HB4 := Lib.hid (HB3.out.trans (hb.mono HB3.out.size))
    have HH4 := Lib.hid (HH3.out.below hb)
    clear hb
    rw [(H0.out 0).2]
    have hhl : hs.length ≤ 140737488355328 := by have := HS.out; omega
    go_wp2_with fail
    refine (write_any g1 A hs.length c [] hs w4 (HP.out.reads _ HB4.out) HP.out.room hhl (fun h0 ad e => by have q := HP.out.low h0 ad e; omega) HH4.out (HT.out.below HB4.out).2 (fun e => by have q := HT.out.2.1; omega)).mono ?_
    rintro e w5 ⟨rfl, hh, hg⟩
    have HH5 : Hid (HashIs w5 g1 hs) := hh
    have HB5 : Hid (Below w.heap.size w w5) := HB4.out.grown hg HB4.out.size (fun k hk => by injection hk with hk; omega)
    clear hh hg
    go_wp2_with fail
    refine (fork_any g1 hs w5 HH5.out).mono ?_
    rintro e w6 ⟨g2, rfl, hg2, hh2, hb⟩
    have HB6 := Lib.hid (HB5.out.trans (hb.mono HB5.out.size))
    have HH6 := Lib.hid (HH5.out.below hb)
    have HF6 := Lib.hid hh2
    have d12 : g1 < g2 := Nat.lt_of_lt_of_le HH5.out.lt hg2
    clear hb hh2
    go_wp2_with fail
    refine (fork_any g1 hs w6 HH6.out).mono ?_
    rintro e w7 ⟨g3, rfl, hg3, hh3, hb⟩
    have HB7 := Lib.hid (HB6.out.trans (hb.mono HB6.out.size))
    have HH7 := Lib.hid (HH6.out.below hb)
    have HF7 := Lib.hid (HF6.out.below hb)
    have HK7 := Lib.hid hh3
    have d23 : g2 < g3 := Nat.lt_of_lt_of_le HF6.out.lt hg3
    have d3 : g3 < w7.heap.size := hh3.lt
    clear hb hh3
    go_wp2_with fail
    refine (copied_any A hs.length c hs w7 (HP.out.reads _ HB7.out) HP.out.nil_ hhl).mono ?_
    rintro e w8 ⟨va, rfl, howna, hb⟩
    have HB8 := Lib.hid (HB7.out.trans (hb.mono HB7.out.size))
    have HH8 := Lib.hid (HH7.out.below hb)
    have HF8 := Lib.hid (HF7.out.below hb)
    have HK8 := Lib.hid (HK7.out.below hb)
    have HZ8 := Lib.hid hb.size
    have HA8 := Lib.hid howna
    clear hb howna
    go_wp2_with fail
    refine (copied_any A hs.length c hs w8 (HP.out.reads _ HB8.out) HP.out.nil_ hhl).mono ?_
    rintro e w9 ⟨vb, rfl, hownb, hb⟩
    have HI : Hid (FkInv w w7.heap.size g1 g2 g3 va vb hs hs hs hs hs w9) :=
      { below := HB8.out.trans (hb.mono HB8.out.size), size := Nat.le_trans HZ8.out hb.size, p1 := hg1l, p2 := by omega, p3 := by omega, b1 := by omega, b2 := by omega, b3 := d3, d12 := by omega, d13 := by omega, d23 := by omega,
        h1 := HH8.out.below hb, h2 := HF8.out.below hb, h3 := HK8.out.below hb, oa := HA8.out.below hb, ob := hownb.mono HZ8.out, ap := fun k hk hk' => by have q1 := (HA8.out.lt k hk).2; have q2 := (hownb.lt k hk').1; omega, lo := HB7.out.size }
    obtain ⟨Aa, ca, rfl, _⟩ := HA8.out.form
    obtain ⟨Ab, cb, rfl, _⟩ := hownb.form
    clear hownb hb HA8 HB2 HB3 HB4 HB5 HB6 HB7 HB8 HH2 HH3 HH4 HH5 HH6 HH7 HH8 HF6 HF7 HF8 HK7 HK8 HZ8 he0
    go_wp2_with fail
    clear hr a0 a1 b0 b1 c0 c1
    have HLen0 : Hid (hs.length ≤ hs.length + sumL XL (min 0 NL) ∧ hs.length ≤ hs.length + sumL XR (min 0 NR)) := ⟨by omega, by omega⟩
    go_loopw [10, 11, 12] (fun u v j wr => ∃ (i : Nat) (TA TB : List Nat) (Ba Bb : Option Addr) (da db : Nat), u = .slice Ba TA.length da ∧ v = .slice Bb TB.length db ∧ j = .int .i64 i ∧ i ≤ max NL NR ∧
      Hid (TA.length ≤ hs.length + sumL XL (min i NL) ∧ TB.length ≤ hs.length + sumL XR (min i NR)) ∧ Hid (FkInv w w7.heap.size g1 g2 g3 (.slice Ba TA.length da) (.slice Bb TB.length db) TA TB hs TA TB wr)) (fun _ _ j _ => max NL NR - (intOf j).toNat)
    case atStart => exact ⟨0, hs, hs, Aa, Ab, ca, cb, rfl, rfl, rfl, by omega, HLen0.out, HI.out⟩
    case round =>
      clear HI
      obtain ⟨i, TA, TB, Ba, Bb, da, db, rfl, rfl, rfl, hi, HLen, HI⟩ := hrel
      by_cases hL : i < NL
      · by_cases hR : i < NR
        · skip
          obtain ⟨al, Al, Cl, rfl, hcl, hpl⟩ := rows_pc HL.out hL
          have HPl := Lib.hid hpl
          have HCl := Lib.hid hcl
          clear hpl hcl
          have cl := HCl.out _ HI.out.below
          obtain ⟨TA', HTa⟩ : ∃ TA', Hid (∀ _ : Nat, TA ++ XL i = TA') := ⟨_, fun _ => rfl⟩
          have HTal : Hid (TA.length + (XL i).length ≤ 2147483647 ∧ TA'.length ≤ hs.length + sumL XL (min (i + 1) NL)) := by
            have q1 := HLen.out.1
            have q2 := sumL_mono XL (show i + 1 ≤ NL by omega)
            have q3 := HS.out
            rw [← HTa.out 0, List.length_append]
            rw [show min i NL = i by omega] at q1
            rw [show min (i + 1) NL = i + 1 by omega]
            simp only [sumL] at q2 ⊢
            show _ ∧ _
            omega
          have hll : (XL i).length ≤ 140737488355328 := by have := HTal.out; omega
          have hal : TA'.length ≤ 140737488355328 := by have := HTal.out; rw [← HTa.out 0, List.length_append]; omega
          obtain ⟨ar, Ar, Cr, rfl, hcr, hpr⟩ := rows_pc HR.out hR
          have HPr := Lib.hid hpr
          have HCr := Lib.hid hcr
          clear hpr hcr
          have cr := HCr.out _ HI.out.below
          obtain ⟨TB', HTb⟩ : ∃ TB', Hid (∀ _ : Nat, TB ++ XR i = TB') := ⟨_, fun _ => rfl⟩
          have HTbl : Hid (TB.length + (XR i).length ≤ 2147483647 ∧ TB'.length ≤ hs.length + sumL XR (min (i + 1) NR)) := by
            have q1 := HLen.out.2
            have q2 := sumL_mono XR (show i + 1 ≤ NR by omega)
            have q3 := HS.out
            rw [← HTb.out 0, List.length_append]
            rw [show min i NR = i by omega] at q1
            rw [show min (i + 1) NR = i + 1 by omega]
            simp only [sumL] at q2 ⊢
            show _ ∧ _
            omega
          have hrl : (XR i).length ≤ 140737488355328 := by have := HTbl.out; omega
          have hbl : TB'.length ≤ 140737488355328 := by have := HTbl.out; rw [← HTb.out 0, List.length_append]; omega
          clear HLen
          have he' := he.out
          go_wp2_with (first
            | (go_at_call 19; ((with_reducible refine (HI.out.write1 HT.out HPl.out hll).mono ?_); rintro e w' ⟨rfl, hI⟩; clear HI cl cr; rw [HTa.out 0] at hI; have HI := Lib.hid hI; clear hI; have cl := HCl.out _ HI.out.below; have cr := HCr.out _ HI.out.below))
            | (go_at_call 19; ((with_reducible refine (HI.out.write2 HT.out HPr.out hrl).mono ?_); rintro e w' ⟨rfl, hI⟩; clear HI cl cr; rw [HTb.out 0] at hI; have HI := Lib.hid hI; clear hI; have cl := HCl.out _ HI.out.below; have cr := HCr.out _ HI.out.below))
            | (go_at_call 19; ((with_reducible refine (HI.out.write3 HT.out HP.out hhl).mono ?_); rintro e w' ⟨rfl, hI⟩; clear HI cl cr; rw [List.nil_append] at hI; have HI := Lib.hid hI; clear hI; have cl := HCl.out _ HI.out.below; have cr := HCr.out _ HI.out.below))
            | (go_at_call 21; ((with_reducible refine (HI.out.reset3 HT.out).mono ?_); rintro e w' ⟨rfl, hI⟩; clear HI cl cr; have HI := Lib.hid hI; clear hI; have cl := HCl.out _ HI.out.below; have cr := HCr.out _ HI.out.below))
            | (go_at_call 17; ((with_reducible refine (HI.out.sum1 HT.out).mono ?_); rintro e w' ⟨rfl, hI⟩; clear HI cl cr; have HI := Lib.hid hI; clear hI; have cl := HCl.out _ HI.out.below; have cr := HCr.out _ HI.out.below))
            | (go_at_call 17; ((with_reducible refine (HI.out.sum2 HT.out).mono ?_); rintro e w' ⟨rfl, hI⟩; clear HI cl cr; have HI := Lib.hid hI; clear hI; have cl := HCl.out _ HI.out.below; have cr := HCr.out _ HI.out.below))
            | (go_at_call 17; ((with_reducible refine (HI.out.sum3 HT.out).mono ?_); rintro e w' ⟨rfl, hI⟩; clear HI cl cr; have HI := Lib.hid hI; clear hI; have cl := HCl.out _ HI.out.below; have cr := HCr.out _ HI.out.below))
            | (go_at_call 8; ((with_reducible refine (HI.out.dsumA HT.out hal).mono ?_); rintro e w' ⟨rfl, hI⟩; clear HI cl cr; have HI := Lib.hid hI; clear hI; have cl := HCl.out _ HI.out.below; have cr := HCr.out _ HI.out.below))
            | (go_at_call 8; ((with_reducible refine (HI.out.dsumB HT.out hbl).mono ?_); rintro e w' ⟨rfl, hI⟩; clear HI cl cr; have HI := Lib.hid hI; clear hI; have cl := HCl.out _ HI.out.below; have cr := HCr.out _ HI.out.below))
            | (go_at_call 8; ((with_reducible refine (HI.out.dsumP HT.out HP.out hhl).mono ?_); rintro e w' ⟨rfl, hI⟩; clear HI cl cr; have HI := Lib.hid hI; clear hI; have cl := HCl.out _ HI.out.below; have cr := HCr.out _ HI.out.below))
            | ((with_reducible refine stopAt (o := ⟨some 73, _, _, _, _, _⟩) ?_); refine appendRBAt und_bytes info_byte _ rfl (.tmp 68) (.tmp 72) rfl w7.heap.size _ TA HI.out.oa Al (XL i).length Cl (XL i) (HPl.out.reads _ HI.out.below) HPl.out.nil_ rfl rfl (by have := HTal.out; omega) HI.out.size ?_; intro v6 w6 hown6 hgrow6 hlie6; rw [HTa.out 0] at hown6; have hI := HI.out.addA hown6 hgrow6 hlie6; obtain ⟨Aa, ca, rfl, _⟩ := hown6.form; clear hown6 hgrow6 hlie6; clear HI cl cr; have HI := Lib.hid hI; clear hI; have cl := HCl.out _ HI.out.below; have cr := HCr.out _ HI.out.below)
            | ((with_reducible refine stopAt (o := ⟨some 89, _, _, _, _, _⟩) ?_); refine appendRBAt und_bytes info_byte _ rfl (.tmp 84) (.tmp 88) rfl w7.heap.size _ TB HI.out.ob Ar (XR i).length Cr (XR i) (HPr.out.reads _ HI.out.below) HPr.out.nil_ rfl rfl (by have := HTbl.out; omega) HI.out.size ?_; intro v6 w6 hown6 hgrow6 hlie6; rw [HTb.out 0] at hown6; have hI := HI.out.addB hown6 hgrow6 hlie6; obtain ⟨Ab, cb, rfl, _⟩ := hown6.form; clear hown6 hgrow6 hlie6; clear HI cl cr; have HI := Lib.hid hI; clear hI; have cl := HCl.out _ HI.out.below; have cr := HCr.out _ HI.out.below))
          all_goals
            go_roundw
            case rel => exact ⟨i + 1, TA', TB', _, _, _, _, rfl, rfl, by go_num, by omega, ⟨HTal.out.2, HTbl.out.2⟩, HI.out⟩
            case measure => simp [intOf]; omega
        · skip
          obtain ⟨al, Al, Cl, rfl, hcl, hpl⟩ := rows_pc HL.out hL
          have HPl := Lib.hid hpl
          have HCl := Lib.hid hcl
          clear hpl hcl
          have cl := HCl.out _ HI.out.below
          obtain ⟨TA', HTa⟩ : ∃ TA', Hid (∀ _ : Nat, TA ++ XL i = TA') := ⟨_, fun _ => rfl⟩
          have HTal : Hid (TA.length + (XL i).length ≤ 2147483647 ∧ TA'.length ≤ hs.length + sumL XL (min (i + 1) NL)) := by
            have q1 := HLen.out.1
            have q2 := sumL_mono XL (show i + 1 ≤ NL by omega)
            have q3 := HS.out
            rw [← HTa.out 0, List.length_append]
            rw [show min i NL = i by omega] at q1
            rw [show min (i + 1) NL = i + 1 by omega]
            simp only [sumL] at q2 ⊢
            show _ ∧ _
            omega
          have hll : (XL i).length ≤ 140737488355328 := by have := HTal.out; omega
          have hal : TA'.length ≤ 140737488355328 := by have := HTal.out; rw [← HTa.out 0, List.length_append]; omega
          have HTbl : Hid (TB.length ≤ hs.length + sumL XR (min (i + 1) NR)) := by
            have q1 := HLen.out.2
            rw [show min i NR = NR by omega] at q1
            rw [show min (i + 1) NR = NR by omega]
            exact q1
          have hbl : TB.length ≤ 140737488355328 := by
            have q1 := HLen.out.2
            have q2 := sumL_mono XR (show min i NR ≤ NR by omega)
            have q3 := HS.out
            omega
          clear HLen
          have he' := he.out
          go_wp2_with (first
            | (go_at_call 19; ((with_reducible refine (HI.out.write1 HT.out HPl.out hll).mono ?_); rintro e w' ⟨rfl, hI⟩; clear HI cl; rw [HTa.out 0] at hI; have HI := Lib.hid hI; clear hI; have cl := HCl.out _ HI.out.below))
            | (go_at_call 19; ((with_reducible refine (HI.out.write3 HT.out HP.out hhl).mono ?_); rintro e w' ⟨rfl, hI⟩; clear HI cl; rw [List.nil_append] at hI; have HI := Lib.hid hI; clear hI; have cl := HCl.out _ HI.out.below))
            | (go_at_call 21; ((with_reducible refine (HI.out.reset3 HT.out).mono ?_); rintro e w' ⟨rfl, hI⟩; clear HI cl; have HI := Lib.hid hI; clear hI; have cl := HCl.out _ HI.out.below))
            | (go_at_call 17; ((with_reducible refine (HI.out.sum1 HT.out).mono ?_); rintro e w' ⟨rfl, hI⟩; clear HI cl; have HI := Lib.hid hI; clear hI; have cl := HCl.out _ HI.out.below))
            | (go_at_call 17; ((with_reducible refine (HI.out.sum2 HT.out).mono ?_); rintro e w' ⟨rfl, hI⟩; clear HI cl; have HI := Lib.hid hI; clear hI; have cl := HCl.out _ HI.out.below))
            | (go_at_call 17; ((with_reducible refine (HI.out.sum3 HT.out).mono ?_); rintro e w' ⟨rfl, hI⟩; clear HI cl; have HI := Lib.hid hI; clear hI; have cl := HCl.out _ HI.out.below))
            | (go_at_call 8; ((with_reducible refine (HI.out.dsumA HT.out hal).mono ?_); rintro e w' ⟨rfl, hI⟩; clear HI cl; have HI := Lib.hid hI; clear hI; have cl := HCl.out _ HI.out.below))
            | (go_at_call 8; ((with_reducible refine (HI.out.dsumB HT.out hbl).mono ?_); rintro e w' ⟨rfl, hI⟩; clear HI cl; have HI := Lib.hid hI; clear hI; have cl := HCl.out _ HI.out.below))
            | (go_at_call 8; ((with_reducible refine (HI.out.dsumP HT.out HP.out hhl).mono ?_); rintro e w' ⟨rfl, hI⟩; clear HI cl; have HI := Lib.hid hI; clear hI; have cl := HCl.out _ HI.out.below))
            | ((with_reducible refine stopAt (o := ⟨some 73, _, _, _, _, _⟩) ?_); refine appendRBAt und_bytes info_byte _ rfl (.tmp 68) (.tmp 72) rfl w7.heap.size _ TA HI.out.oa Al (XL i).length Cl (XL i) (HPl.out.reads _ HI.out.below) HPl.out.nil_ rfl rfl (by have := HTal.out; omega) HI.out.size ?_; intro v6 w6 hown6 hgrow6 hlie6; rw [HTa.out 0] at hown6; have hI := HI.out.addA hown6 hgrow6 hlie6; obtain ⟨Aa, ca, rfl, _⟩ := hown6.form; clear hown6 hgrow6 hlie6; clear HI cl; have HI := Lib.hid hI; clear hI; have cl := HCl.out _ HI.out.below))
          all_goals
            go_roundw
            case rel => exact ⟨i + 1, TA', TB, _, _, _, _, rfl, rfl, by go_num, by omega, ⟨HTal.out.2, HTbl.out⟩, HI.out⟩
            case measure => simp [intOf]; omega
      · by_cases hR : i < NR
        · skip
          have HTal : Hid (TA.length ≤ hs.length + sumL XL (min (i + 1) NL)) := by
            have q1 := HLen.out.1
            rw [show min i NL = NL by omega] at q1
            rw [show min (i + 1) NL = NL by omega]
            exact q1
          have hal : TA.length ≤ 140737488355328 := by
            have q1 := HLen.out.1
            have q2 := sumL_mono XL (show min i NL ≤ NL by omega)
            have q3 := HS.out
            omega
          obtain ⟨ar, Ar, Cr, rfl, hcr, hpr⟩ := rows_pc HR.out hR
          have HPr := Lib.hid hpr
          have HCr := Lib.hid hcr
          clear hpr hcr
          have cr := HCr.out _ HI.out.below
          obtain ⟨TB', HTb⟩ : ∃ TB', Hid (∀ _ : Nat, TB ++ XR i = TB') := ⟨_, fun _ => rfl⟩
          have HTbl : Hid (TB.length + (XR i).length ≤ 2147483647 ∧ TB'.length ≤ hs.length + sumL XR (min (i + 1) NR)) := by
            have q1 := HLen.out.2
            have q2 := sumL_mono XR (show i + 1 ≤ NR by omega)
            have q3 := HS.out
            rw [← HTb.out 0, List.length_append]
            rw [show min i NR = i by omega] at q1
            rw [show min (i + 1) NR = i + 1 by omega]
            simp only [sumL] at q2 ⊢
            show _ ∧ _
            omega
          have hrl : (XR i).length ≤ 140737488355328 := by have := HTbl.out; omega
          have hbl : TB'.length ≤ 140737488355328 := by have := HTbl.out; rw [← HTb.out 0, List.length_append]; omega
          clear HLen
          have he' := he.out
          go_wp2_with (first
            | (go_at_call 19; ((with_reducible refine (HI.out.write2 HT.out HPr.out hrl).mono ?_); rintro e w' ⟨rfl, hI⟩; clear HI cr; rw [HTb.out 0] at hI; have HI := Lib.hid hI; clear hI; have cr := HCr.out _ HI.out.below))
            | (go_at_call 19; ((with_reducible refine (HI.out.write3 HT.out HP.out hhl).mono ?_); rintro e w' ⟨rfl, hI⟩; clear HI cr; rw [List.nil_append] at hI; have HI := Lib.hid hI; clear hI; have cr := HCr.out _ HI.out.below))
            | (go_at_call 21; ((with_reducible refine (HI.out.reset3 HT.out).mono ?_); rintro e w' ⟨rfl, hI⟩; clear HI cr; have HI := Lib.hid hI; clear hI; have cr := HCr.out _ HI.out.below))
            | (go_at_call 17; ((with_reducible refine (HI.out.sum1 HT.out).mono ?_); rintro e w' ⟨rfl, hI⟩; clear HI cr; have HI := Lib.hid hI; clear hI; have cr := HCr.out _ HI.out.below))
            | (go_at_call 17; ((with_reducible refine (HI.out.sum2 HT.out).mono ?_); rintro e w' ⟨rfl, hI⟩; clear HI cr; have HI := Lib.hid hI; clear hI; have cr := HCr.out _ HI.out.below))
            | (go_at_call 17; ((with_reducible refine (HI.out.sum3 HT.out).mono ?_); rintro e w' ⟨rfl, hI⟩; clear HI cr; have HI := Lib.hid hI; clear hI; have cr := HCr.out _ HI.out.below))
            | (go_at_call 8; ((with_reducible refine (HI.out.dsumA HT.out hal).mono ?_); rintro e w' ⟨rfl, hI⟩; clear HI cr; have HI := Lib.hid hI; clear hI; have cr := HCr.out _ HI.out.below))
            | (go_at_call 8; ((with_reducible refine (HI.out.dsumB HT.out hbl).mono ?_); rintro e w' ⟨rfl, hI⟩; clear HI cr; have HI := Lib.hid hI; clear hI; have cr := HCr.out _ HI.out.below))
            | (go_at_call 8; ((with_reducible refine (HI.out.dsumP HT.out HP.out hhl).mono ?_); rintro e w' ⟨rfl, hI⟩; clear HI cr; have HI := Lib.hid hI; clear hI; have cr := HCr.out _ HI.out.below))
            | ((with_reducible refine stopAt (o := ⟨some 89, _, _, _, _, _⟩) ?_); refine appendRBAt und_bytes info_byte _ rfl (.tmp 84) (.tmp 88) rfl w7.heap.size _ TB HI.out.ob Ar (XR i).length Cr (XR i) (HPr.out.reads _ HI.out.below) HPr.out.nil_ rfl rfl (by have := HTbl.out; omega) HI.out.size ?_; intro v6 w6 hown6 hgrow6 hlie6; rw [HTb.out 0] at hown6; have hI := HI.out.addB hown6 hgrow6 hlie6; obtain ⟨Ab, cb, rfl, _⟩ := hown6.form; clear hown6 hgrow6 hlie6; clear HI cr; have HI := Lib.hid hI; clear hI; have cr := HCr.out _ HI.out.below))
          all_goals
            go_roundw
            case rel => exact ⟨i + 1, TA, TB', _, _, _, _, rfl, rfl, by go_num, by omega, ⟨HTal.out, HTbl.out.2⟩, HI.out⟩
            case measure => simp [intOf]; omega
        · have hal : TA.length ≤ 140737488355328 := by
            have q1 := HLen.out.1
            have q2 := sumL_mono XL (show min i NL ≤ NL by omega)
            have q3 := HS.out
            omega
          have hbl : TB.length ≤ 140737488355328 := by
            have q1 := HLen.out.2
            have q2 := sumL_mono XR (show min i NR ≤ NR by omega)
            have q3 := HS.out
            omega
          clear HLen
          have he' := he.out
          go_wp2_with (first
            | (go_at_call 19; ((with_reducible refine (HI.out.write3 HT.out HP.out hhl).mono ?_); rintro e w' ⟨rfl, hI⟩; clear HI; rw [List.nil_append] at hI; have HI := Lib.hid hI; clear hI))
            | (go_at_call 21; ((with_reducible refine (HI.out.reset3 HT.out).mono ?_); rintro e w' ⟨rfl, hI⟩; clear HI; have HI := Lib.hid hI; clear hI))
            | (go_at_call 17; ((with_reducible refine (HI.out.sum1 HT.out).mono ?_); rintro e w' ⟨rfl, hI⟩; clear HI; have HI := Lib.hid hI; clear hI))
            | (go_at_call 17; ((with_reducible refine (HI.out.sum2 HT.out).mono ?_); rintro e w' ⟨rfl, hI⟩; clear HI; have HI := Lib.hid hI; clear hI))
            | (go_at_call 17; ((with_reducible refine (HI.out.sum3 HT.out).mono ?_); rintro e w' ⟨rfl, hI⟩; clear HI; have HI := Lib.hid hI; clear hI))
            | (go_at_call 8; ((with_reducible refine (HI.out.dsumA HT.out hal).mono ?_); rintro e w' ⟨rfl, hI⟩; clear HI; have HI := Lib.hid hI; clear hI))
            | (go_at_call 8; ((with_reducible refine (HI.out.dsumB HT.out hbl).mono ?_); rintro e w' ⟨rfl, hI⟩; clear HI; have HI := Lib.hid hI; clear hI))
            | (go_at_call 8; ((with_reducible refine (HI.out.dsumP HT.out HP.out hhl).mono ?_); rintro e w' ⟨rfl, hI⟩; clear HI; have HI := Lib.hid hI; clear hI)))
          go_ret
          exact ⟨rfl, HI.out.below⟩
  · go_wp2_with fail
    go_ret
    exact ⟨rfl, HB1.out⟩
end Go.Proofs.YtadhjgopekekgaaDoor
