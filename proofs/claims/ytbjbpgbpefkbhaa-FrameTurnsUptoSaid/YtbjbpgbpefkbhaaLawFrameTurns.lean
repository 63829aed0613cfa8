/- ledgerlaw5.FrameTurns: the walk. -/
import Derived.Test.YtbjbpgbpefkbhaaTState
import Derived.Deep.CutRange
import Derived.Deep.RegionHeld3
import Derived.Deep.AppendLies
namespace Go.Proofs.Ytbjbpgbpefkbhaa
open Go.RowKit
set_option maxRecDepth 20000 in
set_option maxHeartbeats 4000000 in
theorem frameTurns_walk (a p : Int) (P : Option Addr) (N c : Nat) (X : Nat → TurnN) (w : World) (hx : TurnsAt w P N X) :
    Calls Try.prog 10 #[.int .i64 a, .int .i64 p, .slice P N c] w fun e w' => e = .returned (.bool true) ∧ Below w.heap.size w w' := by
  have HX := Lib.hid hx
  have HN := Lib.hid hx.1
  clear hx
  go_enter Try.func10, Try.ntmps10
  go_wp2_with fail
  refine (whole_range a 1 32 _ (by omega) (by omega) (by omega)).mono ?_
  rintro e w1 ⟨⟨wd, rfl, hw1, hw2⟩, hw3⟩
  rw [hw3]
  clear hw3
  go_wp2_with fail
  refine (whole_range p 3 4096 _ (by omega) (by omega) (by omega)).mono ?_
  rintro e w2 ⟨⟨n, rfl, hn1, hn2⟩, hw3⟩
  rw [hw3]
  clear hw3
  obtain ⟨cs, HCS, hmk⟩ : ∃ cs : Array Value, Hid (cs = zarr 256) ∧ ∀ w : World, (Instr.makeSlice 25 (.int .i64 256) (.int .i64 256)).run Try.prog w = .ok (.slice (some ⟨w.heap.size, 0, none⟩) 256 256) (w.alloc (.cells cs 5)) :=
    ⟨_, made_row 256, fun w => run_make_row' (P := Try.prog) 25 5 (.int .u8 0) 1 und_bytes info_byte rfl .i64 .i64 256 (by omega) (by omega) w⟩
  go_upto_region 3 with fail
  go_cut [9] from 23 to 25 (fun s9 wx => ∃ ga b0 b1 : Nat, s9 = .pointer (some ⟨ga, 0, none⟩) ∧ Hid (Below w.heap.size w wx) ∧ Hid (BlkIs wx ga 48 #[slV b0 256, slV b1 256]) ∧ Hid (Pg wx b0 (zs 256)) ∧ Hid (Pg wx b1 (zs 256)) ∧ w.heap.size ≤ ga ∧ b0 ≠ ga ∧ b1 ≠ ga)
  case first =>
    go_region
    all_goals (go_wp2_with fail; go_meet)
    all_goals
      first
        | exact ⟨_, w.heap.size, w.heap.size + 1, rfl, (alloc3 w _ _ _ _ _ _).2.2.2, (alloc3 w _ _ _ _ _ _).2.2.1, Pg.of (alloc3 w _ _ _ _ _ _).1 HCS.out, Pg.of (alloc3 w _ _ _ _ _ _).2.1 HCS.out, by omega, by omega, by omega⟩
        | exact ⟨_, w.heap.size + 1, w.heap.size, rfl, (alloc3 w _ _ _ _ _ _).2.2.2, (alloc3 w _ _ _ _ _ _).2.2.1, Pg.of (alloc3 w _ _ _ _ _ _).2.1 HCS.out, Pg.of (alloc3 w _ _ _ _ _ _).1 HCS.out, by omega, by omega, by omega⟩
        | exact ⟨_, w.heap.size, w.heap.size + 1 + 1, rfl, (alloc3 w _ _ _ _ _ _).2.2.2, (alloc3 w _ _ _ _ _ _).2.1, Pg.of (alloc3 w _ _ _ _ _ _).1 HCS.out, Pg.of (alloc3 w _ _ _ _ _ _).2.2.1 HCS.out, by omega, by omega, by omega⟩
        | exact ⟨_, w.heap.size + 1 + 1, w.heap.size, rfl, (alloc3 w _ _ _ _ _ _).2.2.2, (alloc3 w _ _ _ _ _ _).2.1, Pg.of (alloc3 w _ _ _ _ _ _).2.2.1 HCS.out, Pg.of (alloc3 w _ _ _ _ _ _).1 HCS.out, by omega, by omega, by omega⟩
        | exact ⟨_, w.heap.size + 1, w.heap.size + 1 + 1, rfl, (alloc3 w _ _ _ _ _ _).2.2.2, (alloc3 w _ _ _ _ _ _).1, Pg.of (alloc3 w _ _ _ _ _ _).2.1 HCS.out, Pg.of (alloc3 w _ _ _ _ _ _).2.2.1 HCS.out, by omega, by omega, by omega⟩
        | exact ⟨_, w.heap.size + 1 + 1, w.heap.size + 1, rfl, (alloc3 w _ _ _ _ _ _).2.2.2, (alloc3 w _ _ _ _ _ _).1, Pg.of (alloc3 w _ _ _ _ _ _).2.2.1 HCS.out, Pg.of (alloc3 w _ _ _ _ _ _).2.1 HCS.out, by omega, by omega, by omega⟩
  case rest =>
    clear HCS hmk
    obtain ⟨ga, b0, b1, rfl, HB0, HA0, HP0, HP1, hge, hn0, hn1⟩ := hcut
    have hok0 : Sup.Ok ⟨wd, 0, 2, 0, n⟩ := by unfold Sup.Ok; dsimp only; omega
    have hok1 : Sup.Ok ⟨wd, 1, 2, 0, n⟩ := by unfold Sup.Ok; dsimp only; omega
    have HK0 := Lib.hid hok0
    have HK0' := Lib.hid hok0
    have HK1 := Lib.hid hok1
    have HC0 : Hid (∀ w, Calls Try.prog 13 #[.agg #[.int .i64 wd, .int .i64 0, .int .i64 2, .int .i64 0, .int .i64 n]] w fun e w' => PackedS w.heap.size ⟨wd, 0, 2, 0, n⟩ e w' ∧ Below w.heap.size w w') := packSuper_any ⟨wd, 0, 2, 0, n⟩
    have HC1 : Hid (∀ w, Calls Try.prog 13 #[.agg #[.int .i64 wd, .int .i64 1, .int .i64 2, .int .i64 0, .int .i64 n]] w fun e w' => PackedS w.heap.size ⟨wd, 1, 2, 0, n⟩ e w' ∧ Below w.heap.size w w') := packSuper_any ⟨wd, 1, 2, 0, n⟩
    clear hok0 hok1
    have hA : (wc.alloc (.cells #[.int .i64 wd, .int .i64 0, .int .i64 2, .int .i64 0, .int .i64 n] 24)).cell? ⟨ga, 0, none⟩ = some (.slice (some ⟨b0, 0, none⟩) 256 256) ∧ (wc.alloc (.cells #[.int .i64 wd, .int .i64 0, .int .i64 2, .int .i64 0, .int .i64 n] 24)).cell? ⟨ga, 1, none⟩ = some (.slice (some ⟨b1, 0, none⟩) 256 256) :=
      ⟨(BlkIs.alloc HA0.out _).cell 0, (BlkIs.alloc HA0.out _).cell 1⟩
    have HZ := Lib.hid choose_none
    have HZ1 := Lib.hid (choose_one HK0.out)
    have HT0 := Lib.hid (fun w1 => ts_start (w := w) (wc := wc) (w1 := w1) (s := ⟨wd, 0, 2, 0, n⟩) (t := ⟨0, 0, 0, 0, 0⟩) HB0.out HA0.out HP0.out HP1.out hge hn0 hn1)
    generalize zs 256 = zz at *
    go_wp2_with fail
    refine (choose_any (some ⟨b0, 0, none⟩) (some ⟨b1, 0, none⟩) 256 256 256 256 zz zz _ (RB.alloc HP0.out _) (RB.alloc HP1.out _) (by omega) (by omega)).mono ?_
    rintro e w1 ⟨he, hb⟩
    unfold Chosen at he
    rw [HZ.out] at he
    subst he
    have HT1 := Lib.hid (HT0.out w1 hb)
    unfold supOf supA at HT1
    generalize wc.heap.size = gs at *
    clear HB0 HA0 HP0 HP1 hb HZ hA HT0
    have ht := sup_at HT1.out.tup
    have hs := sup_at HT1.out.sup
    unfold supV Sup.zero
    dsimp only
    go_wp2_with fail
    refine (HC0.out _).mono ?_
    rintro e w2 ⟨⟨v, rfl, hown⟩, hb⟩
    have HT2 := Lib.hid (HT1.out.below hb)
    rw [packSN_ok HK0.out] at hown ⊢
    obtain ⟨p0, d0, rfl, hge0, hpg, hroom⟩ := own_pg hown (superN_length _)
    have hap := HT1.out.apart hge0
    have hc := HT2.out.cells
    have HT3 := Lib.hid (HT2.out.set0 hpg hap hroom)
    unfold slV at HT3
    have hc3 := HT3.out.cells
    clear hb hown hge0 hpg hap HC0 ht hs HT1
    go_wp2_with fail
    refine (choose_any (some ⟨p0, 0, none⟩) (some ⟨b1, 0, none⟩) 256 d0 256 256 _ zz _ HT3.out.p0 HT3.out.p1 hroom (by omega)).mono ?_
    rintro e w3 ⟨he, hb⟩
    unfold Chosen at he
    rw [HZ1.out] at he
    subst he
    have HT4 := Lib.hid (HT3.out.below hb)
    have HT5 := Lib.hid (HT4.out.setT 0 0 0 0 0)
    have HT6 := Lib.hid (HT5.out.setG 1)
    unfold sup5 at HT5 HT6
    have ht4 := sup_at HT4.out.tup
    have hft4 := sup_froz HT4.out.tup
    have ht5 := sup_at HT5.out.tup
    have hs5 := sup_at HT5.out.sup
    have hfs5 := sup_froz HT5.out.sup
    have hs6 := sup_at HT6.out.sup
    clear hb HZ1 HT2 hc hc3 HT3
    unfold supV Sup.zero
    dsimp only
    go_wp2_with fail
    refine (HC1.out _).mono ?_
    rintro e w7 ⟨⟨v, rfl, hown⟩, hb⟩
    have HT7 := Lib.hid (HT6.out.below hb)
    rw [packSN_ok HK1.out] at hown ⊢
    obtain ⟨p1, d1, rfl, hge0, hpg, hroom1⟩ := own_pg hown (superN_length _)
    have hap := HT6.out.apart hge0
    have hc := HT7.out.cells
    have HT8 := Lib.hid (HT7.out.set1 hpg hap hroom1)
    unfold slV at HT8
    clear hb hown hge0 hpg hap HC1 ht4 hft4 ht5 hs5 hfs5 hs6 HT4 HT5 HT6
    go_wp2_with fail
    generalize w1.heap.size = gt at *
    clear HK0 HT7 hc
    have HST := Lib.hid (show Stand2 ⟨wd, 1, 2, 0, n⟩ (superN ⟨wd, 0, 2, 0, n⟩) (superN ⟨wd, 1, 2, 0, n⟩) from by
      unfold Stand2
      rw [if_neg (show ¬ (1 : Int) % 2 = 0 by decide)]
      exact stands_first HK0'.out)
    go_loopw [12, 13, 14, 15, 16, 17, 18] (fun _ _ _ s15 _ _ _ wr => ∃ (k : Nat) (s t : Sup) (b0 b1 c0 c1 : Nat) (x0 x1 : List Nat), s15 = .int .i64 k ∧ (k : Int) ≤ 1073741824 ∧ Hid (1 ≤ s.gen ∧ s.gen ≤ (k : Int) + 1) ∧ Hid (s.pages = n) ∧ Hid (Stand2 s x0 x1) ∧ Hid (TS w wr ga gs gt b0 b1 c0 c1 s t x0 x1)) (fun _ _ _ s15 _ _ _ _ => 1073741824 - (intOf s15).toNat)
    case atStart => exact ⟨0, ⟨wd, 1, 2, 0, n⟩, ⟨0, 0, 0, 0, 0⟩, _, _, _, _, _, _, rfl, by omega, (show (1 : Int) ≤ 1 ∧ (1 : Int) ≤ ((0 : Nat) : Int) + 1 by omega), (show n = n from rfl), HST, HT8⟩
    case round =>
      clear HST HT8
      obtain ⟨k, s, t, b0, b1, c0, c1, x0, x1, rfl, hk, HG, HPN, HST, HT⟩ := hrel
      obtain ⟨a, g, m, h, q⟩ := s
      obtain ⟨ta, tb, tc, td, tp⟩ := t
      have hg1 : 1 ≤ g := HG.out.1
      have hg2 : g ≤ (k : Int) + 1 := HG.out.2
      obtain rfl : q = n := HPN.out
      have HCH := Lib.hid HST.out.choose
      have HOK := Lib.hid HST.out.ok
      have hc := HT.out.cells
      by_cases hin : (k : Int) < N ∧ (k : Int) < 1073741824
      · obtain ⟨hi1, hi2⟩ := hin
        have hg3 : g ≤ 1073741824 := by omega
        go_wp2_with fail
        refine (choose_any (some ⟨b0, 0, none⟩) (some ⟨b1, 0, none⟩) 256 c0 256 c1 x0 x1 wr HT.out.p0 HT.out.p1 HT.out.room.1 HT.out.room.2).mono ?_
        rintro e w1 ⟨he, hb⟩
        unfold Chosen at he
        rw [HCH.out] at he
        subst he
        have HT1 := Lib.hid (HT.out.below hb)
        have HT2 := Lib.hid (HT1.out.setT a g m h q)
        unfold sup5 at HT2
        have ht1 := sup_at HT1.out.tup
        have hft1 := sup_froz HT1.out.tup
        have ht2 := sup_at HT2.out.tup
        have hs2 := sup_at HT2.out.sup
        obtain ⟨xb, xo, A, C, rfl, hxb, hxr, hxt, hxc, hxw, hxw2⟩ := HX.out.2 k (by omega)
        have hxs := turn_cells (range_below HT2.out.bel hxb hxr)
        have HXT := Lib.hid hxt
        have HXW := Lib.hid hxw
        have HXW2 := Lib.hid hxw2
        have HXC := Lib.hid hxc
        have hxb2 : xb < w1.heap.size := Nat.lt_of_lt_of_le hxb HT1.out.bel.size
        clear hb HT HCH hc hxr hxt hxw hxw2 hxc hxb
        generalize (X k).rise = ri at *
        generalize (X k).head = hd at *
        generalize (X k).crash = cr at *
        generalize (X k).kept = ke at *
        generalize (X k).tail = tl at *
        have HT3 := Lib.hid (HT2.out.alloc (.cells #[.int .i64 ri, .int .i64 hd, .bool cr, .bool ke, .slice A tl.length C] 51))
        have hs3 := sup_at HT3.out.sup
        have HS1 : Hid (gs < w1.heap.size) := HT1.out.sup.lt
        have hgs := HS1.out
        have HOB : Hid (BlkIs ((sup5 w1 gt a g m h q).alloc (.cells #[.int .i64 ri, .int .i64 hd, .bool cr, .bool ke, .slice A tl.length C] 51)) w1.heap.size 51 #[.int .i64 ri, .int .i64 hd, .bool cr, .bool ke, .slice A tl.length C]) := by
          have h1 := BlkIs.new (sup5 w1 gt a g m h q) 51 #[.int .i64 ri, .int .i64 hd, .bool cr, .bool ke, .slice A tl.length C]
          rwa [sup5_size] at h1
        unfold sup5 at HOB
        unfold supV
        dsimp only
        have hok : Sup.Ok ⟨a, g, m, h, q⟩ := HOK.out
        have hmq : 2 ≤ m ∧ m ≤ q := hok.2.2.2.1
        have hqq : 3 ≤ q ∧ q ≤ 4096 := hok.2.2.1
        clear hok
        go_upto_region 29 with fail
        have HT4 := Lib.hid (HT3.out.alloc (.cells #[.int .i64 a, .int .i64 (g + 1), .int .i64 m, .int .i64 h, .int .i64 q] 24))
        have HO4 : Hid (BlkIs _ w1.heap.size 51 (turnA ri hd cr ke A tl.length C)) := BlkIs.alloc HOB.out (.cells #[.int .i64 a, .int .i64 (g + 1), .int .i64 m, .int .i64 h, .int .i64 q] 24)
        have HU4 : Hid (BlkIs ((((((w1.setCell ⟨gt, 0, none⟩ (.int .i64 a)).setCell ⟨gt, 1, none⟩ (.int .i64 g)).setCell ⟨gt, 2, none⟩ (.int .i64 m)).setCell ⟨gt, 3, none⟩ (.int .i64 h)).setCell ⟨gt, 4, none⟩ (.int .i64 q)).alloc (.cells #[.int .i64 ri, .int .i64 hd, .bool cr, .bool ke, .slice A tl.length C] 51) |>.alloc (.cells #[.int .i64 a, .int .i64 (g + 1), .int .i64 m, .int .i64 h, .int .i64 q] 24)) (w1.heap.size + 1) 24 (supA a (g + 1) m h q)) := by
          have h1 := BlkIs.new ((((((w1.setCell ⟨gt, 0, none⟩ (.int .i64 a)).setCell ⟨gt, 1, none⟩ (.int .i64 g)).setCell ⟨gt, 2, none⟩ (.int .i64 m)).setCell ⟨gt, 3, none⟩ (.int .i64 h)).setCell ⟨gt, 4, none⟩ (.int .i64 q)).alloc (.cells #[.int .i64 ri, .int .i64 hd, .bool cr, .bool ke, .slice A tl.length C] 51)) 24 (supA a (g + 1) m h q)
          rwa [show ((((((w1.setCell ⟨gt, 0, none⟩ (.int .i64 a)).setCell ⟨gt, 1, none⟩ (.int .i64 g)).setCell ⟨gt, 2, none⟩ (.int .i64 m)).setCell ⟨gt, 3, none⟩ (.int .i64 h)).setCell ⟨gt, 4, none⟩ (.int .i64 q)).alloc (.cells #[.int .i64 ri, .int .i64 hd, .bool cr, .bool ke, .slice A tl.length C] 51)).heap.size = w1.heap.size + 1 by simp [World.setCell]] at h1
        have hlt := HT1.out.lts
        have hgw : w.heap.size ≤ w1.heap.size := HT1.out.bel.size
        have hmt : m ≤ q := hmq.2
        generalize (((((((w1.setCell ⟨gt, 0, none⟩ (.int .i64 a)).setCell ⟨gt, 1, none⟩ (.int .i64 g)).setCell ⟨gt, 2, none⟩ (.int .i64 m)).setCell ⟨gt, 3, none⟩ (.int .i64 h)).setCell ⟨gt, 4, none⟩ (.int .i64 q)).alloc (.cells #[.int .i64 ri, .int .i64 hd, .bool cr, .bool ke, .slice A tl.length C] 51)).alloc (.cells #[.int .i64 a, .int .i64 (g + 1), .int .i64 m, .int .i64 h, .int .i64 q] 24)) = w4 at *
        clear hs3 ht2 hs2 hxs ht1 hft1 HOB HT3 HT2 hxb2 HS1 hgs
        obtain ⟨gu, hgu⟩ : ∃ gu, gu = w1.heap.size + 1 := ⟨_, rfl⟩
        rw [← hgu] at HU4 ⊢
        generalize w1.heap.size = go at *
        have hgg : go < gu := by omega
        clear hgu
        have hs4 := sup_at HT4.out.sup
        have hu4 := sup_at HU4.out
        have hfu4 := sup_froz HU4.out
        have ho4 := turn_at HO4.out
        clear HT1
        go_wp2_with fail
        refine (whole_range ri m q _ (by omega) (by omega) (by omega)).mono ?_
        rintro e w3 ⟨⟨rr, rfl, hr1, hr2⟩, hw3⟩
        rw [hw3]
        clear hw3
        go_upto_region 31 with fail
        have HU5 : Hid (BlkIs ((w4.setCell ⟨gu, 2, none⟩ (.int .i64 rr)).setCell ⟨gu, 3, none⟩ (.int .i64 0)) gu 24 (supA a (g + 1) rr 0 q)) := (HU4.out.stored 2 (.int .i64 rr)).stored 3 (.int .i64 0)
        have HT5 := Lib.hid ((HT4.out.setFar (g := gu) (by omega) (by omega) 2 (.int .i64 rr)).setFar (g := gu) (by omega) (by omega) 3 (.int .i64 0))
        have HO5 : Hid (BlkIs ((w4.setCell ⟨gu, 2, none⟩ (.int .i64 rr)).setCell ⟨gu, 3, none⟩ (.int .i64 0)) go 51 (turnA ri hd cr ke A tl.length C)) := (HO4.out.far (p := ⟨gu, 2, none⟩) (by show go ≠ gu; omega) _).far (p := ⟨gu, 3, none⟩) (by show go ≠ gu; omega) _
        clear hs4 hu4 hfu4 ho4
        generalize ((w4.setCell ⟨gu, 2, none⟩ (.int .i64 rr)).setCell ⟨gu, 3, none⟩ (.int .i64 0)) = w5 at *
        clear HU4 HT4 HO4
        have hu5 := sup_at HU5.out
        have hfu5 := sup_froz HU5.out
        have ho5 := turn_at HO5.out
        have hr0 : 2 ≤ rr := by omega
        have hr3 : rr ≤ 4096 := by omega
        by_cases hr5 : 2 < rr
        · by_cases hh4 : hd.tmod 4 = 0
          · have hb4 : (hd.tmod 4 != 0) = false := by rw [hh4]; rfl
            clear hh4
            go_upto_region 33 with fail
            obtain ⟨hh, Hh, HU6⟩ : ∃ hh : Int, (hh = 0 ∨ 2 ≤ hh ∧ hh < rr) ∧ Hid (BlkIs w5 gu 24 (supA a (g + 1) rr hh q)) := ⟨0, .inl rfl, HU5⟩
            have HT6 := HT5
            have HO6 := HO5
            clear HU5 HT5 HO5 hu5 hfu5 ho5
            have HC : Hid (∀ w, Calls Try.prog 13 #[.agg #[.int .i64 a, .int .i64 (g + 1), .int .i64 rr, .int .i64 hh, .int .i64 q]] w fun e w' => PackedS w.heap.size ⟨a, g + 1, rr, hh, q⟩ e w' ∧ Below w.heap.size w w') := packSuper_any ⟨a, g + 1, rr, hh, q⟩
            have HUK : Hid (Sup.Ok ⟨a, g + 1, rr, hh, q⟩) := Sup.turn_ok (s := ⟨a, g, m, h, q⟩) HOK.out (by dsimp only; omega) hr1 hr2 Hh
            have HGOT := Lib.hid (HST.out.got (tail := tl) (u := ⟨a, g + 1, rr, hh, q⟩) HXT.out.2.1 HUK.out rfl rfl rfl hr1)
            have HLOST := Lib.hid (HST.out.lost (tail := tl) HXT.out.2.1)
            have hu6 := sup_at HU6.out
            go_wp2_with fail
            refine (HC.out _).mono ?_
            rintro e w7 ⟨⟨v, rfl, hown⟩, hb⟩
            rw [packSN_ok HUK.out] at hown ⊢
            obtain ⟨pb, pd, rfl, hgb, hpg, hroom⟩ := own_pg hown (superN_length _)
            have HPB := Lib.hid hpg
            have hap := HT6.out.apart hgb
            have HT7 := Lib.hid (HT6.out.below hb)
            have HU7 := Lib.hid (HU6.out.below hb)
            have HO7 := Lib.hid (HO6.out.below hb)
            have hu7 := sup_at HU7.out
            have ho7 := turn_at HO7.out
            have hc7 := HT7.out.cells
            clear hb hown hgb hpg hu6 HC HT6 HU6 HO6 Hh HUK
            by_cases hp : (g + 1) % 2 = 0
            · have hm : (g + 1).tmod 2 = 0 := by rw [tmod2 (by omega)]; exact hp
              rcases cr with _ | _
              · go_wp2_with fail
                refine (slot_any (some ⟨pb, 0, none⟩) A pd tl.length C (superN ⟨a, g + 1, rr, hh, q⟩) tl w7 HPB.out (HXT.out.below HT7.out.bel) hroom).mono ?_
                rintro e w8 ⟨v8, rfl, hown8, hb8⟩
                obtain ⟨qb, qd, rfl, hgq, hqg, hqr⟩ := own_pg hown8 (slotN_length (superN_length _))
                have hap8 := HT7.out.apart hgq
                have HT8 := Lib.hid (HT7.out.below hb8)
                have HU8 := Lib.hid (HU7.out.below hb8)
                have HT9 := Lib.hid (HT8.out.set0 hqg hap8 hqr)
                unfold slV at HT9
                have hu9 := sup_at (HU8.out.far (p := ⟨ga, 0, none⟩) (show gu ≠ ga by omega) (.slice (some ⟨qb, 0, none⟩) 256 qd))
                have HTA := Lib.hid (HT9.out.setS a (g + 1) rr hh q)
                unfold sup5 at HTA
                have hc8 := HT8.out.cells
                have hs9 := sup_at HT9.out.sup
                have hfs9 := sup_froz HT9.out.sup
                clear hown8 hb8 hgq hqg hc7 ho7 hu7
                go_wp2_with fail
                go_roundw
                case rel => exact ⟨k + 1, ⟨a, g + 1, rr, hh, q⟩, _, _, _, _, _, _, _, by go_num, by omega, (show 1 ≤ g + 1 ∧ g + 1 ≤ ((k + 1 : Nat) : Int) + 1 by omega), (show q = q from rfl), HGOT.out.1 hp, HTA⟩
                case measure => simp [intOf]; omega
              · rcases ke with _ | _
                · go_wp2_with fail
                  go_region_law (first
                    | (go_simp; go_at_call 24; refine (slot_any (some ⟨b0, 0, none⟩) A c0 tl.length C x0 tl w7.drew (RB.below HT7.out.p0 (Below.drew (Below.refl _ _))) ((HXT.out.below HT7.out.bel).below (Below.drew (Below.refl _ _))) HT7.out.room.1).mono ?_; rintro e w8 ⟨v8, rfl, hown8, hb8⟩; obtain ⟨qb, qd, rfl, hgq, hqg, hqr⟩ := own_pg hown8 (slotN_length HT7.out.p0.1); have hap8 := HT7.out.apart hgq; have HT8 := Lib.hid (HT7.out.below (below_undrew hb8)); have HT9 := Lib.hid (HT8.out.set0 hqg hap8 hqr); unfold slV at HT9; have hc8 := HT8.out.cells; clear hown8 hb8 hgq hqg))
                  all_goals
                    go_wp2_with fail
                    go_roundw
                    case rel => exact ⟨k + 1, ⟨a, g, m, h, q⟩, _, _, _, _, _, _, _, by go_num, by omega, (show 1 ≤ g ∧ g ≤ ((k + 1 : Nat) : Int) + 1 by omega), (show q = q from rfl), HLOST.out.1 hp, HT9⟩
                    case measure => simp [intOf]; omega
                · go_wp2_with fail
                  refine (slot_any (some ⟨pb, 0, none⟩) A pd tl.length C (superN ⟨a, g + 1, rr, hh, q⟩) tl w7 HPB.out (HXT.out.below HT7.out.bel) hroom).mono ?_
                  rintro e w8 ⟨v8, rfl, hown8, hb8⟩
                  obtain ⟨qb, qd, rfl, hgq, hqg, hqr⟩ := own_pg hown8 (slotN_length (superN_length _))
                  have hap8 := HT7.out.apart hgq
                  have HT8 := Lib.hid (HT7.out.below hb8)
                  have HU8 := Lib.hid (HU7.out.below hb8)
                  have HT9 := Lib.hid (HT8.out.set0 hqg hap8 hqr)
                  unfold slV at HT9
                  have hu9 := sup_at (HU8.out.far (p := ⟨ga, 0, none⟩) (show gu ≠ ga by omega) (.slice (some ⟨qb, 0, none⟩) 256 qd))
                  have HTA := Lib.hid (HT9.out.setS a (g + 1) rr hh q)
                  unfold sup5 at HTA
                  have hc8 := HT8.out.cells
                  have hs9 := sup_at HT9.out.sup
                  have hfs9 := sup_froz HT9.out.sup
                  clear hown8 hb8 hgq hqg hc7 ho7 hu7
                  go_wp2_with fail
                  go_roundw
                  case rel => exact ⟨k + 1, ⟨a, g + 1, rr, hh, q⟩, _, _, _, _, _, _, _, by go_num, by omega, (show 1 ≤ g + 1 ∧ g + 1 ≤ ((k + 1 : Nat) : Int) + 1 by omega), (show q = q from rfl), HGOT.out.1 hp, HTA⟩
                  case measure => simp [intOf]; omega
            · have hm : (g + 1).tmod 2 = 1 := by rw [tmod2 (by omega)]; omega
              replace hp : (g + 1) % 2 = 1 := by omega
              rcases cr with _ | _
              · go_wp2_with fail
                refine (slot_any (some ⟨pb, 0, none⟩) A pd tl.length C (superN ⟨a, g + 1, rr, hh, q⟩) tl w7 HPB.out (HXT.out.below HT7.out.bel) hroom).mono ?_
                rintro e w8 ⟨v8, rfl, hown8, hb8⟩
                obtain ⟨qb, qd, rfl, hgq, hqg, hqr⟩ := own_pg hown8 (slotN_length (superN_length _))
                have hap8 := HT7.out.apart hgq
                have HT8 := Lib.hid (HT7.out.below hb8)
                have HU8 := Lib.hid (HU7.out.below hb8)
                have HT9 := Lib.hid (HT8.out.set1 hqg hap8 hqr)
                unfold slV at HT9
                have hu9 := sup_at (HU8.out.far (p := ⟨ga, 1, none⟩) (show gu ≠ ga by omega) (.slice (some ⟨qb, 0, none⟩) 256 qd))
                have HTA := Lib.hid (HT9.out.setS a (g + 1) rr hh q)
                unfold sup5 at HTA
                have hc8 := HT8.out.cells
                have hs9 := sup_at HT9.out.sup
                have hfs9 := sup_froz HT9.out.sup
                clear hown8 hb8 hgq hqg hc7 ho7 hu7
                go_wp2_with fail
                go_roundw
                case rel => exact ⟨k + 1, ⟨a, g + 1, rr, hh, q⟩, _, _, _, _, _, _, _, by go_num, by omega, (show 1 ≤ g + 1 ∧ g + 1 ≤ ((k + 1 : Nat) : Int) + 1 by omega), (show q = q from rfl), HGOT.out.2 hp, HTA⟩
                case measure => simp [intOf]; omega
              · rcases ke with _ | _
                · go_wp2_with fail
                  go_region_law (first
                    | (go_simp; go_at_call 24; refine (slot_any (some ⟨b1, 0, none⟩) A c1 tl.length C x1 tl w7.drew (RB.below HT7.out.p1 (Below.drew (Below.refl _ _))) ((HXT.out.below HT7.out.bel).below (Below.drew (Below.refl _ _))) HT7.out.room.2).mono ?_; rintro e w8 ⟨v8, rfl, hown8, hb8⟩; obtain ⟨qb, qd, rfl, hgq, hqg, hqr⟩ := own_pg hown8 (slotN_length HT7.out.p1.1); have hap8 := HT7.out.apart hgq; have HT8 := Lib.hid (HT7.out.below (below_undrew hb8)); have HT9 := Lib.hid (HT8.out.set1 hqg hap8 hqr); unfold slV at HT9; have hc8 := HT8.out.cells; clear hown8 hb8 hgq hqg))
                  all_goals
                    go_wp2_with fail
                    go_roundw
                    case rel => exact ⟨k + 1, ⟨a, g, m, h, q⟩, _, _, _, _, _, _, _, by go_num, by omega, (show 1 ≤ g ∧ g ≤ ((k + 1 : Nat) : Int) + 1 by omega), (show q = q from rfl), HLOST.out.2 hp, HT9⟩
                    case measure => simp [intOf]; omega
                · go_wp2_with fail
                  refine (slot_any (some ⟨pb, 0, none⟩) A pd tl.length C (superN ⟨a, g + 1, rr, hh, q⟩) tl w7 HPB.out (HXT.out.below HT7.out.bel) hroom).mono ?_
                  rintro e w8 ⟨v8, rfl, hown8, hb8⟩
                  obtain ⟨qb, qd, rfl, hgq, hqg, hqr⟩ := own_pg hown8 (slotN_length (superN_length _))
                  have hap8 := HT7.out.apart hgq
                  have HT8 := Lib.hid (HT7.out.below hb8)
                  have HU8 := Lib.hid (HU7.out.below hb8)
                  have HT9 := Lib.hid (HT8.out.set1 hqg hap8 hqr)
                  unfold slV at HT9
                  have hu9 := sup_at (HU8.out.far (p := ⟨ga, 1, none⟩) (show gu ≠ ga by omega) (.slice (some ⟨qb, 0, none⟩) 256 qd))
                  have HTA := Lib.hid (HT9.out.setS a (g + 1) rr hh q)
                  unfold sup5 at HTA
                  have hc8 := HT8.out.cells
                  have hs9 := sup_at HT9.out.sup
                  have hfs9 := sup_froz HT9.out.sup
                  clear hown8 hb8 hgq hqg hc7 ho7 hu7
                  go_wp2_with fail
                  go_roundw
                  case rel => exact ⟨k + 1, ⟨a, g + 1, rr, hh, q⟩, _, _, _, _, _, _, _, by go_num, by omega, (show 1 ≤ g + 1 ∧ g + 1 ≤ ((k + 1 : Nat) : Int) + 1 by omega), (show q = q from rfl), HGOT.out.2 hp, HTA⟩
                  case measure => simp [intOf]; omega
          · have hb4 : (hd.tmod 4 != 0) = true := by rw [bne_iff_ne]; exact hh4
            clear hh4
            go_wp2_with fail
            refine (whole_range hd 2 (rr - 1) _ (by omega) (by omega) (by omega)).mono ?_
            rintro e w3 ⟨⟨hh, rfl, hh1, hh2⟩, hw3⟩
            rw [hw3]
            clear hw3
            go_upto_region 33 with fail
            have HU6 : Hid (BlkIs (w5.setCell ⟨gu, 3, none⟩ (.int .i64 hh)) gu 24 (supA a (g + 1) rr hh q)) := HU5.out.stored 3 (.int .i64 hh)
            have HT6 := Lib.hid (HT5.out.setFar (g := gu) (by omega) (by omega) 3 (.int .i64 hh))
            have HO6 : Hid (BlkIs (w5.setCell ⟨gu, 3, none⟩ (.int .i64 hh)) go 51 (turnA ri hd cr ke A tl.length C)) := HO5.out.far (p := ⟨gu, 3, none⟩) (show go ≠ gu by omega) _
            have Hh : hh = 0 ∨ 2 ≤ hh ∧ hh < rr := by omega
            generalize w5.setCell ⟨gu, 3, none⟩ (.int .i64 hh) = w6 at *
            clear HU5 HT5 HO5 hu5 hfu5 ho5
            have HC : Hid (∀ w, Calls Try.prog 13 #[.agg #[.int .i64 a, .int .i64 (g + 1), .int .i64 rr, .int .i64 hh, .int .i64 q]] w fun e w' => PackedS w.heap.size ⟨a, g + 1, rr, hh, q⟩ e w' ∧ Below w.heap.size w w') := packSuper_any ⟨a, g + 1, rr, hh, q⟩
            have HUK : Hid (Sup.Ok ⟨a, g + 1, rr, hh, q⟩) := Sup.turn_ok (s := ⟨a, g, m, h, q⟩) HOK.out (by dsimp only; omega) hr1 hr2 Hh
            have HGOT := Lib.hid (HST.out.got (tail := tl) (u := ⟨a, g + 1, rr, hh, q⟩) HXT.out.2.1 HUK.out rfl rfl rfl hr1)
            have HLOST := Lib.hid (HST.out.lost (tail := tl) HXT.out.2.1)
            have hu6 := sup_at HU6.out
            go_wp2_with fail
            refine (HC.out _).mono ?_
            rintro e w7 ⟨⟨v, rfl, hown⟩, hb⟩
            rw [packSN_ok HUK.out] at hown ⊢
            obtain ⟨pb, pd, rfl, hgb, hpg, hroom⟩ := own_pg hown (superN_length _)
            have HPB := Lib.hid hpg
            have hap := HT6.out.apart hgb
            have HT7 := Lib.hid (HT6.out.below hb)
            have HU7 := Lib.hid (HU6.out.below hb)
            have HO7 := Lib.hid (HO6.out.below hb)
            have hu7 := sup_at HU7.out
            have ho7 := turn_at HO7.out
            have hc7 := HT7.out.cells
            clear hb hown hgb hpg hu6 HC HT6 HU6 HO6 Hh HUK
            by_cases hp : (g + 1) % 2 = 0
            · have hm : (g + 1).tmod 2 = 0 := by rw [tmod2 (by omega)]; exact hp
              rcases cr with _ | _
              · go_wp2_with fail
                refine (slot_any (some ⟨pb, 0, none⟩) A pd tl.length C (superN ⟨a, g + 1, rr, hh, q⟩) tl w7 HPB.out (HXT.out.below HT7.out.bel) hroom).mono ?_
                rintro e w8 ⟨v8, rfl, hown8, hb8⟩
                obtain ⟨qb, qd, rfl, hgq, hqg, hqr⟩ := own_pg hown8 (slotN_length (superN_length _))
                have hap8 := HT7.out.apart hgq
                have HT8 := Lib.hid (HT7.out.below hb8)
                have HU8 := Lib.hid (HU7.out.below hb8)
                have HT9 := Lib.hid (HT8.out.set0 hqg hap8 hqr)
                unfold slV at HT9
                have hu9 := sup_at (HU8.out.far (p := ⟨ga, 0, none⟩) (show gu ≠ ga by omega) (.slice (some ⟨qb, 0, none⟩) 256 qd))
                have HTA := Lib.hid (HT9.out.setS a (g + 1) rr hh q)
                unfold sup5 at HTA
                have hc8 := HT8.out.cells
                have hs9 := sup_at HT9.out.sup
                have hfs9 := sup_froz HT9.out.sup
                clear hown8 hb8 hgq hqg hc7 ho7 hu7
                go_wp2_with fail
                go_roundw
                case rel => exact ⟨k + 1, ⟨a, g + 1, rr, hh, q⟩, _, _, _, _, _, _, _, by go_num, by omega, (show 1 ≤ g + 1 ∧ g + 1 ≤ ((k + 1 : Nat) : Int) + 1 by omega), (show q = q from rfl), HGOT.out.1 hp, HTA⟩
                case measure => simp [intOf]; omega
              · rcases ke with _ | _
                · go_wp2_with fail
                  go_region_law (first
                    | (go_simp; go_at_call 24; refine (slot_any (some ⟨b0, 0, none⟩) A c0 tl.length C x0 tl w7.drew (RB.below HT7.out.p0 (Below.drew (Below.refl _ _))) ((HXT.out.below HT7.out.bel).below (Below.drew (Below.refl _ _))) HT7.out.room.1).mono ?_; rintro e w8 ⟨v8, rfl, hown8, hb8⟩; obtain ⟨qb, qd, rfl, hgq, hqg, hqr⟩ := own_pg hown8 (slotN_length HT7.out.p0.1); have hap8 := HT7.out.apart hgq; have HT8 := Lib.hid (HT7.out.below (below_undrew hb8)); have HT9 := Lib.hid (HT8.out.set0 hqg hap8 hqr); unfold slV at HT9; have hc8 := HT8.out.cells; clear hown8 hb8 hgq hqg))
                  all_goals
                    go_wp2_with fail
                    go_roundw
                    case rel => exact ⟨k + 1, ⟨a, g, m, h, q⟩, _, _, _, _, _, _, _, by go_num, by omega, (show 1 ≤ g ∧ g ≤ ((k + 1 : Nat) : Int) + 1 by omega), (show q = q from rfl), HLOST.out.1 hp, HT9⟩
                    case measure => simp [intOf]; omega
                · go_wp2_with fail
                  refine (slot_any (some ⟨pb, 0, none⟩) A pd tl.length C (superN ⟨a, g + 1, rr, hh, q⟩) tl w7 HPB.out (HXT.out.below HT7.out.bel) hroom).mono ?_
                  rintro e w8 ⟨v8, rfl, hown8, hb8⟩
                  obtain ⟨qb, qd, rfl, hgq, hqg, hqr⟩ := own_pg hown8 (slotN_length (superN_length _))
                  have hap8 := HT7.out.apart hgq
                  have HT8 := Lib.hid (HT7.out.below hb8)
                  have HU8 := Lib.hid (HU7.out.below hb8)
                  have HT9 := Lib.hid (HT8.out.set0 hqg hap8 hqr)
                  unfold slV at HT9
                  have hu9 := sup_at (HU8.out.far (p := ⟨ga, 0, none⟩) (show gu ≠ ga by omega) (.slice (some ⟨qb, 0, none⟩) 256 qd))
                  have HTA := Lib.hid (HT9.out.setS a (g + 1) rr hh q)
                  unfold sup5 at HTA
                  have hc8 := HT8.out.cells
                  have hs9 := sup_at HT9.out.sup
                  have hfs9 := sup_froz HT9.out.sup
                  clear hown8 hb8 hgq hqg hc7 ho7 hu7
                  go_wp2_with fail
                  go_roundw
                  case rel => exact ⟨k + 1, ⟨a, g + 1, rr, hh, q⟩, _, _, _, _, _, _, _, by go_num, by omega, (show 1 ≤ g + 1 ∧ g + 1 ≤ ((k + 1 : Nat) : Int) + 1 by omega), (show q = q from rfl), HGOT.out.1 hp, HTA⟩
                  case measure => simp [intOf]; omega
            · have hm : (g + 1).tmod 2 = 1 := by rw [tmod2 (by omega)]; omega
              replace hp : (g + 1) % 2 = 1 := by omega
              rcases cr with _ | _
              · go_wp2_with fail
                refine (slot_any (some ⟨pb, 0, none⟩) A pd tl.length C (superN ⟨a, g + 1, rr, hh, q⟩) tl w7 HPB.out (HXT.out.below HT7.out.bel) hroom).mono ?_
                rintro e w8 ⟨v8, rfl, hown8, hb8⟩
                obtain ⟨qb, qd, rfl, hgq, hqg, hqr⟩ := own_pg hown8 (slotN_length (superN_length _))
                have hap8 := HT7.out.apart hgq
                have HT8 := Lib.hid (HT7.out.below hb8)
                have HU8 := Lib.hid (HU7.out.below hb8)
                have HT9 := Lib.hid (HT8.out.set1 hqg hap8 hqr)
                unfold slV at HT9
                have hu9 := sup_at (HU8.out.far (p := ⟨ga, 1, none⟩) (show gu ≠ ga by omega) (.slice (some ⟨qb, 0, none⟩) 256 qd))
                have HTA := Lib.hid (HT9.out.setS a (g + 1) rr hh q)
                unfold sup5 at HTA
                have hc8 := HT8.out.cells
                have hs9 := sup_at HT9.out.sup
                have hfs9 := sup_froz HT9.out.sup
                clear hown8 hb8 hgq hqg hc7 ho7 hu7
                go_wp2_with fail
                go_roundw
                case rel => exact ⟨k + 1, ⟨a, g + 1, rr, hh, q⟩, _, _, _, _, _, _, _, by go_num, by omega, (show 1 ≤ g + 1 ∧ g + 1 ≤ ((k + 1 : Nat) : Int) + 1 by omega), (show q = q from rfl), HGOT.out.2 hp, HTA⟩
                case measure => simp [intOf]; omega
              · rcases ke with _ | _
                · go_wp2_with fail
                  go_region_law (first
                    | (go_simp; go_at_call 24; refine (slot_any (some ⟨b1, 0, none⟩) A c1 tl.length C x1 tl w7.drew (RB.below HT7.out.p1 (Below.drew (Below.refl _ _))) ((HXT.out.below HT7.out.bel).below (Below.drew (Below.refl _ _))) HT7.out.room.2).mono ?_; rintro e w8 ⟨v8, rfl, hown8, hb8⟩; obtain ⟨qb, qd, rfl, hgq, hqg, hqr⟩ := own_pg hown8 (slotN_length HT7.out.p1.1); have hap8 := HT7.out.apart hgq; have HT8 := Lib.hid (HT7.out.below (below_undrew hb8)); have HT9 := Lib.hid (HT8.out.set1 hqg hap8 hqr); unfold slV at HT9; have hc8 := HT8.out.cells; clear hown8 hb8 hgq hqg))
                  all_goals
                    go_wp2_with fail
                    go_roundw
                    case rel => exact ⟨k + 1, ⟨a, g, m, h, q⟩, _, _, _, _, _, _, _, by go_num, by omega, (show 1 ≤ g ∧ g ≤ ((k + 1 : Nat) : Int) + 1 by omega), (show q = q from rfl), HLOST.out.2 hp, HT9⟩
                    case measure => simp [intOf]; omega
                · go_wp2_with fail
                  refine (slot_any (some ⟨pb, 0, none⟩) A pd tl.length C (superN ⟨a, g + 1, rr, hh, q⟩) tl w7 HPB.out (HXT.out.below HT7.out.bel) hroom).mono ?_
                  rintro e w8 ⟨v8, rfl, hown8, hb8⟩
                  obtain ⟨qb, qd, rfl, hgq, hqg, hqr⟩ := own_pg hown8 (slotN_length (superN_length _))
                  have hap8 := HT7.out.apart hgq
                  have HT8 := Lib.hid (HT7.out.below hb8)
                  have HU8 := Lib.hid (HU7.out.below hb8)
                  have HT9 := Lib.hid (HT8.out.set1 hqg hap8 hqr)
                  unfold slV at HT9
                  have hu9 := sup_at (HU8.out.far (p := ⟨ga, 1, none⟩) (show gu ≠ ga by omega) (.slice (some ⟨qb, 0, none⟩) 256 qd))
                  have HTA := Lib.hid (HT9.out.setS a (g + 1) rr hh q)
                  unfold sup5 at HTA
                  have hc8 := HT8.out.cells
                  have hs9 := sup_at HT9.out.sup
                  have hfs9 := sup_froz HT9.out.sup
                  clear hown8 hb8 hgq hqg hc7 ho7 hu7
                  go_wp2_with fail
                  go_roundw
                  case rel => exact ⟨k + 1, ⟨a, g + 1, rr, hh, q⟩, _, _, _, _, _, _, _, by go_num, by omega, (show 1 ≤ g + 1 ∧ g + 1 ≤ ((k + 1 : Nat) : Int) + 1 by omega), (show q = q from rfl), HGOT.out.2 hp, HTA⟩
                  case measure => simp [intOf]; omega
        · have hr6 : ¬ rr > 2 := hr5
          go_upto_region 33 with fail
          obtain ⟨hh, Hh, HU6⟩ : ∃ hh : Int, (hh = 0 ∨ 2 ≤ hh ∧ hh < rr) ∧ Hid (BlkIs w5 gu 24 (supA a (g + 1) rr hh q)) := ⟨0, .inl rfl, HU5⟩
          have HT6 := HT5
          have HO6 := HO5
          clear HU5 HT5 HO5 hu5 hfu5 ho5
          have HC : Hid (∀ w, Calls Try.prog 13 #[.agg #[.int .i64 a, .int .i64 (g + 1), .int .i64 rr, .int .i64 hh, .int .i64 q]] w fun e w' => PackedS w.heap.size ⟨a, g + 1, rr, hh, q⟩ e w' ∧ Below w.heap.size w w') := packSuper_any ⟨a, g + 1, rr, hh, q⟩
          have HUK : Hid (Sup.Ok ⟨a, g + 1, rr, hh, q⟩) := Sup.turn_ok (s := ⟨a, g, m, h, q⟩) HOK.out (by dsimp only; omega) hr1 hr2 Hh
          have HGOT := Lib.hid (HST.out.got (tail := tl) (u := ⟨a, g + 1, rr, hh, q⟩) HXT.out.2.1 HUK.out rfl rfl rfl hr1)
          have HLOST := Lib.hid (HST.out.lost (tail := tl) HXT.out.2.1)
          have hu6 := sup_at HU6.out
          go_wp2_with fail
          refine (HC.out _).mono ?_
          rintro e w7 ⟨⟨v, rfl, hown⟩, hb⟩
          rw [packSN_ok HUK.out] at hown ⊢
          obtain ⟨pb, pd, rfl, hgb, hpg, hroom⟩ := own_pg hown (superN_length _)
          have HPB := Lib.hid hpg
          have hap := HT6.out.apart hgb
          have HT7 := Lib.hid (HT6.out.below hb)
          have HU7 := Lib.hid (HU6.out.below hb)
          have HO7 := Lib.hid (HO6.out.below hb)
          have hu7 := sup_at HU7.out
          have ho7 := turn_at HO7.out
          have hc7 := HT7.out.cells
          clear hb hown hgb hpg hu6 HC HT6 HU6 HO6 Hh HUK
          by_cases hp : (g + 1) % 2 = 0
          · have hm : (g + 1).tmod 2 = 0 := by rw [tmod2 (by omega)]; exact hp
            rcases cr with _ | _
            · go_wp2_with fail
              refine (slot_any (some ⟨pb, 0, none⟩) A pd tl.length C (superN ⟨a, g + 1, rr, hh, q⟩) tl w7 HPB.out (HXT.out.below HT7.out.bel) hroom).mono ?_
              rintro e w8 ⟨v8, rfl, hown8, hb8⟩
              obtain ⟨qb, qd, rfl, hgq, hqg, hqr⟩ := own_pg hown8 (slotN_length (superN_length _))
              have hap8 := HT7.out.apart hgq
              have HT8 := Lib.hid (HT7.out.below hb8)
              have HU8 := Lib.hid (HU7.out.below hb8)
              have HT9 := Lib.hid (HT8.out.set0 hqg hap8 hqr)
              unfold slV at HT9
              have hu9 := sup_at (HU8.out.far (p := ⟨ga, 0, none⟩) (show gu ≠ ga by omega) (.slice (some ⟨qb, 0, none⟩) 256 qd))
              have HTA := Lib.hid (HT9.out.setS a (g + 1) rr hh q)
              unfold sup5 at HTA
              have hc8 := HT8.out.cells
              have hs9 := sup_at HT9.out.sup
              have hfs9 := sup_froz HT9.out.sup
              clear hown8 hb8 hgq hqg hc7 ho7 hu7
              go_wp2_with fail
              go_roundw
              case rel => exact ⟨k + 1, ⟨a, g + 1, rr, hh, q⟩, _, _, _, _, _, _, _, by go_num, by omega, (show 1 ≤ g + 1 ∧ g + 1 ≤ ((k + 1 : Nat) : Int) + 1 by omega), (show q = q from rfl), HGOT.out.1 hp, HTA⟩
              case measure => simp [intOf]; omega
            · rcases ke with _ | _
              · go_wp2_with fail
                go_region_law (first
                  | (go_simp; go_at_call 24; refine (slot_any (some ⟨b0, 0, none⟩) A c0 tl.length C x0 tl w7.drew (RB.below HT7.out.p0 (Below.drew (Below.refl _ _))) ((HXT.out.below HT7.out.bel).below (Below.drew (Below.refl _ _))) HT7.out.room.1).mono ?_; rintro e w8 ⟨v8, rfl, hown8, hb8⟩; obtain ⟨qb, qd, rfl, hgq, hqg, hqr⟩ := own_pg hown8 (slotN_length HT7.out.p0.1); have hap8 := HT7.out.apart hgq; have HT8 := Lib.hid (HT7.out.below (below_undrew hb8)); have HT9 := Lib.hid (HT8.out.set0 hqg hap8 hqr); unfold slV at HT9; have hc8 := HT8.out.cells; clear hown8 hb8 hgq hqg))
                all_goals
                  go_wp2_with fail
                  go_roundw
                  case rel => exact ⟨k + 1, ⟨a, g, m, h, q⟩, _, _, _, _, _, _, _, by go_num, by omega, (show 1 ≤ g ∧ g ≤ ((k + 1 : Nat) : Int) + 1 by omega), (show q = q from rfl), HLOST.out.1 hp, HT9⟩
                  case measure => simp [intOf]; omega
              · go_wp2_with fail
                refine (slot_any (some ⟨pb, 0, none⟩) A pd tl.length C (superN ⟨a, g + 1, rr, hh, q⟩) tl w7 HPB.out (HXT.out.below HT7.out.bel) hroom).mono ?_
                rintro e w8 ⟨v8, rfl, hown8, hb8⟩
                obtain ⟨qb, qd, rfl, hgq, hqg, hqr⟩ := own_pg hown8 (slotN_length (superN_length _))
                have hap8 := HT7.out.apart hgq
                have HT8 := Lib.hid (HT7.out.below hb8)
                have HU8 := Lib.hid (HU7.out.below hb8)
                have HT9 := Lib.hid (HT8.out.set0 hqg hap8 hqr)
                unfold slV at HT9
                have hu9 := sup_at (HU8.out.far (p := ⟨ga, 0, none⟩) (show gu ≠ ga by omega) (.slice (some ⟨qb, 0, none⟩) 256 qd))
                have HTA := Lib.hid (HT9.out.setS a (g + 1) rr hh q)
                unfold sup5 at HTA
                have hc8 := HT8.out.cells
                have hs9 := sup_at HT9.out.sup
                have hfs9 := sup_froz HT9.out.sup
                clear hown8 hb8 hgq hqg hc7 ho7 hu7
                go_wp2_with fail
                go_roundw
                case rel => exact ⟨k + 1, ⟨a, g + 1, rr, hh, q⟩, _, _, _, _, _, _, _, by go_num, by omega, (show 1 ≤ g + 1 ∧ g + 1 ≤ ((k + 1 : Nat) : Int) + 1 by omega), (show q = q from rfl), HGOT.out.1 hp, HTA⟩
                case measure => simp [intOf]; omega
          · have hm : (g + 1).tmod 2 = 1 := by rw [tmod2 (by omega)]; omega
            replace hp : (g + 1) % 2 = 1 := by omega
            rcases cr with _ | _
            · go_wp2_with fail
              refine (slot_any (some ⟨pb, 0, none⟩) A pd tl.length C (superN ⟨a, g + 1, rr, hh, q⟩) tl w7 HPB.out (HXT.out.below HT7.out.bel) hroom).mono ?_
              rintro e w8 ⟨v8, rfl, hown8, hb8⟩
              obtain ⟨qb, qd, rfl, hgq, hqg, hqr⟩ := own_pg hown8 (slotN_length (superN_length _))
              have hap8 := HT7.out.apart hgq
              have HT8 := Lib.hid (HT7.out.below hb8)
              have HU8 := Lib.hid (HU7.out.below hb8)
              have HT9 := Lib.hid (HT8.out.set1 hqg hap8 hqr)
              unfold slV at HT9
              have hu9 := sup_at (HU8.out.far (p := ⟨ga, 1, none⟩) (show gu ≠ ga by omega) (.slice (some ⟨qb, 0, none⟩) 256 qd))
              have HTA := Lib.hid (HT9.out.setS a (g + 1) rr hh q)
              unfold sup5 at HTA
              have hc8 := HT8.out.cells
              have hs9 := sup_at HT9.out.sup
              have hfs9 := sup_froz HT9.out.sup
              clear hown8 hb8 hgq hqg hc7 ho7 hu7
              go_wp2_with fail
              go_roundw
              case rel => exact ⟨k + 1, ⟨a, g + 1, rr, hh, q⟩, _, _, _, _, _, _, _, by go_num, by omega, (show 1 ≤ g + 1 ∧ g + 1 ≤ ((k + 1 : Nat) : Int) + 1 by omega), (show q = q from rfl), HGOT.out.2 hp, HTA⟩
              case measure => simp [intOf]; omega
            · rcases ke with _ | _
              · go_wp2_with fail
                go_region_law (first
                  | (go_simp; go_at_call 24; refine (slot_any (some ⟨b1, 0, none⟩) A c1 tl.length C x1 tl w7.drew (RB.below HT7.out.p1 (Below.drew (Below.refl _ _))) ((HXT.out.below HT7.out.bel).below (Below.drew (Below.refl _ _))) HT7.out.room.2).mono ?_; rintro e w8 ⟨v8, rfl, hown8, hb8⟩; obtain ⟨qb, qd, rfl, hgq, hqg, hqr⟩ := own_pg hown8 (slotN_length HT7.out.p1.1); have hap8 := HT7.out.apart hgq; have HT8 := Lib.hid (HT7.out.below (below_undrew hb8)); have HT9 := Lib.hid (HT8.out.set1 hqg hap8 hqr); unfold slV at HT9; have hc8 := HT8.out.cells; clear hown8 hb8 hgq hqg))
                all_goals
                  go_wp2_with fail
                  go_roundw
                  case rel => exact ⟨k + 1, ⟨a, g, m, h, q⟩, _, _, _, _, _, _, _, by go_num, by omega, (show 1 ≤ g ∧ g ≤ ((k + 1 : Nat) : Int) + 1 by omega), (show q = q from rfl), HLOST.out.2 hp, HT9⟩
                  case measure => simp [intOf]; omega
              · go_wp2_with fail
                refine (slot_any (some ⟨pb, 0, none⟩) A pd tl.length C (superN ⟨a, g + 1, rr, hh, q⟩) tl w7 HPB.out (HXT.out.below HT7.out.bel) hroom).mono ?_
                rintro e w8 ⟨v8, rfl, hown8, hb8⟩
                obtain ⟨qb, qd, rfl, hgq, hqg, hqr⟩ := own_pg hown8 (slotN_length (superN_length _))
                have hap8 := HT7.out.apart hgq
                have HT8 := Lib.hid (HT7.out.below hb8)
                have HU8 := Lib.hid (HU7.out.below hb8)
                have HT9 := Lib.hid (HT8.out.set1 hqg hap8 hqr)
                unfold slV at HT9
                have hu9 := sup_at (HU8.out.far (p := ⟨ga, 1, none⟩) (show gu ≠ ga by omega) (.slice (some ⟨qb, 0, none⟩) 256 qd))
                have HTA := Lib.hid (HT9.out.setS a (g + 1) rr hh q)
                unfold sup5 at HTA
                have hc8 := HT8.out.cells
                have hs9 := sup_at HT9.out.sup
                have hfs9 := sup_froz HT9.out.sup
                clear hown8 hb8 hgq hqg hc7 ho7 hu7
                go_wp2_with fail
                go_roundw
                case rel => exact ⟨k + 1, ⟨a, g + 1, rr, hh, q⟩, _, _, _, _, _, _, _, by go_num, by omega, (show 1 ≤ g + 1 ∧ g + 1 ≤ ((k + 1 : Nat) : Int) + 1 by omega), (show q = q from rfl), HGOT.out.2 hp, HTA⟩
                case measure => simp [intOf]; omega
      · by_cases hi1 : (k : Int) < N
        · have hi2 : ¬ (k : Int) < 1073741824 := fun h => hin ⟨hi1, h⟩
          clear hin HX
          go_wp2_with fail
          refine (choose_any (some ⟨b0, 0, none⟩) (some ⟨b1, 0, none⟩) 256 c0 256 c1 x0 x1 wr HT.out.p0 HT.out.p1 HT.out.room.1 HT.out.room.2).mono ?_
          rintro e w1 ⟨he, hb⟩
          unfold Chosen at he
          rw [HCH.out] at he
          subst he
          have HT1 := Lib.hid (HT.out.below hb)
          have HT2 := Lib.hid (HT1.out.setT a g m h q)
          unfold sup5 at HT2
          have ht1 := sup_at HT1.out.tup
          have hft1 := sup_froz HT1.out.tup
          have ht2 := sup_at HT2.out.tup
          have hs2 := sup_at HT2.out.sup
          clear hb HT HCH hc HST HOK HG HPN
          unfold supV
          dsimp only
          go_wp2_with fail
          go_ret
          exact ⟨rfl, HT2.out.bel⟩
        · have hi3 : (N : Int) ≤ k := by omega
          clear hin HX
          go_wp2_with fail
          refine (choose_any (some ⟨b0, 0, none⟩) (some ⟨b1, 0, none⟩) 256 c0 256 c1 x0 x1 wr HT.out.p0 HT.out.p1 HT.out.room.1 HT.out.room.2).mono ?_
          rintro e w1 ⟨he, hb⟩
          unfold Chosen at he
          rw [HCH.out] at he
          subst he
          have HT1 := Lib.hid (HT.out.below hb)
          have HT2 := Lib.hid (HT1.out.setT a g m h q)
          unfold sup5 at HT2
          have ht1 := sup_at HT1.out.tup
          have hft1 := sup_froz HT1.out.tup
          have ht2 := sup_at HT2.out.tup
          have hs2 := sup_at HT2.out.sup
          clear hb HT HCH hc HST HOK HG HPN
          unfold supV
          dsimp only
          go_wp2_with fail
          go_ret
          exact ⟨rfl, HT2.out.bel⟩
end Go.Proofs.Ytbjbpgbpefkbhaa
