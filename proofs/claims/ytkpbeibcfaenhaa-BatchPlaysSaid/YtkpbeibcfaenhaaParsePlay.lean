/- ledgerlaw3.parsePlay; plays at the kind 5; BatchParses. (printed by gen_parseplay.py) -/
import Derived.Test.YtkpbeibcfaenhaaGk
import Derived.Test.YtkpbeibcfaenhaaRoomyB
import Derived.Test.YtkpbeibcfaenhaaSameC
import Derived.Test.YtkpbeibcfaenhaaOpenOps2
namespace Go.Proofs.Ytkpbeibcfaenhaa
open Go.RowKit
/-- How many changes Parse tells. -/
def parM (xs : List Nat) : Nat := if (parseE xs).1 = 0 then numN xs else 0
theorem parse_form {xs : List Nat} {w w' : World} {e : Ending} (h : ParsePost xs w e w') : ∃ A C, e = .returned (.tuple #[.slice A (parM xs) C, .int .i64 (parseE xs).2, .int .i64 ((parseE xs).1 : Nat)]) ∧ ChsAt w' A (parM xs) (parC (xs.drop 2)) ∧ Below w.heap.size w w' := by
  obtain ⟨v, he, hb, h1, h2⟩ := h
  by_cases h0 : (parseE xs).1 = 0
  · obtain ⟨Ad, Cp, ho⟩ := h2 h0
    obtain ⟨A, C, hv, hch, _⟩ := ho.form
    rw [show parM xs = numN xs from if_pos h0]
    exact ⟨A, C, by rw [he, hv], hch, hb⟩
  · rw [show parM xs = 0 from if_neg h0]
    exact ⟨none, 0, by rw [he, h1 h0], ⟨Nat.zero_le _, fun k hk => by omega⟩, hb⟩
theorem rooN_set {xs : List Nat} {q x : Nat} (h : q < xs.length) : (rooN xs).set q x = rooN (xs.set q x) := by
  unfold rooN
  rw [List.set_append_left _ _ h]
theorem isB_set {xs : List Nat} {q x : Nat} (h : IsB xs) (hx : x < 256) : IsB (xs.set q x) := fun y hy => by
  rcases List.mem_or_eq_of_mem_set hy with h1 | h1
  · exact h y h1
  · omega
theorem rooN_front {w : World} {g n : Nat} {t : TypeId} {xs : List Nat} (h : BlkB w g t (rooN xs)) (hB : IsB xs) (hn : xs.length = n) : RB w (some ⟨g, 0, none⟩) n xs := by
  have h1 := (h.rb hB hn).take (k := n) (by omega)
  rwa [← hn, rooN_take, hn] at h1
theorem op_raw {w : World} {g : Nat} {t : TypeId} {kind n : Int} {ds es : List Nat} {v : Value} {rest : List Value} (h : BlkIs w g t (opC kind n ds es (v :: rest)).toArray) (hd : ds.length = 32) (he : es.length = 32) : w.cell? ⟨g, 66, none⟩ = some v := by
  rw [BlkIs.cell h, List.getElem?_toArray, opC, List.getElem?_cons_succ, List.getElem?_cons_succ, List.getElem?_append_right (by simp [bvs, hd]), List.getElem?_append_right (by simp [bvs, hd, he])]
  simp [bvs, hd, he]
set_option maxRecDepth 100000 in
set_option maxHeartbeats 4000000 in
theorem parseplay_any (kd nn : Int) (ds es : List Nat) (A : Option Addr) (n c : Nat) (xs : List Nat) (v2 v3 : Value) (w : World) (hl : ds.length = 32) (hl2 : es.length = 32) (hx : RB w A n xs) (hn : n + 100 ≤ 140737488355328) :
    Calls Try.prog 67 #[.agg (opC kd nn ds es [.slice A n c, v2, v3]).toArray] w fun e w' => e = .returned (.bool true) ∧ Below w.heap.size w w' := by
  have HX := Lib.hid hx
  have HLX := Lib.hid hx.1
  have HL := Lib.hid hl
  have HL2 := Lib.hid hl2
  clear hx hl hl2
  go_enter Try.func67, Try.ntmps67
  go_wp2_with ((with_reducible refine stopAt (o := ⟨some 1, _, _, _, _, _⟩) ?_); refine boxNew (o := ⟨some 1, _, _, _, _, _⟩) (by rfl) 87 (.tmp 0) rfl _ rfl ?_; intro w1 HA1 HW1 HS1; have b66 := op_raw HA1.out HL.out HL2.out)
  refine (roomy_any A n c xs w1 (HX.out.below HW1.out) hn).mono ?_
  rintro e w2 ⟨g, rfl, hg, hblk, hb⟩
  have HOP2 := Lib.hid (BlkIs.below HA1.out hb)
  have b66' := op_raw HOP2.out HL.out HL2.out
  have b1 := op_n HOP2.out
  have HW2 := Lib.hid (HW1.out.trans (hb.mono HW1.out.size))
  have hgb : w.heap.size ≤ g := Nat.le_trans HW1.out.size hg
  have hg1 : w.heap.size < g := by have := BlkIs.lt HA1.out; omega
  have HG2 := Lib.hid hblk
  have HXB := Lib.hid HX.out.isB
  have hsz0 := HOP2.out
  clear hblk hb hg hsz0 b66 b1 HA1 HW1 HS1
  go_wp2_with fail
  clear b66'
  go_loopw [5] (fun i wr => ∃ (k : Nat) (yz : List Nat), k ≤ 3 ∧ i = .int .i64 (k : Int) ∧ yz.length = n ∧ IsB yz ∧ Hid (BlkB wr g 5 (rooN yz)) ∧ Hid (BlkIs wr w.heap.size 87 (opC kd nn ds es [.slice A n c, v2, v3]).toArray) ∧ Hid (Below w.heap.size w wr)) (fun i _ => 3 - (intOf i).toNat)
  case atStart => exact ⟨0, xs, by omega, rfl, HLX.out, HXB.out, HG2.out, HOP2.out, HW2.out⟩
  case round =>
    clear HG2 HOP2 HW2
    obtain ⟨k, yz0, hk, rfl, hyl, hyB, HG, HP, HB⟩ := hrel
    obtain ⟨wz0, rfl⟩ : ∃ wz0, wz0 = wr := ⟨_, rfl⟩
    by_cases hk3 : k < 3
    · have hk3' : (k : Int) < 3 := by omega
      by_cases hg0 : 0 < k
      · have hk0' : (0 : Int) < (k : Int) := by omega
        have hk0d : decide ((0 : Int) < (k : Int)) = true := decide_eq_true hk0'
        by_cases hn0 : 0 < n
        · have hn0' : (0 : Int) < (n : Int) := by omega
          have hn0d : decide ((0 : Int) < (n : Int)) = true := decide_eq_true hn0'
          have b1 := op_n HP.out
          obtain ⟨m, hm⟩ : ∃ m : Int, nn.tmod (n : Int) = m := ⟨_, rfl⟩
          have hm1 : -(n : Int) < m := by rw [← hm]; exact Int.lt_tmod_of_pos nn hn0'
          have hm2 : m < (n : Int) := by rw [← hm]; exact Int.tmod_lt_of_pos nn hn0'
          have hnz : ¬ (n : Int) = 0 := by omega
          by_cases hneg : m < 0
          · have hnegd : decide (m < 0) = true := decide_eq_true hneg
            obtain ⟨q, hq⟩ := Int.eq_ofNat_of_zero_le (Int.tmod_nonneg (a := m + n + k) (n : Int) (by omega))
            have hq2 : (m + (n : Int) + (k : Int)).tmod (n : Int) < (n : Int) := Int.tmod_lt_of_pos _ hn0'
            have hqn : q < n := by omega
            clear hq2
            have hq0 : q < (rooN yz0).length := by rw [rooN_length, hyl]; omega
            have hqs : q < n + 100 := by omega
            have hqs' : (q : Int) < (n : Int) + 100 := by omega
            have hcq : wz0.cell? ⟨g, q, none⟩ = some (.int .u8 ((yz0.getD q 0 : Nat) : Int)) := by
              have h := HG.out.cell (i := q) hq0
              rwa [rooN_low (by rw [hyl]; exact hqn)] at h
            have hfq := BlkIs.frozen HG.out q
            have hx8 := hyB _ (getD_mem (show q < yz0.length by omega))
            have hxor : bits .xor .u8 ((yz0.getD q 0 : Nat) : Int) 1 = ((yz0.getD q 0 ^^^ 1 : Nat) : Int) := xor8 _ 1 hx8 (by omega)
            have hxl := xor_lt8 hx8 (show 1 < 256 by omega)
            obtain ⟨yz, hyz⟩ : ∃ yz, yz = yz0.set q (yz0.getD q 0 ^^^ 1) := ⟨_, rfl⟩
            obtain ⟨wz, hwz⟩ : ∃ wz, wz = wz0.setCell ⟨g, q, none⟩ (.int .u8 ((yz0.getD q 0 ^^^ 1 : Nat) : Int)) := ⟨_, rfl⟩
            have HLZ : Hid (yz.length = n) := by show _ = _; rw [hyz, List.length_set]; exact hyl
            have hyB2 : IsB yz := by rw [hyz]; exact isB_set hyB hxl
            have HGZ : Hid (BlkB wz g 5 (rooN yz)) := by
              have h := HG.out.set q (yz0.getD q 0 ^^^ 1)
              rw [rooN_set (by rw [hyl]; exact hqn)] at h
              rw [hwz, hyz]
              exact h
            have HBZ : Hid (Below w.heap.size w wz) := by
              rw [hwz]
              exact HB.out.setCell (p := ⟨g, q, none⟩) hgb _
            have HRZ : Hid (RB wz (some ⟨g, 0, none⟩) n yz) := rooN_front HGZ.out hyB2 HLZ.out
            have HPZ : Hid (BlkIs wz w.heap.size 87 (opC kd nn ds es [.slice A n c, v2, v3]).toArray) := by rw [hwz]; exact BlkIs.far HP.out (p := ⟨g, q, none⟩) (by show _ ≠ g; omega) _
            have HWZ := Lib.hid hwz
            clear HG HB HP hyB hyl hyB2 hx8 hxl hyz hwz hq0
            generalize yz0.getD q 0 = x at *
            go_wp2_with fail
            rw [← HWZ.out]
            clear HWZ
            refine (copyBytes_any (some ⟨g, 0, none⟩) n (n + 100) yz wz HRZ.out (by omega)).mono ?_
            rintro e w5 ⟨v7, rfl, ho, hb⟩
            obtain ⟨A7, C7, hv7, hr7, _, _, hle7⟩ := ho.form
            subst hv7
            have HO7 : Hid (RB w5 A7 n yz ∧ n ≤ C7) := by rw [HLZ.out] at hr7 hle7; exact ⟨hr7, hle7⟩
            rw [HLZ.out]
            have HB5 := Lib.hid (HBZ.out.trans (hb.mono HBZ.out.size))
            have HG5 : Hid (BlkB w5 g 5 (rooN yz)) := BlkIs.below HGZ.out hb
            have HP5 := Lib.hid (BlkIs.below HPZ.out hb)
            have HR5 := Lib.hid (HRZ.out.below hb)
            clear ho hb hr7 hle7
            go_wp2_with fail
            refine ((parse_any (some ⟨g, 0, none⟩) n (n + 100) yz w5 HR5.out (by omega)).mono fun e w' h => parse_form h).mono ?_
            rintro e w6 ⟨A8, C8, rfl, hc8, hb⟩
            have HC6 := Lib.hid hc8
            have HB6 := Lib.hid (HB5.out.trans (hb.mono HB5.out.size))
            have HG6 : Hid (BlkB w6 g 5 (rooN yz)) := BlkIs.below HG5.out hb
            have HP6 := Lib.hid (BlkIs.below HP5.out hb)
            have HR6 := Lib.hid (HO7.out.1.below hb)
            have hn7 := HO7.out.2
            clear hc8 hb
            go_wp2_with fail
            refine ((refparse_any A7 n C7 yz w6 HR6.out hn7 (by omega)).mono fun e w' h => parse_form h).mono ?_
            rintro e w7 ⟨A11, C11, rfl, hc11, hb⟩
            have HC7 := Lib.hid hc11
            have HC7' := Lib.hid (HC6.out.below hb)
            have HB7 := Lib.hid (HB6.out.trans (hb.mono HB6.out.size))
            have HG7 : Hid (BlkB w7 g 5 (rooN yz)) := BlkIs.below HG6.out hb
            have HP7 := Lib.hid (BlkIs.below HP6.out hb)
            have HR7 := Lib.hid (HR6.out.below hb)
            clear hc11 hb
            obtain ⟨z1, hz1⟩ : ∃ z1 : Int, z1 = (((parseE yz).1 : Nat) : Int) := ⟨_, rfl⟩
            obtain ⟨z2, hz2⟩ : ∃ z2 : Int, z2 = (parseE yz).2 := ⟨_, rfl⟩
            rw [← hz1, ← hz2]
            have hq1 : (z1 != z1) = false := by simp
            have hq2 : (z2 != z2) = false := by simp
            clear hz1 hz2
            go_wp2_with fail
            refine (sameC_true A8 A11 (parM yz) C8 C11 _ _ w7 HC7'.out HC7.out (fun _ _ => rfl)).mono ?_
            rintro e w8 ⟨rfl, q, hq⟩
            have HB8 : Hid (Below w.heap.size w w8) := by rw [hq]; exact drewN_below HB7.out q
            have HG8 : Hid (BlkB w8 g 5 (rooN yz)) := by rw [hq]; exact BlkIs.drewN HG7.out q
            have HP8 : Hid (BlkIs w8 w.heap.size 87 (opC kd nn ds es [.slice A n c, v2, v3]).toArray) := by rw [hq]; exact BlkIs.drewN HP7.out q
            have HR8 : Hid (RB w8 A7 n yz) := by rw [hq]; exact HR7.out.below (drewN_below (Below.refl _ _) q)
            clear hq
            go_wp2_with fail
            refine (roomyIs_true (A := some ⟨g, 0, none⟩) (B := A7) (n := n) (xs := yz) (BlkB.rb HG8.out HR8.out.isB HLZ.out) HR8.out (by omega)).mono ?_
            rintro e w9 ⟨rfl, hb⟩
            have HB9 := Lib.hid (HB8.out.trans (hb.mono HB8.out.size))
            have HG9 : Hid (BlkB w9 g 5 (rooN yz)) := BlkIs.below HG8.out hb
            have HP9 := Lib.hid (BlkIs.below HP8.out hb)
            clear hb
            go_wp2_with fail
            go_roundw
            case rel => exact ⟨k + 1, yz, by omega, by go_num, HLZ.out, HR8.out.isB, HG9.out, HP9.out, HB9.out⟩
            case measure => simp [intOf]; omega
          · have hneg' : 0 ≤ m := by omega
            have hnegd : decide (m < 0) = false := decide_eq_false hneg
            obtain ⟨q, hq⟩ := Int.eq_ofNat_of_zero_le (Int.tmod_nonneg (a := m + k) (n : Int) (by omega))
            have hq2 : (m + (k : Int)).tmod (n : Int) < (n : Int) := Int.tmod_lt_of_pos _ hn0'
            have hqn : q < n := by omega
            clear hq2
            have hq0 : q < (rooN yz0).length := by rw [rooN_length, hyl]; omega
            have hqs : q < n + 100 := by omega
            have hqs' : (q : Int) < (n : Int) + 100 := by omega
            have hcq : wz0.cell? ⟨g, q, none⟩ = some (.int .u8 ((yz0.getD q 0 : Nat) : Int)) := by
              have h := HG.out.cell (i := q) hq0
              rwa [rooN_low (by rw [hyl]; exact hqn)] at h
            have hfq := BlkIs.frozen HG.out q
            have hx8 := hyB _ (getD_mem (show q < yz0.length by omega))
            have hxor : bits .xor .u8 ((yz0.getD q 0 : Nat) : Int) 1 = ((yz0.getD q 0 ^^^ 1 : Nat) : Int) := xor8 _ 1 hx8 (by omega)
            have hxl := xor_lt8 hx8 (show 1 < 256 by omega)
            obtain ⟨yz, hyz⟩ : ∃ yz, yz = yz0.set q (yz0.getD q 0 ^^^ 1) := ⟨_, rfl⟩
            obtain ⟨wz, hwz⟩ : ∃ wz, wz = wz0.setCell ⟨g, q, none⟩ (.int .u8 ((yz0.getD q 0 ^^^ 1 : Nat) : Int)) := ⟨_, rfl⟩
            have HLZ : Hid (yz.length = n) := by show _ = _; rw [hyz, List.length_set]; exact hyl
            have hyB2 : IsB yz := by rw [hyz]; exact isB_set hyB hxl
            have HGZ : Hid (BlkB wz g 5 (rooN yz)) := by
              have h := HG.out.set q (yz0.getD q 0 ^^^ 1)
              rw [rooN_set (by rw [hyl]; exact hqn)] at h
              rw [hwz, hyz]
              exact h
            have HBZ : Hid (Below w.heap.size w wz) := by
              rw [hwz]
              exact HB.out.setCell (p := ⟨g, q, none⟩) hgb _
            have HRZ : Hid (RB wz (some ⟨g, 0, none⟩) n yz) := rooN_front HGZ.out hyB2 HLZ.out
            have HPZ : Hid (BlkIs wz w.heap.size 87 (opC kd nn ds es [.slice A n c, v2, v3]).toArray) := by rw [hwz]; exact BlkIs.far HP.out (p := ⟨g, q, none⟩) (by show _ ≠ g; omega) _
            have HWZ := Lib.hid hwz
            clear HG HB HP hyB hyl hyB2 hx8 hxl hyz hwz hq0
            generalize yz0.getD q 0 = x at *
            go_wp2_with fail
            rw [← HWZ.out]
            clear HWZ
            refine (copyBytes_any (some ⟨g, 0, none⟩) n (n + 100) yz wz HRZ.out (by omega)).mono ?_
            rintro e w5 ⟨v7, rfl, ho, hb⟩
            obtain ⟨A7, C7, hv7, hr7, _, _, hle7⟩ := ho.form
            subst hv7
            have HO7 : Hid (RB w5 A7 n yz ∧ n ≤ C7) := by rw [HLZ.out] at hr7 hle7; exact ⟨hr7, hle7⟩
            rw [HLZ.out]
            have HB5 := Lib.hid (HBZ.out.trans (hb.mono HBZ.out.size))
            have HG5 : Hid (BlkB w5 g 5 (rooN yz)) := BlkIs.below HGZ.out hb
            have HP5 := Lib.hid (BlkIs.below HPZ.out hb)
            have HR5 := Lib.hid (HRZ.out.below hb)
            clear ho hb hr7 hle7
            go_wp2_with fail
            refine ((parse_any (some ⟨g, 0, none⟩) n (n + 100) yz w5 HR5.out (by omega)).mono fun e w' h => parse_form h).mono ?_
            rintro e w6 ⟨A8, C8, rfl, hc8, hb⟩
            have HC6 := Lib.hid hc8
            have HB6 := Lib.hid (HB5.out.trans (hb.mono HB5.out.size))
            have HG6 : Hid (BlkB w6 g 5 (rooN yz)) := BlkIs.below HG5.out hb
            have HP6 := Lib.hid (BlkIs.below HP5.out hb)
            have HR6 := Lib.hid (HO7.out.1.below hb)
            have hn7 := HO7.out.2
            clear hc8 hb
            go_wp2_with fail
            refine ((refparse_any A7 n C7 yz w6 HR6.out hn7 (by omega)).mono fun e w' h => parse_form h).mono ?_
            rintro e w7 ⟨A11, C11, rfl, hc11, hb⟩
            have HC7 := Lib.hid hc11
            have HC7' := Lib.hid (HC6.out.below hb)
            have HB7 := Lib.hid (HB6.out.trans (hb.mono HB6.out.size))
            have HG7 : Hid (BlkB w7 g 5 (rooN yz)) := BlkIs.below HG6.out hb
            have HP7 := Lib.hid (BlkIs.below HP6.out hb)
            have HR7 := Lib.hid (HR6.out.below hb)
            clear hc11 hb
            obtain ⟨z1, hz1⟩ : ∃ z1 : Int, z1 = (((parseE yz).1 : Nat) : Int) := ⟨_, rfl⟩
            obtain ⟨z2, hz2⟩ : ∃ z2 : Int, z2 = (parseE yz).2 := ⟨_, rfl⟩
            rw [← hz1, ← hz2]
            have hq1 : (z1 != z1) = false := by simp
            have hq2 : (z2 != z2) = false := by simp
            clear hz1 hz2
            go_wp2_with fail
            refine (sameC_true A8 A11 (parM yz) C8 C11 _ _ w7 HC7'.out HC7.out (fun _ _ => rfl)).mono ?_
            rintro e w8 ⟨rfl, q, hq⟩
            have HB8 : Hid (Below w.heap.size w w8) := by rw [hq]; exact drewN_below HB7.out q
            have HG8 : Hid (BlkB w8 g 5 (rooN yz)) := by rw [hq]; exact BlkIs.drewN HG7.out q
            have HP8 : Hid (BlkIs w8 w.heap.size 87 (opC kd nn ds es [.slice A n c, v2, v3]).toArray) := by rw [hq]; exact BlkIs.drewN HP7.out q
            have HR8 : Hid (RB w8 A7 n yz) := by rw [hq]; exact HR7.out.below (drewN_below (Below.refl _ _) q)
            clear hq
            go_wp2_with fail
            refine (roomyIs_true (A := some ⟨g, 0, none⟩) (B := A7) (n := n) (xs := yz) (BlkB.rb HG8.out HR8.out.isB HLZ.out) HR8.out (by omega)).mono ?_
            rintro e w9 ⟨rfl, hb⟩
            have HB9 := Lib.hid (HB8.out.trans (hb.mono HB8.out.size))
            have HG9 : Hid (BlkB w9 g 5 (rooN yz)) := BlkIs.below HG8.out hb
            have HP9 := Lib.hid (BlkIs.below HP8.out hb)
            clear hb
            go_wp2_with fail
            go_roundw
            case rel => exact ⟨k + 1, yz, by omega, by go_num, HLZ.out, HR8.out.isB, HG9.out, HP9.out, HB9.out⟩
            case measure => simp [intOf]; omega
        · have hn0' : ¬ (0 : Int) < (n : Int) := by omega
          have hn0d : decide ((0 : Int) < (n : Int)) = false := decide_eq_false hn0'
          obtain ⟨yz, rfl⟩ : ∃ yz, yz = yz0 := ⟨_, rfl⟩
          obtain ⟨wz, rfl⟩ : ∃ wz, wz = wz0 := ⟨_, rfl⟩
          have HLZ : Hid (yz.length = n) := hyl
          have HGZ := HG
          have HBZ := HB
          have HPZ := HP
          have HRZ : Hid (RB wz (some ⟨g, 0, none⟩) n yz) := rooN_front HG.out hyB hyl
          clear HG HB HP hyB hyl
          go_wp2_with fail
          refine (copyBytes_any (some ⟨g, 0, none⟩) n (n + 100) yz wz HRZ.out (by omega)).mono ?_
          rintro e w5 ⟨v7, rfl, ho, hb⟩
          obtain ⟨A7, C7, hv7, hr7, _, _, hle7⟩ := ho.form
          subst hv7
          have HO7 : Hid (RB w5 A7 n yz ∧ n ≤ C7) := by rw [HLZ.out] at hr7 hle7; exact ⟨hr7, hle7⟩
          rw [HLZ.out]
          have HB5 := Lib.hid (HBZ.out.trans (hb.mono HBZ.out.size))
          have HG5 : Hid (BlkB w5 g 5 (rooN yz)) := BlkIs.below HGZ.out hb
          have HP5 := Lib.hid (BlkIs.below HPZ.out hb)
          have HR5 := Lib.hid (HRZ.out.below hb)
          clear ho hb hr7 hle7
          go_wp2_with fail
          refine ((parse_any (some ⟨g, 0, none⟩) n (n + 100) yz w5 HR5.out (by omega)).mono fun e w' h => parse_form h).mono ?_
          rintro e w6 ⟨A8, C8, rfl, hc8, hb⟩
          have HC6 := Lib.hid hc8
          have HB6 := Lib.hid (HB5.out.trans (hb.mono HB5.out.size))
          have HG6 : Hid (BlkB w6 g 5 (rooN yz)) := BlkIs.below HG5.out hb
          have HP6 := Lib.hid (BlkIs.below HP5.out hb)
          have HR6 := Lib.hid (HO7.out.1.below hb)
          have hn7 := HO7.out.2
          clear hc8 hb
          go_wp2_with fail
          refine ((refparse_any A7 n C7 yz w6 HR6.out hn7 (by omega)).mono fun e w' h => parse_form h).mono ?_
          rintro e w7 ⟨A11, C11, rfl, hc11, hb⟩
          have HC7 := Lib.hid hc11
          have HC7' := Lib.hid (HC6.out.below hb)
          have HB7 := Lib.hid (HB6.out.trans (hb.mono HB6.out.size))
          have HG7 : Hid (BlkB w7 g 5 (rooN yz)) := BlkIs.below HG6.out hb
          have HP7 := Lib.hid (BlkIs.below HP6.out hb)
          have HR7 := Lib.hid (HR6.out.below hb)
          clear hc11 hb
          obtain ⟨z1, hz1⟩ : ∃ z1 : Int, z1 = (((parseE yz).1 : Nat) : Int) := ⟨_, rfl⟩
          obtain ⟨z2, hz2⟩ : ∃ z2 : Int, z2 = (parseE yz).2 := ⟨_, rfl⟩
          rw [← hz1, ← hz2]
          have hq1 : (z1 != z1) = false := by simp
          have hq2 : (z2 != z2) = false := by simp
          clear hz1 hz2
          go_wp2_with fail
          refine (sameC_true A8 A11 (parM yz) C8 C11 _ _ w7 HC7'.out HC7.out (fun _ _ => rfl)).mono ?_
          rintro e w8 ⟨rfl, q, hq⟩
          have HB8 : Hid (Below w.heap.size w w8) := by rw [hq]; exact drewN_below HB7.out q
          have HG8 : Hid (BlkB w8 g 5 (rooN yz)) := by rw [hq]; exact BlkIs.drewN HG7.out q
          have HP8 : Hid (BlkIs w8 w.heap.size 87 (opC kd nn ds es [.slice A n c, v2, v3]).toArray) := by rw [hq]; exact BlkIs.drewN HP7.out q
          have HR8 : Hid (RB w8 A7 n yz) := by rw [hq]; exact HR7.out.below (drewN_below (Below.refl _ _) q)
          clear hq
          go_wp2_with fail
          refine (roomyIs_true (A := some ⟨g, 0, none⟩) (B := A7) (n := n) (xs := yz) (BlkB.rb HG8.out HR8.out.isB HLZ.out) HR8.out (by omega)).mono ?_
          rintro e w9 ⟨rfl, hb⟩
          have HB9 := Lib.hid (HB8.out.trans (hb.mono HB8.out.size))
          have HG9 : Hid (BlkB w9 g 5 (rooN yz)) := BlkIs.below HG8.out hb
          have HP9 := Lib.hid (BlkIs.below HP8.out hb)
          clear hb
          go_wp2_with fail
          go_roundw
          case rel => exact ⟨k + 1, yz, by omega, by go_num, HLZ.out, HR8.out.isB, HG9.out, HP9.out, HB9.out⟩
          case measure => simp [intOf]; omega
      · have hk0' : ¬ (0 : Int) < (k : Int) := by omega
        have hk0d : decide ((0 : Int) < (k : Int)) = false := decide_eq_false hk0'
        obtain ⟨yz, rfl⟩ : ∃ yz, yz = yz0 := ⟨_, rfl⟩
        obtain ⟨wz, rfl⟩ : ∃ wz, wz = wz0 := ⟨_, rfl⟩
        have HLZ : Hid (yz.length = n) := hyl
        have HGZ := HG
        have HBZ := HB
        have HPZ := HP
        have HRZ : Hid (RB wz (some ⟨g, 0, none⟩) n yz) := rooN_front HG.out hyB hyl
        clear HG HB HP hyB hyl
        go_wp2_with fail
        refine (copyBytes_any (some ⟨g, 0, none⟩) n (n + 100) yz wz HRZ.out (by omega)).mono ?_
        rintro e w5 ⟨v7, rfl, ho, hb⟩
        obtain ⟨A7, C7, hv7, hr7, _, _, hle7⟩ := ho.form
        subst hv7
        have HO7 : Hid (RB w5 A7 n yz ∧ n ≤ C7) := by rw [HLZ.out] at hr7 hle7; exact ⟨hr7, hle7⟩
        rw [HLZ.out]
        have HB5 := Lib.hid (HBZ.out.trans (hb.mono HBZ.out.size))
        have HG5 : Hid (BlkB w5 g 5 (rooN yz)) := BlkIs.below HGZ.out hb
        have HP5 := Lib.hid (BlkIs.below HPZ.out hb)
        have HR5 := Lib.hid (HRZ.out.below hb)
        clear ho hb hr7 hle7
        go_wp2_with fail
        refine ((parse_any (some ⟨g, 0, none⟩) n (n + 100) yz w5 HR5.out (by omega)).mono fun e w' h => parse_form h).mono ?_
        rintro e w6 ⟨A8, C8, rfl, hc8, hb⟩
        have HC6 := Lib.hid hc8
        have HB6 := Lib.hid (HB5.out.trans (hb.mono HB5.out.size))
        have HG6 : Hid (BlkB w6 g 5 (rooN yz)) := BlkIs.below HG5.out hb
        have HP6 := Lib.hid (BlkIs.below HP5.out hb)
        have HR6 := Lib.hid (HO7.out.1.below hb)
        have hn7 := HO7.out.2
        clear hc8 hb
        go_wp2_with fail
        refine ((refparse_any A7 n C7 yz w6 HR6.out hn7 (by omega)).mono fun e w' h => parse_form h).mono ?_
        rintro e w7 ⟨A11, C11, rfl, hc11, hb⟩
        have HC7 := Lib.hid hc11
        have HC7' := Lib.hid (HC6.out.below hb)
        have HB7 := Lib.hid (HB6.out.trans (hb.mono HB6.out.size))
        have HG7 : Hid (BlkB w7 g 5 (rooN yz)) := BlkIs.below HG6.out hb
        have HP7 := Lib.hid (BlkIs.below HP6.out hb)
        have HR7 := Lib.hid (HR6.out.below hb)
        clear hc11 hb
        obtain ⟨z1, hz1⟩ : ∃ z1 : Int, z1 = (((parseE yz).1 : Nat) : Int) := ⟨_, rfl⟩
        obtain ⟨z2, hz2⟩ : ∃ z2 : Int, z2 = (parseE yz).2 := ⟨_, rfl⟩
        rw [← hz1, ← hz2]
        have hq1 : (z1 != z1) = false := by simp
        have hq2 : (z2 != z2) = false := by simp
        clear hz1 hz2
        go_wp2_with fail
        refine (sameC_true A8 A11 (parM yz) C8 C11 _ _ w7 HC7'.out HC7.out (fun _ _ => rfl)).mono ?_
        rintro e w8 ⟨rfl, q, hq⟩
        have HB8 : Hid (Below w.heap.size w w8) := by rw [hq]; exact drewN_below HB7.out q
        have HG8 : Hid (BlkB w8 g 5 (rooN yz)) := by rw [hq]; exact BlkIs.drewN HG7.out q
        have HP8 : Hid (BlkIs w8 w.heap.size 87 (opC kd nn ds es [.slice A n c, v2, v3]).toArray) := by rw [hq]; exact BlkIs.drewN HP7.out q
        have HR8 : Hid (RB w8 A7 n yz) := by rw [hq]; exact HR7.out.below (drewN_below (Below.refl _ _) q)
        clear hq
        go_wp2_with fail
        refine (roomyIs_true (A := some ⟨g, 0, none⟩) (B := A7) (n := n) (xs := yz) (BlkB.rb HG8.out HR8.out.isB HLZ.out) HR8.out (by omega)).mono ?_
        rintro e w9 ⟨rfl, hb⟩
        have HB9 := Lib.hid (HB8.out.trans (hb.mono HB8.out.size))
        have HG9 : Hid (BlkB w9 g 5 (rooN yz)) := BlkIs.below HG8.out hb
        have HP9 := Lib.hid (BlkIs.below HP8.out hb)
        clear hb
        go_wp2_with fail
        go_roundw
        case rel => exact ⟨k + 1, yz, by omega, by go_num, HLZ.out, HR8.out.isB, HG9.out, HP9.out, HB9.out⟩
        case measure => simp [intOf]; omega
    · have hk3' : ¬ (k : Int) < 3 := by omega
      go_wp2_with fail
      go_ret
      exact ⟨rfl, HB.out⟩
end Go.Proofs.Ytkpbeibcfaenhaa
