/- Asked, Lists (merged by merge.py) -/
import Derived.Test.YtkpbeibcfaenhaaGf
import Derived.Test.YtkpbeibcfaenhaaOpenOps2
/- ledgerlaw3.asked of Build; what a law on asked says. -/
namespace Go.Proofs.Ytkpbeibcfaenhaa
open Go.RowKit
/-- asked of this kind answers true whenever its lists are two and two alike. -/
def AskedLaw (kind : Int) : Prop := ∀ (A1 A2 A3 A4 : Option Addr) (N M c1 c2 c3 c4 : Nat) (X Y : Nat → Chg) (w : World), ChsAt w A1 N X → ChsAt w A2 M Y → ChsAt w A3 N X → ChsAt w A4 M Y → N ≤ c1 → M ≤ c2 → N ≤ c3 → M ≤ c4 →
  (A1 = none → c1 = 0) → (A2 = none → c2 = 0) → c1 ≤ maxLen → c2 ≤ maxLen → N * 64 ≤ 140737488355328 → M * 64 ≤ 140737488355328 → (∀ k, k < N → (X k).val.length ≤ 140737488355328) → (∀ k, k < M → (Y k).val.length ≤ 140737488355328) →
  Calls Try.prog 82 #[.int .i64 kind, .slice A1 N c1, .slice A2 M c2, .slice A3 N c3, .slice A4 M c4] w fun e w' => e = .returned (.bool true) ∧ Below w.heap.size w w'
def outN (X : Nat → Chg) (N : Nat) : List Nat := if buildE X N = 0 then layN X N else []
theorem build_form {X : Nat → Chg} {N : Nat} {w w' : World} {e : Ending} (h : BuildPost X N w e w') : ∃ A C, e = .returned (.tuple #[.slice A (outN X N).length C, .int .i64 (buildE X N : Nat)]) ∧ RB w' A (outN X N).length (outN X N) ∧ (outN X N).length ≤ 9223372036854775807 ∧ Below w.heap.size w w' := by
  obtain ⟨v, he, hb, h1, h2⟩ := h
  by_cases h0 : buildE X N = 0
  · have ho := h1 h0
    obtain ⟨A, c, rfl, hr, _, _, hle⟩ := ho.form
    have hm := own_max ho
    unfold maxLen at hm
    rw [show outN X N = layN X N from if_pos h0]
    exact ⟨A, c, he, hr, by omega, hb⟩
  · rw [show outN X N = [] from if_neg h0]
    exact ⟨none, 0, by rw [he, h2 h0]; rfl, RB.nil _ _, by simp, hb⟩
set_option maxRecDepth 100000 in
set_option maxHeartbeats 1000000 in
theorem asked_build : AskedLaw 4 := by
  intro A1 A2 A3 A4 N M c1 c2 c3 c4 X Y w h1 h2 h3 h4 k1 k2 k3 k4 n1 n2 m1 m2 s1 s2 v1 v2
  have HB := Lib.hid (fun W (hW : Below w.heap.size w W) => build_any A1 N c1 X W (h1.below hW))
  have HC := Lib.hid (fun W (hW : Below w.heap.size w W) => refbuild_any A3 N c3 X W (h3.below hW) k3 s1 v1)
  clear h1 h2 h3 h4 v1 v2 n1 n2
  go_enter Try.func82, Try.ntmps82
  go_wp2_with fail
  refine (HB.out w (Below.refl _ _)).mono ?_
  intro e w1 hp
  obtain ⟨A5, c5, rfl, hr5, hl5, hb5⟩ := build_form hp
  have HB5 := Lib.hid hb5
  have HR5 := Lib.hid hr5
  clear hp hb5 hr5
  go_wp2_with fail
  refine (HC.out w1 HB5.out).mono ?_
  intro e w2 hp
  obtain ⟨A6, c6, rfl, hr6, hl6, hb6⟩ := build_form hp
  have HB6 := Lib.hid (HB5.out.trans (hb6.mono HB5.out.size))
  have HR6 := Lib.hid hr6
  have HR5' := Lib.hid (HR5.out.below hb6)
  clear hp hb6 hr6
  obtain ⟨z, hz⟩ : ∃ z : Int, z = ((buildE X N : Nat) : Int) := ⟨_, rfl⟩
  rw [← hz]
  have hq : (z == z) = true := by simp
  clear hz
  have HS := Lib.hid (sameBytes_true (c := c5) (d := c6) HR5'.out HR6.out hl5 rfl)
  generalize (outN X N).length = L at *
  go_wp2_with fail
  refine HS.out.mono ?_
  rintro e w3 ⟨rfl, q, hq3⟩
  have HB7 : Hid (Below w.heap.size w w3) := by show Below _ _ _; rw [hq3]; exact drewN_below HB6.out q
  clear hq3
  go_wp2_with fail
  go_ret
  exact ⟨rfl, HB7.out⟩
end Go.Proofs.Ytkpbeibcfaenhaa

/- ledgerlaw3.listsPlay, plays at the kinds 4, 6, 7. (printed by gen_lists.py) -/
namespace Go.Proofs.Ytkpbeibcfaenhaa
open Go.RowKit
theorem op_last {w : World} {g : Nat} {t : TypeId} {kind n : Int} {ds es : List Nat} {v1 v2 v3 : Value} (h : BlkIs w g t (opC kind n ds es [v1, v2, v3]).toArray) (hd : ds.length = 32) (he : es.length = 32) : w.cell? ⟨g, 67, none⟩ = some v2 ∧ w.cell? ⟨g, 68, none⟩ = some v3 := by
  constructor
  · rw [BlkIs.cell h, List.getElem?_toArray, opC, List.getElem?_cons_succ, List.getElem?_cons_succ, List.getElem?_append_right (by simp [bvs, hd]), List.getElem?_append_right (by simp [bvs, hd, he])]
    simp [bvs, hd, he]
  · rw [BlkIs.cell h, List.getElem?_toArray, opC, List.getElem?_cons_succ, List.getElem?_cons_succ, List.getElem?_append_right (by simp [bvs, hd]), List.getElem?_append_right (by simp [bvs, hd, he])]
    simp [bvs, hd, he]
theorem turned_any (b : Bool) (base top g N c : Nat) (X : Nat → Chg) (Gv : Nat → Nat) (V : Option Addr) (w : World) (h : Roo w base top g N X Gv V) :
    Calls Try.prog 81 #[.slice (some ⟨g, 0, none⟩) N c, .bool b] w (TurnPost b base top g N X Gv V w) := by
  cases b
  · exact turned_keys base top g N c X Gv V w h
  · exact turned_vals base top g N c X Gv V w h
theorem Inside.blk {base top g : Nat} {t : TypeId} {cs : Array Value} {w w' : World} (h : Inside base top w w') (hb : BlkIs w g t cs) (hn : ¬ (base ≤ g ∧ g < top)) : BlkIs w' g t cs := (h.block g (BlkIs.lt hb) hn).trans hb
theorem Inside.roo {base top b2 t2 g N : Nat} {X : Nat → Chg} {Gv : Nat → Nat} {V : Option Addr} {w w' : World} (h : Inside base top w w') (hr : Roo w b2 t2 g N X Gv V) (hn : t2 ≤ base ∨ top ≤ b2) : Roo w' b2 t2 g N X Gv V :=
  hr.same h.size fun k h1 h2 => h.block k (by have := hr.room.2; omega) (by omega)
set_option maxRecDepth 100000 in
set_option maxHeartbeats 8000000 in
theorem lists_any (kind nn : Int) (HA0 : AskedLaw kind) (ds es : List Nat) (v1 : Value) (B D : Option Addr) (n d m e0 : Nat) (X Y : Nat → Chg) (w : World) (hl : ds.length = 32) (hl2 : es.length = 32) (hx : ChsAt w B n X) (hy : ChsAt w D m Y) (hn : n * 64 ≤ 140737488355328) (hm : m * 64 ≤ 140737488355328)
    (hv : ∀ k, k < n → (X k).val.length + 100 ≤ 140737488355328) (hv2 : ∀ k, k < m → (Y k).val.length + 100 ≤ 140737488355328) :
    Calls Try.prog 66 #[.agg (opC kind nn ds es [v1, .slice B n d, .slice D m e0]).toArray] w fun e w' => e = .returned (.bool true) ∧ Below w.heap.size w w' := by
  have HX := Lib.hid hx
  have HY := Lib.hid hy
  have HL := Lib.hid (show ds.length = 32 ∧ es.length = 32 from ⟨hl, hl2⟩)
  have HV := Lib.hid hv
  have HV2 := Lib.hid hv2
  have HA := Lib.hid HA0
  clear hx hy hl hl2 hv hv2 HA0
  go_enter Try.func66, Try.ntmps66
  go_wp2_with ((with_reducible refine stopAt (o := ⟨some 1, _, _, _, _, _⟩) ?_); refine boxNew (o := ⟨some 1, _, _, _, _, _⟩) (by rfl) 87 (.tmp 0) rfl _ rfl ?_; intro w1 HA1 HW1 HS1; have b67 := (op_last HA1.out HL.out.1 HL.out.2).1)
  refine (roomyChanges_any B n d X w1 (HX.out.below HW1.out) hn HV.out).mono ?_
  rintro e w2 ⟨g1, V1, C1, Gv1, rfl, hr1, hC1, hb2⟩
  have HR1 := Lib.hid hr1
  have HB2 := Lib.hid (HW1.out.trans (hb2.mono HW1.out.size))
  have HP2 := Lib.hid (BlkIs.below HA1.out hb2)
  have HT1 := Lib.hid (show w.heap.size < w1.heap.size ∧ w1.heap.size ≤ w2.heap.size from ⟨BlkIs.lt HA1.out, hb2.size⟩)
  have b67' := (op_last HP2.out HL.out.1 HL.out.2).1
  have b68 := (op_last HP2.out HL.out.1 HL.out.2).2
  have hr1n := hr1.room.1
  unfold maxLen at hr1n
  clear hr1 hb2 b67 HA1
  go_wp2_with fail
  refine (roomyChanges_any D m e0 Y w2 (HY.out.below HB2.out) hm HV2.out).mono ?_
  rintro e w3 ⟨g2, V2, C2, Gv2, rfl, hr2, hC2, hb3⟩
  have HR2 := Lib.hid hr2
  have HR1' := Lib.hid (HR1.out.below hb3)
  have HB3 := Lib.hid (HB2.out.trans (hb3.mono HB2.out.size))
  have HP3 := Lib.hid (BlkIs.below HP2.out hb3)
  have c67 := (op_last HP3.out HL.out.1 HL.out.2).1
  have c68 := (op_last HP3.out HL.out.1 HL.out.2).2
  have hr2n := hr2.room.1
  unfold maxLen at hr2n
  clear hr2 hb3 b67' b68 HP2 HR1
  obtain ⟨M1, hM1⟩ : ∃ M1, n + 2 = M1 := ⟨_, rfl⟩
  obtain ⟨M2, hM2⟩ : ∃ M2, m + 2 = M2 := ⟨_, rfl⟩
  have HN1 := Lib.hid hM1
  have HN2 := Lib.hid hM2
  have q1 : n ≤ M1 := by omega
  have q2 : m ≤ M2 := by omega
  have q1' : (n : Int) ≤ M1 := by omega
  have q2' : (m : Int) ≤ M2 := by omega
  rw [hM1, hM2]
  clear hM1 hM2
  go_wp2_with fail
  clear c67 c68
  go_loopw [9] (fun i wr => ∃ (k : Nat) (X1 Y1 : Nat → Chg), k ≤ 3 ∧ i = .int .i64 (k : Int) ∧ Hid (Roo wr w1.heap.size w2.heap.size g1 n X1 Gv1 V1) ∧ Hid (Roo wr w2.heap.size w3.heap.size g2 m Y1 Gv2 V2) ∧ Hid (BlkIs wr w.heap.size 87 (opC kind nn ds es [v1, .slice B n d, .slice D m e0]).toArray) ∧ Hid (Below w.heap.size w wr)) (fun i _ => 3 - (intOf i).toNat)
  case atStart => exact ⟨0, X, Y, by omega, rfl, HR1'.out, HR2.out, HP3.out, HB3.out⟩
  case round =>
    clear HR1' HR2 HP3 HB3 HV HV2 HX HY
    obtain ⟨k, X1, Y1, hk, rfl, HR1, HR2, HP, HB⟩ := hrel
    obtain ⟨wz, rfl⟩ : ∃ wz, wz = wr := ⟨_, rfl⟩
    by_cases hk3 : k < 3
    · have hk3' : (k : Int) < 3 := by omega
      by_cases hk0 : 0 < k
      · have hk0' : (0 : Int) < (k : Int) := by omega
        obtain ⟨b, hb⟩ : ∃ b, b = ((k : Int) == 1) := ⟨_, rfl⟩
        go_wp2_with fail
        rw [← hb]
        clear hb
        refine (turned_any b _ _ g1 n M1 X1 Gv1 V1 wz HR1.out).mono ?_
        rintro e w4 ⟨rfl, hr4, hi4⟩
        have HR1t := Lib.hid hr4
        have HR2t := Lib.hid (hi4.roo HR2.out (by omega))
        have HPt := Lib.hid (hi4.blk HP.out (by have := HT1.out; omega))
        have HBt := Lib.hid (hi4.below HB.out (by have := HT1.out; omega) HB.out.size)
        clear hr4 hi4 HR1 HR2 HP HB
        generalize (fun k => turnC b (X1 k)) = X2 at *
        obtain ⟨b2, hb2⟩ : ∃ b2, b2 = ((k : Int) == 1) := ⟨_, rfl⟩
        go_wp2_with fail
        rw [← hb2]
        clear hb2
        refine (turned_any b2 _ _ g2 m M2 Y1 Gv2 V2 w4 HR2t.out).mono ?_
        rintro e w5 ⟨rfl, hr5, hi5⟩
        have HR2 := Lib.hid hr5
        have HR1 := Lib.hid (hi5.roo HR1t.out (by omega))
        have HP := Lib.hid (hi5.blk HPt.out (by have := HT1.out; omega))
        have HB := Lib.hid (hi5.below HBt.out (by have := HT1.out; omega) HBt.out.size)
        clear hr5 hi5 HR1t HR2t HPt HBt
        generalize (fun k => turnC b2 (Y1 k)) = Y2 at *
        clear X1 Y1
        go_wp2_with fail
        refine (copyChanges_any (some ⟨g1, 0, none⟩) n M1 X2 w5 HR1.out.front hn (fun k hk => by have := HR1.out.len k hk; omega)).mono ?_
        rintro e w10 ⟨v10, Ad10, Cp10, rfl, ho10, hb10⟩
        obtain ⟨A10, c10, rfl, hc10, hle10, _⟩ := ho10.form
        have HC10 := Lib.hid hc10
        have HB10 := Lib.hid (HB.out.trans (hb10.mono HB.out.size))
        have HR1a := Lib.hid (HR1.out.below hb10)
        have HR2a := Lib.hid (HR2.out.below hb10)
        have HPa := Lib.hid (BlkIs.below HP.out hb10)
        clear hc10 hb10 ho10
        go_wp2_with fail
        refine (copyChanges_any (some ⟨g2, 0, none⟩) m M2 Y2 w10 HR2a.out.front hm (fun k hk => by have := HR2a.out.len k hk; omega)).mono ?_
        rintro e w11 ⟨v11, Ad11, Cp11, rfl, ho11, hb11⟩
        obtain ⟨A11, c11, rfl, hc11, hle11, _⟩ := ho11.form
        have HC11 := Lib.hid hc11
        have HC10' := Lib.hid (HC10.out.below hb11)
        have HB11 := Lib.hid (HB10.out.trans (hb11.mono HB10.out.size))
        have HR1b := Lib.hid (HR1a.out.below hb11)
        have HR2b := Lib.hid (HR2a.out.below hb11)
        have HPb := Lib.hid (BlkIs.below HPa.out hb11)
        have b0 := op_kind HPb.out
        clear hc11 hb11 ho11 HR1 HR2 HP HR1a HR2a HPa HC10 HB10 HB
        go_wp2_with fail
        refine (HA.out (some ⟨g1, 0, none⟩) (some ⟨g2, 0, none⟩) A10 A11 n m M1 M2 c10 c11 X2 Y2 w11 HR1b.out.front HR2b.out.front HC10'.out HC11.out q1 q2 hle10 hle11 (fun e => by cases e) (fun e => by cases e) (by have := HN1.out; unfold maxLen; omega) (by have := HN2.out; unfold maxLen; omega) hn hm (fun k hk => by have := HR1b.out.len k hk; omega) (fun k hk => by have := HR2b.out.len k hk; omega)).mono ?_
        rintro e w12 ⟨rfl, hb12⟩
        have HB12 := Lib.hid (HB11.out.trans (hb12.mono HB11.out.size))
        have HR1c := Lib.hid (HR1b.out.below hb12)
        have HR2c := Lib.hid (HR2b.out.below hb12)
        have HPc := Lib.hid (BlkIs.below HPb.out hb12)
        have HC10c := Lib.hid (HC10'.out.below hb12)
        have HC11c := Lib.hid (HC11.out.below hb12)
        clear hb12 b0 HR1b HR2b HPb HC10' HC11 HB11
        have HS1 := Lib.hid (rooIs_true _ _ g1 n C1 c10 X2 X2 Gv1 A10 V1 w12 HR1c.out HC10c.out (fun _ _ => rfl))
        rw [HN1.out] at HS1
        go_wp2_with fail
        refine HS1.out.mono ?_
        rintro e w13 ⟨rfl, hb13⟩
        have HB13 := Lib.hid (HB12.out.trans (hb13.mono HB12.out.size))
        have HR1d := Lib.hid (HR1c.out.below hb13)
        have HR2d := Lib.hid (HR2c.out.below hb13)
        have HPd := Lib.hid (BlkIs.below HPc.out hb13)
        have HC11d := Lib.hid (HC11c.out.below hb13)
        clear hb13 HR1c HR2c HPc HC10c HC11c HB12 HS1
        have HS2 := Lib.hid (rooIs_true _ _ g2 m C2 c11 Y2 Y2 Gv2 A11 V2 w13 HR2d.out HC11d.out (fun _ _ => rfl))
        rw [HN2.out] at HS2
        go_wp2_with fail
        refine HS2.out.mono ?_
        rintro e w14 ⟨rfl, hb14⟩
        have HB14 := Lib.hid (HB13.out.trans (hb14.mono HB13.out.size))
        have HR1e := Lib.hid (HR1d.out.below hb14)
        have HR2e := Lib.hid (HR2d.out.below hb14)
        have HPe := Lib.hid (BlkIs.below HPd.out hb14)
        clear hb14 HR1d HR2d HPd HC11d HB13 HS2
        go_wp2_with fail
        go_roundw
        case rel => exact ⟨k + 1, X2, Y2, by omega, by go_num, HR1e.out, HR2e.out, HPe.out, HB14.out⟩
        case measure => simp [intOf]; omega
      · have hk0' : ¬ (0 : Int) < (k : Int) := by omega
        go_wp2_with fail
        refine (copyChanges_any (some ⟨g1, 0, none⟩) n M1 X1 wz HR1.out.front hn (fun k hk => by have := HR1.out.len k hk; omega)).mono ?_
        rintro e w10 ⟨v10, Ad10, Cp10, rfl, ho10, hb10⟩
        obtain ⟨A10, c10, rfl, hc10, hle10, _⟩ := ho10.form
        have HC10 := Lib.hid hc10
        have HB10 := Lib.hid (HB.out.trans (hb10.mono HB.out.size))
        have HR1a := Lib.hid (HR1.out.below hb10)
        have HR2a := Lib.hid (HR2.out.below hb10)
        have HPa := Lib.hid (BlkIs.below HP.out hb10)
        clear hc10 hb10 ho10
        go_wp2_with fail
        refine (copyChanges_any (some ⟨g2, 0, none⟩) m M2 Y1 w10 HR2a.out.front hm (fun k hk => by have := HR2a.out.len k hk; omega)).mono ?_
        rintro e w11 ⟨v11, Ad11, Cp11, rfl, ho11, hb11⟩
        obtain ⟨A11, c11, rfl, hc11, hle11, _⟩ := ho11.form
        have HC11 := Lib.hid hc11
        have HC10' := Lib.hid (HC10.out.below hb11)
        have HB11 := Lib.hid (HB10.out.trans (hb11.mono HB10.out.size))
        have HR1b := Lib.hid (HR1a.out.below hb11)
        have HR2b := Lib.hid (HR2a.out.below hb11)
        have HPb := Lib.hid (BlkIs.below HPa.out hb11)
        have b0 := op_kind HPb.out
        clear hc11 hb11 ho11 HR1 HR2 HP HR1a HR2a HPa HC10 HB10 HB
        go_wp2_with fail
        refine (HA.out (some ⟨g1, 0, none⟩) (some ⟨g2, 0, none⟩) A10 A11 n m M1 M2 c10 c11 X1 Y1 w11 HR1b.out.front HR2b.out.front HC10'.out HC11.out q1 q2 hle10 hle11 (fun e => by cases e) (fun e => by cases e) (by have := HN1.out; unfold maxLen; omega) (by have := HN2.out; unfold maxLen; omega) hn hm (fun k hk => by have := HR1b.out.len k hk; omega) (fun k hk => by have := HR2b.out.len k hk; omega)).mono ?_
        rintro e w12 ⟨rfl, hb12⟩
        have HB12 := Lib.hid (HB11.out.trans (hb12.mono HB11.out.size))
        have HR1c := Lib.hid (HR1b.out.below hb12)
        have HR2c := Lib.hid (HR2b.out.below hb12)
        have HPc := Lib.hid (BlkIs.below HPb.out hb12)
        have HC10c := Lib.hid (HC10'.out.below hb12)
        have HC11c := Lib.hid (HC11.out.below hb12)
        clear hb12 b0 HR1b HR2b HPb HC10' HC11 HB11
        have HS1 := Lib.hid (rooIs_true _ _ g1 n C1 c10 X1 X1 Gv1 A10 V1 w12 HR1c.out HC10c.out (fun _ _ => rfl))
        rw [HN1.out] at HS1
        go_wp2_with fail
        refine HS1.out.mono ?_
        rintro e w13 ⟨rfl, hb13⟩
        have HB13 := Lib.hid (HB12.out.trans (hb13.mono HB12.out.size))
        have HR1d := Lib.hid (HR1c.out.below hb13)
        have HR2d := Lib.hid (HR2c.out.below hb13)
        have HPd := Lib.hid (BlkIs.below HPc.out hb13)
        have HC11d := Lib.hid (HC11c.out.below hb13)
        clear hb13 HR1c HR2c HPc HC10c HC11c HB12 HS1
        have HS2 := Lib.hid (rooIs_true _ _ g2 m C2 c11 Y1 Y1 Gv2 A11 V2 w13 HR2d.out HC11d.out (fun _ _ => rfl))
        rw [HN2.out] at HS2
        go_wp2_with fail
        refine HS2.out.mono ?_
        rintro e w14 ⟨rfl, hb14⟩
        have HB14 := Lib.hid (HB13.out.trans (hb14.mono HB13.out.size))
        have HR1e := Lib.hid (HR1d.out.below hb14)
        have HR2e := Lib.hid (HR2d.out.below hb14)
        have HPe := Lib.hid (BlkIs.below HPd.out hb14)
        clear hb14 HR1d HR2d HPd HC11d HB13 HS2
        go_wp2_with fail
        go_roundw
        case rel => exact ⟨k + 1, X1, Y1, by omega, by go_num, HR1e.out, HR2e.out, HPe.out, HB14.out⟩
        case measure => simp [intOf]; omega
    · have hk3' : ¬ (k : Int) < 3 := by omega
      go_wp2_with fail
      go_ret
      exact ⟨rfl, HB.out⟩
set_option maxRecDepth 100000 in
set_option maxHeartbeats 1600000 in
theorem plays_list (kind : Int) (hk : kind = 4 ∨ kind = 6 ∨ kind = 7) (nn : Int) (HA : AskedLaw kind) (ds es : List Nat) (v1 : Value) (B D : Option Addr) (n d m e0 : Nat) (X Y : Nat → Chg) (w : World) (hl : ds.length = 32) (hl2 : es.length = 32) (hx : ChsAt w B n X) (hy : ChsAt w D m Y) (hn : n * 64 ≤ 140737488355328) (hm : m * 64 ≤ 140737488355328)
    (hv : ∀ k, k < n → (X k).val.length + 100 ≤ 140737488355328) (hv2 : ∀ k, k < m → (Y k).val.length + 100 ≤ 140737488355328) :
    Calls Try.prog 58 #[.agg (opC kind nn ds es [v1, .slice B n d, .slice D m e0]).toArray] w fun e w' => e = .returned (.bool true) ∧ Below w.heap.size w w' := by
  have HK : Hid (∀ W : World, Below w.heap.size w W → Calls Try.prog 66 #[.agg (opC kind nn ds es [v1, .slice B n d, .slice D m e0]).toArray] W fun e w' => e = .returned (.bool true) ∧ Below W.heap.size W w') := fun W hW => lists_any kind nn HA ds es v1 B D n d m e0 X Y W hl hl2 (hx.below hW) (hy.below hW) hn hm hv hv2
  have hsz : (Try.prog.info? 87).map (·.size) = some (opC kind nn ds es [v1, .slice B n d, .slice D m e0]).length := by rw [size_op, opC_length _ _ hl hl2 rfl]
  clear hl hl2 hx hy hn hm hv hv2 HA
  go_enter Try.func58, Try.ntmps58
  rcases hk with rfl | rfl | rfl
  all_goals
    go_wp2_with (first
      | ((with_reducible refine stopAt (o := ⟨some 1, _, _, _, _, _⟩) ?_); refine boxNew (o := ⟨some 1, _, _, _, _, _⟩) (by rfl) 87 (.tmp 0) rfl _ rfl ?_; intro w1 HA1 HW1 HS1; have b0 := op_kind HA1.out)
      | ((with_reducible refine stopAt (o := ⟨some 15, _, _, _, _, _⟩) ?_); refine loadRange (o := ⟨some 15, _, _, _, _, _⟩) (by rfl) 87 (.tmp 1) rfl w.heap.size 0 _ rfl (BlkIs.range HA1.out) row_op hsz ?_))
    refine (HK.out _ HW1.out).mono ?_
    rintro e w2 ⟨rfl, hb⟩
    have HW2 := Lib.hid (HW1.out.trans (hb.mono HW1.out.size))
    clear hb
    go_wp2_with fail
    go_ret
    exact ⟨rfl, HW2.out⟩
end Go.Proofs.Ytkpbeibcfaenhaa

