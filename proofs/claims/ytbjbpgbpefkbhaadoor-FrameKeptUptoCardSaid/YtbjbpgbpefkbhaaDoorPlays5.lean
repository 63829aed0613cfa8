/- ledgerlaw5.plays: a step beside the Book. (printed by gen_plays5.py) -/
import Derived.Test.YtbjbpgbpefkbhaaDoorKeptZ
import Derived.Test.YtbjbpgbpefkbhaaDoorTry
import Derived.Test.YtbjbpgbpefkbhaaDoorRefUnpack
import Derived.Test.YtbjbpgbpefkbhaaDoorRefSuper
import Derived.Test.YtbjbpgbpefkbhaaDoorRefChoice
import Derived.Test.YtbjbpgbpefkbhaaDoorChoice
import Derived.Test.YtbjbpgbpefkbhaaDoorRefPack
import Derived.Test.YtbjbpgbpefkbhaaDoorRefUnSuper
import Derived.Test.YtbjbpgbpefkbhaaDoorSame
namespace Go.Proofs.YtbjbpgbpefkbhaaDoor
open Go.RowKit
/-- What was made since stays. -/
theorem survive {Z : Nat → Prop} {M N1 base : Nat} {w w' : World} {v l : Value} {xs : List Nat} (ht : Touch (fun B => ¬ Z B ∧ B < M ∨ l.ownBlock = some B) w w') (ho : OwnU w base v xs) (h1 : ∀ B, v.ownBlock = some B → M ≤ B ∧ B < N1) (h2 : ∀ B, l.ownBlock = some B → N1 ≤ B) : OwnU w' base v xs :=
  ht.own ho fun B hB hU => by
    have a := h1 B hB
    rcases hU with hU | hU
    · omega
    · have := h2 B hU
      omega
abbrev UU (Z : Nat → Prop) (M : Nat) (g : Nat) (B : Nat) : Prop := ¬ Z B ∧ B < M ∨ g ≤ B
theorem uu_below {Z : Nat → Prop} {M g : Nat} {w w1 w2 : World} (h : Touch (UU Z M g) w w1) (hb : Below w1.heap.size w1 w2) : Touch (UU Z M g) w w2 := h.trans ((Touch.ofBelow hb).mono fun _ _ h => h.elim)
theorem uu_put {Z : Nat → Prop} {M g : Nat} {w w1 w2 : World} {l : Value} (h : Touch (UU Z M g) w w1) (ht : Touch (fun B => ¬ Z B ∧ B < M ∨ l.ownBlock = some B) w1 w2) (hl : ∀ B, l.ownBlock = some B → g ≤ B) : Touch (UU Z M g) w w2 :=
  h.trans (ht.mono fun B _ hU => hU.imp id (hl B))
theorem try_cells {w : World} {g : Nat} {call kind page s1 s2 s3 s4 s5 : Int} {A B : Option Addr} {n c m d : Nat} (h : BlkIs w g 52 #[.int .i64 call, .int .i64 kind, .int .i64 page, .slice A n c, .slice B m d, .int .i64 s1, .int .i64 s2, .int .i64 s3, .int .i64 s4, .int .i64 s5]) :
    w.cell? ⟨g, 0, none⟩ = some (.int .i64 call) ∧ w.cell? ⟨g, 1, none⟩ = some (.int .i64 kind) ∧ w.cell? ⟨g, 2, none⟩ = some (.int .i64 page) ∧ w.cell? ⟨g, 3, none⟩ = some (.slice A n c) ∧ w.cell? ⟨g, 4, none⟩ = some (.slice B m d) ∧
      w.cell? ⟨g, 5, none⟩ = some (.int .i64 s1) ∧ w.cell? ⟨g, 6, none⟩ = some (.int .i64 s2) ∧ w.cell? ⟨g, 7, none⟩ = some (.int .i64 s3) ∧ w.cell? ⟨g, 8, none⟩ = some (.int .i64 s4) ∧ w.cell? ⟨g, 9, none⟩ = some (.int .i64 s5) :=
  ⟨h.cell 0, h.cell 1, h.cell 2, h.cell 3, h.cell 4, h.cell 5, h.cell 6, h.cell 7, h.cell 8, h.cell 9⟩
theorem packN_len' (kind page : Int) (ys : List Nat) : (packN kind page ys).1.length ≤ 256 := by
  by_cases hk : KindOk kind
  · by_cases hp : PlaceOk page
    · rcases Nat.lt_or_ge 246 ys.length with hl | hl
      · rw [packN_load hk hp hl]; simp
      · rw [packN_ok hk hp hl]; rw [pageN_length hl]; exact Nat.le_refl _
    · rw [packN_place hk hp]; simp
  · rw [packN_kind hk]; simp
theorem unpackN_len' (page : Int) (xs : List Nat) : (unpackN page xs).2.1.length ≤ xs.length := by
  unfold unpackN
  have hl : (loadN xs).length ≤ xs.length := by
    unfold loadN
    rw [List.length_take, List.length_drop]
    omega
  repeat' split
  all_goals first | exact hl | exact Nat.zero_le _
theorem packSN_len' (s : Sup) : (packSN s).1.length ≤ 256 := by
  by_cases h : s.Ok
  · rw [packSN_ok h, superN_length]; exact Nat.le_refl _
  · rw [packSN_bad h]; simp
/-- What plays leaves. -/
def Played (w0 : World) (M gb a b : Nat) (va : Value) (zf : Nat → List Nat) (Z : Nat → Prop) (w w' : World) : Prop :=
  (∃ a', a' ≤ a + 1 ∧ KZ w0 w' w'.heap.size gb a' b va zf Z) ∧ Touch (fun B => ¬ Z B ∧ B < M) w w'
theorem Played.mk' {w0 w w' : World} {M M' g gb a a' b : Nat} {va : Value} {zf : Nat → List Nat} {Z : Nat → Prop} (h : KZ w0 w' M' gb a' b va zf Z) (ha : a' ≤ a + 1) (ht : Touch (UU Z M g) w w') (hg : g = w.heap.size) : Played w0 M gb a b va zf Z w w' :=
  ⟨⟨a', ha, h.raise h.st.le (Nat.le_refl _)⟩, ht.mono fun B hB hU => hU.resolve_right (by omega)⟩
set_option maxRecDepth 20000 in
set_option maxHeartbeats 8000000 in
theorem plays_any (w0 : World) (M gb a b : Nat) (va : Value) (zf : Nat → List Nat) (Z : Nat → Prop) (call kind page s1 s2 s3 s4 s5 : Int) (A B : Option Addr) (c d : Nat) (xs ys : List Nat) (w : World) (hA : RB w A xs.length xs) (hB : RB w B ys.length ys) (hla : xs.length ≤ 1048576) (hlb : ys.length ≤ 1048576)
    (hk : KZ w0 w M gb a b va zf Z) (ha : a ≤ 1073741824) (hd : DivT w) :
    Calls Tryd.prog 22 #[.agg #[.int .i64 call, .int .i64 kind, .int .i64 page, .slice A xs.length c, .slice B ys.length d, .int .i64 s1, .int .i64 s2, .int .i64 s3, .int .i64 s4, .int .i64 s5], .pointer (some ⟨gb, 0, none⟩)] w fun e w' => e = .returned (.bool true) ∧ Played w0 M gb a b va zf Z w w' := by
  have HKZ := Lib.hid hk
  have HA0 := Lib.hid hA
  have HB0 := Lib.hid hB
  have HD0 := Lib.hid hd
  have hla2 : (xs.length : Int) ≤ 1048576 := by omega
  have hlb2 : (ys.length : Int) ≤ 1048576 := by omega
  have HAL := Lib.hid ha
  have HMS := Lib.hid hk.st.le
  have HGS := Lib.hid hk.st.below.size
  obtain ⟨w1, hw1⟩ : ∃ w1, w1 = w.alloc (.cells #[.int .i64 call, .int .i64 kind, .int .i64 page, .slice A xs.length c, .slice B ys.length d, .int .i64 s1, .int .i64 s2, .int .i64 s3, .int .i64 s4, .int .i64 s5] 52) := ⟨_, rfl⟩
  have HW := Lib.hid hw1
  have HB1 : Hid (Below w.heap.size w w1) := by
    rw [hw1]
    exact (Below.refl _ _).alloc (Nat.le_refl _) _
  have HT1 : Hid (BlkIs w1 w.heap.size 52 #[.int .i64 call, .int .i64 kind, .int .i64 page, .slice A xs.length c, .slice B ys.length d, .int .i64 s1, .int .i64 s2, .int .i64 s3, .int .i64 s4, .int .i64 s5]) := by
    rw [hw1]
    exact BlkIs.new w _ _
  have HS1 : Hid (w1.heap.size = w.heap.size + 1) := by
    show w1.heap.size = _
    rw [hw1]
    simp
  clear hw1 hA hB hla hlb hk ha hd
  go_enter Tryd.func22, Tryd.ntmps22
  go_wp2_with fail
  rw [← HW.out]
  have HX1 := Lib.hid (HA0.out.below HB1.out)
  have HY1 := Lib.hid (HB0.out.below HB1.out)
  have HD1 := Lib.hid (HD0.out.below HB1.out)
  have HK1 := Lib.hid (HKZ.out.keep HB1.out)
  have HU1 : Hid (Touch (UU Z M w.heap.size) w w1) := (Touch.ofBelow HB1.out).mono fun _ _ h => h.elim
  clear HA0 HB0 HD0 HKZ HB1 HW
  generalize hgw : w.heap.size = g at *
  have HGW : Hid (g = w.heap.size) := hgw.symm
  clear hgw
  refine (copied_any A _ c xs w1 HX1.out (by omega)).mono ?_
  rintro e w2 ⟨vx, rfl, hown, hb⟩
  have HS2 := Lib.hid hb.size
  have HP2 := Lib.hid hown
  have HXL := Lib.hid hown.lt
  obtain ⟨Ax, cx, rfl, _⟩ := hown.form
  have HT2 := Lib.hid (HT1.out.below hb)
  have HY2 := Lib.hid (HY1.out.below hb)
  have HD2 := Lib.hid (HD1.out.below hb)
  have HK2 := Lib.hid (HK1.out.keep hb)
  have HU2 := Lib.hid (uu_below HU1.out hb)
  have hc := try_cells HT2.out
  clear hown hb HX1 HT1 HY1 HD1 HK1 HU1
  go_wp2_with fail
  clear hc
  refine (copied_any B _ d ys w2 HY2.out (by omega)).mono ?_
  rintro e w3 ⟨vy, rfl, hown, hb⟩
  have HS3 := Lib.hid hb.size
  have HQ3 := Lib.hid hown
  have HYL := Lib.hid hown.lt
  obtain ⟨Ay, cy, rfl, _⟩ := hown.form
  have HT3 := Lib.hid (HT2.out.below hb)
  have HP3 := Lib.hid (HP2.out.below hb)
  have HD3 := Lib.hid (HD2.out.below hb)
  have HK3 := Lib.hid (HK2.out.keep hb)
  have HU3 := Lib.hid (uu_below HU2.out hb)
  clear hown hb HY2 HT2 HP2 HD2 HK2 HU2
  go_wp2_with fail
  refine (copied_any Ax _ cx xs w3 HP3.out.reads (by omega)).mono ?_
  rintro e w4 ⟨vp, rfl, hown, hb⟩
  have HS4 := Lib.hid hb.size
  have HR4 := Lib.hid hown
  have HRL := Lib.hid hown.lt
  obtain ⟨Ap, cp, rfl, _⟩ := hown.form
  have HT4 := Lib.hid (HT3.out.below hb)
  have HP4 := Lib.hid (HP3.out.below hb)
  have HQ4 := Lib.hid (HQ3.out.below hb)
  have HD4 := Lib.hid (HD3.out.below hb)
  have HK4 := Lib.hid (HK3.out.keep hb)
  have HU4 := Lib.hid (uu_below HU3.out hb)
  clear hown hb HT3 HP3 HQ3 HD3 HK3 HU3
  go_wp2_with fail
  refine (copied_any Ay _ cy ys w4 HQ4.out.reads (by omega)).mono ?_
  rintro e w5 ⟨vq, rfl, hown, hb⟩
  have HS5 := Lib.hid hb.size
  have HV5 := Lib.hid hown
  have HVL := Lib.hid hown.lt
  obtain ⟨Aq, cq, rfl, _⟩ := hown.form
  have HT5 := Lib.hid (HT4.out.below hb)
  have HP5 := Lib.hid (HP4.out.below hb)
  have HQ5 := Lib.hid (HQ4.out.below hb)
  have HR5 := Lib.hid (HR4.out.below hb)
  have HD5 := Lib.hid (HD4.out.below hb)
  have HK5 := Lib.hid (HK4.out.keep hb)
  have HU5 := Lib.hid (uu_below HU4.out hb)
  have HXM : Hid (∀ B, (Value.slice Ax xs.length cx).ownBlock = some B → M ≤ B ∧ B < w5.heap.size) := fun B hB => by
    have := HXL.out B hB; have := HMS.out; have := HS1.out; have := HS3.out; have := HS4.out; have := HS5.out; omega
  have HYM : Hid (∀ B, (Value.slice Ay ys.length cy).ownBlock = some B → M ≤ B ∧ B < w5.heap.size) := fun B hB => by
    have := HYL.out B hB; have := HMS.out; have := HS1.out; have := HS2.out; have := HS4.out; have := HS5.out; omega
  have HRM : Hid (∀ B, (Value.slice Ap xs.length cp).ownBlock = some B → M ≤ B ∧ B < w5.heap.size) := fun B hB => by
    have := HRL.out B hB; have := HMS.out; have := HS1.out; have := HS2.out; have := HS3.out; have := HS5.out; omega
  have HVM : Hid (∀ B, (Value.slice Aq ys.length cq).ownBlock = some B → M ≤ B ∧ B < w5.heap.size) := fun B hB => by
    have := HVL.out B hB; have := HMS.out; have := HS1.out; have := HS2.out; have := HS3.out; have := HS4.out; omega
  have HG5 : Hid (M ≤ w5.heap.size) := by
    show M ≤ w5.heap.size
    have := HMS.out; have := HS1.out; have := HS2.out; have := HS3.out; have := HS4.out; have := HS5.out; omega
  have HGG : Hid (g ≤ w5.heap.size) := by
    show g ≤ w5.heap.size
    have := HS1.out; have := HS2.out; have := HS3.out; have := HS4.out; have := HS5.out; omega
  clear hown hb HT4 HP4 HQ4 HR4 HD4 HK4 HU4 HXL HYL HRL HVL HS1 HS2 HS3 HS4 HS5
  have hc := try_cells HT5.out
  by_cases h0 : call = 0
  · subst h0
    go_wp2_with fail
    clear hc
    refine (pack_any kind page Ap _ cp xs w5 HR5.out.reads (by omega)).mono ?_
    rintro e w6 ⟨⟨vl, rfl, ho⟩, hb⟩
    have HL6 := Lib.hid ho
    have HLL := Lib.hid ho.lt
    obtain ⟨Al, cl, rfl, _⟩ := ho.form
    have HS6 := Lib.hid hb.size
    clear ho
    have HT6 := Lib.hid (HT5.out.below hb)
    have HP6 := Lib.hid (HP5.out.below hb)
    have HQ6 := Lib.hid (HQ5.out.below hb)
    have HR6 := Lib.hid (HR5.out.below hb)
    have HV6 := Lib.hid (HV5.out.below hb)
    have HD6 := Lib.hid (HD5.out.below hb)
    have HK6 := Lib.hid (HK5.out.keep hb)
    have HU6 := Lib.hid (uu_below HU5.out hb)
    clear hb HT5 HP5 HQ5 HR5 HV5 HD5 HK5 HU5
    have hc := try_cells HT6.out
    go_wp2_with fail
    clear hc
    refine (refPack_any kind page Ax _ cx xs w6 HP6.out.reads (by omega) HD6.out).mono ?_
    rintro e w7 ⟨⟨vm, rfl, ho⟩, hb⟩
    have HMO := Lib.hid ho
    obtain ⟨Am, cm, rfl, _⟩ := ho.form
    have HM7 := Lib.hid HMO.out.reads
    clear ho HMO
    have HL7 := Lib.hid (HL6.out.below hb)
    have HP7 := Lib.hid (HP6.out.below hb)
    have HQ7 := Lib.hid (HQ6.out.below hb)
    have HR7 := Lib.hid (HR6.out.below hb)
    have HV7 := Lib.hid (HV6.out.below hb)
    have HK7 := Lib.hid (HK6.out.keep hb)
    have HU7 := Lib.hid (uu_below HU6.out hb)
    clear hb HL6 HP6 HQ6 HR6 HV6 HK6 HU6
    have HLN : Hid ((packN kind page xs).1.length ≤ 1073741824) := by have := packN_len' kind page xs; show _ ≤ _; omega
    generalize (packN kind page xs).1 = pg at *
    generalize (packN kind page xs).2 = er at *
    go_wp2_with fail
    refine (same_true HL7.out.reads HM7.out (by have := HLN.out; omega) rfl).mono ?_
    rintro e w8 ⟨rfl, q, hq⟩
    have hb : Below w7.heap.size w7 w8 := by rw [hq]; exact drewN_below (Below.refl _ _) q
    have HL8 := Lib.hid (HL7.out.below hb)
    have HP8 := Lib.hid (HP7.out.below hb)
    have HQ8 := Lib.hid (HQ7.out.below hb)
    have HR8 := Lib.hid (HR7.out.below hb)
    have HV8 := Lib.hid (HV7.out.below hb)
    have HK8 := Lib.hid (HK7.out.keep hb)
    have HU8 := Lib.hid (uu_below HU7.out hb)
    clear hq hb HM7 HL7 HP7 HQ7 HR7 HV7 HK7 HU7
    go_wp2_with fail
    refine (put_Z _ _ HK8.out (HL8.out.mono (by have := HGS.out; have := HGG.out; omega)) (fun B hB => by have := HLL.out B hB; have := HG5.out; omega) (by have := HLN.out; omega) HAL.out).mono ?_
    rintro e w9 ⟨rfl, hk, ht⟩
    have HK9 := Lib.hid hk
    have HP9 := Lib.hid (survive ht HP8.out HXM.out fun B hB => (HLL.out B hB).1)
    have HQ9 := Lib.hid (survive ht HQ8.out HYM.out fun B hB => (HLL.out B hB).1)
    have HR9 := Lib.hid (survive ht HR8.out HRM.out fun B hB => (HLL.out B hB).1)
    have HV9 := Lib.hid (survive ht HV8.out HVM.out fun B hB => (HLL.out B hB).1)
    have HU9 := Lib.hid (uu_put HU8.out ht fun B hB => Nat.le_trans HGG.out (HLL.out B hB).1)
    clear hk ht HK8 HP8 HQ8 HR8 HV8 HU8 HL8 HLL
    go_wp2_with fail
    refine (same_true HP9.out.reads HR9.out.reads (by omega) rfl).mono ?_
    rintro e wa ⟨rfl, q, hq⟩
    have hb : Below w9.heap.size w9 wa := by rw [hq]; exact drewN_below (Below.refl _ _) q
    have HQa := Lib.hid (HQ9.out.below hb)
    have HVa := Lib.hid (HV9.out.below hb)
    have HKa := Lib.hid (HK9.out.keep hb)
    have HUa := Lib.hid (uu_below HU9.out hb)
    clear hq hb HP9 HR9 HQ9 HV9 HK9 HU9
    go_wp2_with fail
    refine (same_true HQa.out.reads HVa.out.reads (by omega) rfl).mono ?_
    rintro e wb ⟨rfl, q, hq⟩
    have hb : Below wa.heap.size wa wb := by rw [hq]; exact drewN_below (Below.refl _ _) q
    have HKb := Lib.hid (HKa.out.keep hb)
    have HUb := Lib.hid (uu_below HUa.out hb)
    clear hq hb HQa HVa HKa HUa
    go_wp2_with fail
    go_ret
    exact ⟨rfl, Played.mk' HKb.out (by omega) HUb.out HGW.out⟩
  by_cases h1 : call = 1
  · subst h1
    go_wp2_with fail
    clear hc
    refine (unpack_any page Ap _ cp xs w5 HR5.out.reads HR5.out.room (by omega)).mono ?_
    rintro e w6 ⟨⟨vl, rfl, ho⟩, hb⟩
    have HL6 := Lib.hid ho
    have HLL := Lib.hid ho.lt
    obtain ⟨Al, cl, rfl, _⟩ := ho.form
    have HS6 := Lib.hid hb.size
    clear ho
    have HT6 := Lib.hid (HT5.out.below hb)
    have HP6 := Lib.hid (HP5.out.below hb)
    have HQ6 := Lib.hid (HQ5.out.below hb)
    have HR6 := Lib.hid (HR5.out.below hb)
    have HV6 := Lib.hid (HV5.out.below hb)
    have HD6 := Lib.hid (HD5.out.below hb)
    have HK6 := Lib.hid (HK5.out.keep hb)
    have HU6 := Lib.hid (uu_below HU5.out hb)
    clear hb HT5 HP5 HQ5 HR5 HV5 HD5 HK5 HU5
    have hc := try_cells HT6.out
    go_wp2_with fail
    clear hc
    refine (refUnpack_any page Ax _ cx xs w6 HP6.out.reads HP6.out.room (by omega) HD6.out).mono ?_
    rintro e w7 ⟨⟨vm, rfl, ho⟩, hb⟩
    have HMO := Lib.hid ho
    obtain ⟨Am, cm, rfl, _⟩ := ho.form
    have HM7 := Lib.hid HMO.out.reads
    clear ho HMO
    have HL7 := Lib.hid (HL6.out.below hb)
    have HP7 := Lib.hid (HP6.out.below hb)
    have HQ7 := Lib.hid (HQ6.out.below hb)
    have HR7 := Lib.hid (HR6.out.below hb)
    have HV7 := Lib.hid (HV6.out.below hb)
    have HK7 := Lib.hid (HK6.out.keep hb)
    have HU7 := Lib.hid (uu_below HU6.out hb)
    clear hb HL6 HP6 HQ6 HR6 HV6 HK6 HU6
    have HLN : Hid ((unpackN page xs).2.1.length ≤ 1073741824) := by have := unpackN_len' page xs; show _ ≤ _; omega
    generalize (unpackN page xs).2.1 = pg at *
    generalize (unpackN page xs).2.2 = er at *
    generalize (unpackN page xs).1 = kd at *
    go_wp2_with fail
    refine (same_true HL7.out.reads HM7.out (by have := HLN.out; omega) rfl).mono ?_
    rintro e w8 ⟨rfl, q, hq⟩
    have hb : Below w7.heap.size w7 w8 := by rw [hq]; exact drewN_below (Below.refl _ _) q
    have HL8 := Lib.hid (HL7.out.below hb)
    have HP8 := Lib.hid (HP7.out.below hb)
    have HQ8 := Lib.hid (HQ7.out.below hb)
    have HR8 := Lib.hid (HR7.out.below hb)
    have HV8 := Lib.hid (HV7.out.below hb)
    have HK8 := Lib.hid (HK7.out.keep hb)
    have HU8 := Lib.hid (uu_below HU7.out hb)
    clear hq hb HM7 HL7 HP7 HQ7 HR7 HV7 HK7 HU7
    go_wp2_with fail
    refine (put_Z _ _ HK8.out (HL8.out.mono (by have := HGS.out; have := HGG.out; omega)) (fun B hB => by have := HLL.out B hB; have := HG5.out; omega) (by have := HLN.out; omega) HAL.out).mono ?_
    rintro e w9 ⟨rfl, hk, ht⟩
    have HK9 := Lib.hid hk
    have HP9 := Lib.hid (survive ht HP8.out HXM.out fun B hB => (HLL.out B hB).1)
    have HQ9 := Lib.hid (survive ht HQ8.out HYM.out fun B hB => (HLL.out B hB).1)
    have HR9 := Lib.hid (survive ht HR8.out HRM.out fun B hB => (HLL.out B hB).1)
    have HV9 := Lib.hid (survive ht HV8.out HVM.out fun B hB => (HLL.out B hB).1)
    have HU9 := Lib.hid (uu_put HU8.out ht fun B hB => Nat.le_trans HGG.out (HLL.out B hB).1)
    clear hk ht HK8 HP8 HQ8 HR8 HV8 HU8 HL8 HLL
    go_wp2_with fail
    refine (same_true HP9.out.reads HR9.out.reads (by omega) rfl).mono ?_
    rintro e wa ⟨rfl, q, hq⟩
    have hb : Below w9.heap.size w9 wa := by rw [hq]; exact drewN_below (Below.refl _ _) q
    have HQa := Lib.hid (HQ9.out.below hb)
    have HVa := Lib.hid (HV9.out.below hb)
    have HKa := Lib.hid (HK9.out.keep hb)
    have HUa := Lib.hid (uu_below HU9.out hb)
    clear hq hb HP9 HR9 HQ9 HV9 HK9 HU9
    go_wp2_with fail
    refine (same_true HQa.out.reads HVa.out.reads (by omega) rfl).mono ?_
    rintro e wb ⟨rfl, q, hq⟩
    have hb : Below wa.heap.size wa wb := by rw [hq]; exact drewN_below (Below.refl _ _) q
    have HKb := Lib.hid (HKa.out.keep hb)
    have HUb := Lib.hid (uu_below HUa.out hb)
    clear hq hb HQa HVa HKa HUa
    go_wp2_with fail
    go_ret
    exact ⟨rfl, Played.mk' HKb.out (by omega) HUb.out HGW.out⟩
  by_cases h2 : call = 2
  · subst h2
    go_wp2_with fail
    clear hc
    refine (packSuper_any ⟨s1, s2, s3, s4, s5⟩ w5).mono ?_
    rintro e w6 ⟨⟨vl, rfl, ho⟩, hb⟩
    have HL6 := Lib.hid ho
    have HLL := Lib.hid ho.lt
    obtain ⟨Al, cl, rfl, _⟩ := ho.form
    have HS6 := Lib.hid hb.size
    clear ho
    have HT6 := Lib.hid (HT5.out.below hb)
    have HP6 := Lib.hid (HP5.out.below hb)
    have HQ6 := Lib.hid (HQ5.out.below hb)
    have HR6 := Lib.hid (HR5.out.below hb)
    have HV6 := Lib.hid (HV5.out.below hb)
    have HD6 := Lib.hid (HD5.out.below hb)
    have HK6 := Lib.hid (HK5.out.keep hb)
    have HU6 := Lib.hid (uu_below HU5.out hb)
    clear hb HT5 HP5 HQ5 HR5 HV5 HD5 HK5 HU5
    have hc := try_cells HT6.out
    go_wp2_with fail
    clear hc
    refine (refPackSuper_any ⟨s1, s2, s3, s4, s5⟩ w6 HD6.out).mono ?_
    rintro e w7 ⟨⟨vm, rfl, ho⟩, hb⟩
    have HMO := Lib.hid ho
    obtain ⟨Am, cm, rfl, _⟩ := ho.form
    have HM7 := Lib.hid HMO.out.reads
    clear ho HMO
    have HL7 := Lib.hid (HL6.out.below hb)
    have HP7 := Lib.hid (HP6.out.below hb)
    have HQ7 := Lib.hid (HQ6.out.below hb)
    have HR7 := Lib.hid (HR6.out.below hb)
    have HV7 := Lib.hid (HV6.out.below hb)
    have HK7 := Lib.hid (HK6.out.keep hb)
    have HU7 := Lib.hid (uu_below HU6.out hb)
    clear hb HL6 HP6 HQ6 HR6 HV6 HK6 HU6
    have HLN : Hid ((packSN ⟨s1, s2, s3, s4, s5⟩).1.length ≤ 1073741824) := by have := packSN_len' ⟨s1, s2, s3, s4, s5⟩; show _ ≤ _; omega
    generalize (packSN ⟨s1, s2, s3, s4, s5⟩).1 = pg at *
    generalize (packSN ⟨s1, s2, s3, s4, s5⟩).2 = er at *
    go_wp2_with fail
    refine (same_true HL7.out.reads HM7.out (by have := HLN.out; omega) rfl).mono ?_
    rintro e w8 ⟨rfl, q, hq⟩
    have hb : Below w7.heap.size w7 w8 := by rw [hq]; exact drewN_below (Below.refl _ _) q
    have HL8 := Lib.hid (HL7.out.below hb)
    have HP8 := Lib.hid (HP7.out.below hb)
    have HQ8 := Lib.hid (HQ7.out.below hb)
    have HR8 := Lib.hid (HR7.out.below hb)
    have HV8 := Lib.hid (HV7.out.below hb)
    have HK8 := Lib.hid (HK7.out.keep hb)
    have HU8 := Lib.hid (uu_below HU7.out hb)
    clear hq hb HM7 HL7 HP7 HQ7 HR7 HV7 HK7 HU7
    go_wp2_with fail
    refine (put_Z _ _ HK8.out (HL8.out.mono (by have := HGS.out; have := HGG.out; omega)) (fun B hB => by have := HLL.out B hB; have := HG5.out; omega) (by have := HLN.out; omega) HAL.out).mono ?_
    rintro e w9 ⟨rfl, hk, ht⟩
    have HK9 := Lib.hid hk
    have HP9 := Lib.hid (survive ht HP8.out HXM.out fun B hB => (HLL.out B hB).1)
    have HQ9 := Lib.hid (survive ht HQ8.out HYM.out fun B hB => (HLL.out B hB).1)
    have HR9 := Lib.hid (survive ht HR8.out HRM.out fun B hB => (HLL.out B hB).1)
    have HV9 := Lib.hid (survive ht HV8.out HVM.out fun B hB => (HLL.out B hB).1)
    have HU9 := Lib.hid (uu_put HU8.out ht fun B hB => Nat.le_trans HGG.out (HLL.out B hB).1)
    clear hk ht HK8 HP8 HQ8 HR8 HV8 HU8 HL8 HLL
    go_wp2_with fail
    refine (same_true HP9.out.reads HR9.out.reads (by omega) rfl).mono ?_
    rintro e wa ⟨rfl, q, hq⟩
    have hb : Below w9.heap.size w9 wa := by rw [hq]; exact drewN_below (Below.refl _ _) q
    have HQa := Lib.hid (HQ9.out.below hb)
    have HVa := Lib.hid (HV9.out.below hb)
    have HKa := Lib.hid (HK9.out.keep hb)
    have HUa := Lib.hid (uu_below HU9.out hb)
    clear hq hb HP9 HR9 HQ9 HV9 HK9 HU9
    go_wp2_with fail
    refine (same_true HQa.out.reads HVa.out.reads (by omega) rfl).mono ?_
    rintro e wb ⟨rfl, q, hq⟩
    have hb : Below wa.heap.size wa wb := by rw [hq]; exact drewN_below (Below.refl _ _) q
    have HKb := Lib.hid (HKa.out.keep hb)
    have HUb := Lib.hid (uu_below HUa.out hb)
    clear hq hb HQa HVa HKa HUa
    go_wp2_with fail
    go_ret
    exact ⟨rfl, Played.mk' HKb.out (by omega) HUb.out HGW.out⟩
  by_cases h3 : call = 3
  · subst h3
    obtain ⟨t1, t2, t3, t4, t5, er, hU⟩ : ∃ t1 t2 t3 t4 t5, ∃ er : Nat, unsupN xs = (⟨t1, t2, t3, t4, t5⟩, er) := ⟨_, _, _, _, _, _, rfl⟩
    have HC1 : Hid (Calls Tryd.prog 34 #[.slice Ap xs.length cp] w5 fun e w' => e = .returned (.tuple #[.agg #[.int .i64 t1, .int .i64 t2, .int .i64 t3, .int .i64 t4, .int .i64 t5], .int .i64 er]) ∧ Below w5.heap.size w5 w') := by
      have h := unpackSuper_any Ap xs.length cp xs w5 HR5.out.reads HR5.out.room
      unfold UnpackedS at h
      rw [hU] at h
      exact h
    have HC2 : Hid (∀ w, RB w Ax xs.length xs → xs.length ≤ cx → DivT w → Calls Tryd.prog 35 #[.slice Ax xs.length cx] w fun e w' => e = .returned (.tuple #[.agg #[.int .i64 t1, .int .i64 t2, .int .i64 t3, .int .i64 t4, .int .i64 t5], .int .i64 er]) ∧ Below w.heap.size w w') := fun w hx hr hd => by
      have h := refUnpackSuper_any Ax xs.length cx xs w hx hr (by omega) hd
      unfold UnpackedS at h
      rw [hU] at h
      exact h
    clear hU
    go_wp2_with fail
    clear hc
    refine HC1.out.mono ?_
    rintro e w6 ⟨rfl, hb⟩
    have HP6 := Lib.hid (HP5.out.below hb)
    have HQ6 := Lib.hid (HQ5.out.below hb)
    have HR6 := Lib.hid (HR5.out.below hb)
    have HV6 := Lib.hid (HV5.out.below hb)
    have HD6 := Lib.hid (HD5.out.below hb)
    have HK6 := Lib.hid (HK5.out.keep hb)
    have HU6 := Lib.hid (uu_below HU5.out hb)
    clear hb HT5 HP5 HQ5 HR5 HV5 HD5 HK5 HU5 HC1
    have HSA := Lib.hid (BlkIs.new w6 23 (supA t1 t2 t3 t4 t5))
    have HBA := Lib.hid ((Below.refl w6.heap.size w6).alloc (Nat.le_refl _) (.cells (supA t1 t2 t3 t4 t5) 23))
    unfold supA at HSA HBA
    go_wp2_with fail
    refine (HC2.out _ (HP6.out.below HBA.out).reads HP6.out.room (HD6.out.below HBA.out)).mono ?_
    rintro e w7 ⟨rfl, hb⟩
    have HBB := Lib.hid (HBA.out.trans (hb.mono HBA.out.size))
    have HSA7 := Lib.hid (BlkIs.below HSA.out hb)
    have HBC := Lib.hid (HBB.out.alloc HBB.out.size (.cells (supA t1 t2 t3 t4 t5) 23))
    have hs2 := sup_at (BlkIs.alloc HSA7.out (.cells (supA t1 t2 t3 t4 t5) 23))
    unfold supA at HBC hs2
    have HP8 := Lib.hid (HP6.out.below HBC.out)
    have HQ8 := Lib.hid (HQ6.out.below HBC.out)
    have HR8 := Lib.hid (HR6.out.below HBC.out)
    have HV8 := Lib.hid (HV6.out.below HBC.out)
    have HK8 := Lib.hid (HK6.out.keep HBC.out)
    have HU8 := Lib.hid (uu_below HU6.out HBC.out)
    clear hb HP6 HQ6 HR6 HV6 HD6 HK6 HU6 HC2 HBA HBB HBC HSA HSA7
    go_wp2_with fail
    clear hs2
    generalize w7.alloc (.cells #[.int .i64 t1, .int .i64 t2, .int .i64 t3, .int .i64 t4, .int .i64 t5] 23) = w8 at *
    refine (same_true HP8.out.reads HR8.out.reads (by omega) rfl).mono ?_
    rintro e wa ⟨rfl, q, hq⟩
    have hb : Below w8.heap.size w8 wa := by rw [hq]; exact drewN_below (Below.refl _ _) q
    have HQa := Lib.hid (HQ8.out.below hb)
    have HVa := Lib.hid (HV8.out.below hb)
    have HKa := Lib.hid (HK8.out.keep hb)
    have HUa := Lib.hid (uu_below HU8.out hb)
    clear hq hb HP8 HR8 HQ8 HV8 HK8 HU8
    go_wp2_with fail
    refine (same_true HQa.out.reads HVa.out.reads (by omega) rfl).mono ?_
    rintro e wb ⟨rfl, q, hq⟩
    have hb : Below wa.heap.size wa wb := by rw [hq]; exact drewN_below (Below.refl _ _) q
    have HKb := Lib.hid (HKa.out.keep hb)
    have HUb := Lib.hid (uu_below HUa.out hb)
    clear hq hb HQa HVa HKa HUa
    go_wp2_with fail
    go_ret
    exact ⟨rfl, Played.mk' HKb.out (by omega) HUb.out HGW.out⟩
  by_cases h4 : call = 4
  · subst h4
    obtain ⟨t1, t2, t3, t4, t5, er, hU⟩ : ∃ t1 t2 t3 t4 t5, ∃ er : Nat, chooseN xs ys = (⟨t1, t2, t3, t4, t5⟩, er) := ⟨_, _, _, _, _, _, rfl⟩
    have HC1 : Hid (Calls Tryd.prog 38 #[.slice Ap xs.length cp, .slice Aq ys.length cq] w5 fun e w' => e = .returned (.tuple #[.agg #[.int .i64 t1, .int .i64 t2, .int .i64 t3, .int .i64 t4, .int .i64 t5], .int .i64 er]) ∧ Below w5.heap.size w5 w') := by
      have h := choose_any Ap Aq xs.length cp ys.length cq xs ys w5 HR5.out.reads HV5.out.reads HR5.out.room HV5.out.room
      unfold Chosen at h
      rw [hU] at h
      exact h
    have HC2 : Hid (∀ w, RB w Ax xs.length xs → RB w Ay ys.length ys → xs.length ≤ cx → ys.length ≤ cy → DivT w → Calls Tryd.prog 39 #[.slice Ax xs.length cx, .slice Ay ys.length cy] w fun e w' => e = .returned (.tuple #[.agg #[.int .i64 t1, .int .i64 t2, .int .i64 t3, .int .i64 t4, .int .i64 t5], .int .i64 er]) ∧ Below w.heap.size w w') := fun w hx hy hr hs hd => by
      have h := refChoose_any Ax Ay xs.length cx ys.length cy xs ys w hx hy hr hs (by omega) (by omega) hd
      unfold Chosen at h
      rw [hU] at h
      exact h
    clear hU
    go_wp2_with fail
    clear hc
    refine HC1.out.mono ?_
    rintro e w6 ⟨rfl, hb⟩
    have HP6 := Lib.hid (HP5.out.below hb)
    have HQ6 := Lib.hid (HQ5.out.below hb)
    have HR6 := Lib.hid (HR5.out.below hb)
    have HV6 := Lib.hid (HV5.out.below hb)
    have HD6 := Lib.hid (HD5.out.below hb)
    have HK6 := Lib.hid (HK5.out.keep hb)
    have HU6 := Lib.hid (uu_below HU5.out hb)
    clear hb HT5 HP5 HQ5 HR5 HV5 HD5 HK5 HU5 HC1
    have HSA := Lib.hid (BlkIs.new w6 23 (supA t1 t2 t3 t4 t5))
    have HBA := Lib.hid ((Below.refl w6.heap.size w6).alloc (Nat.le_refl _) (.cells (supA t1 t2 t3 t4 t5) 23))
    unfold supA at HSA HBA
    go_wp2_with fail
    refine (HC2.out _ (HP6.out.below HBA.out).reads (HQ6.out.below HBA.out).reads HP6.out.room HQ6.out.room (HD6.out.below HBA.out)).mono ?_
    rintro e w7 ⟨rfl, hb⟩
    have HBB := Lib.hid (HBA.out.trans (hb.mono HBA.out.size))
    have HSA7 := Lib.hid (BlkIs.below HSA.out hb)
    have HBC := Lib.hid (HBB.out.alloc HBB.out.size (.cells (supA t1 t2 t3 t4 t5) 23))
    have hs2 := sup_at (BlkIs.alloc HSA7.out (.cells (supA t1 t2 t3 t4 t5) 23))
    unfold supA at HBC hs2
    have HP8 := Lib.hid (HP6.out.below HBC.out)
    have HQ8 := Lib.hid (HQ6.out.below HBC.out)
    have HR8 := Lib.hid (HR6.out.below HBC.out)
    have HV8 := Lib.hid (HV6.out.below HBC.out)
    have HK8 := Lib.hid (HK6.out.keep HBC.out)
    have HU8 := Lib.hid (uu_below HU6.out HBC.out)
    clear hb HP6 HQ6 HR6 HV6 HD6 HK6 HU6 HC2 HBA HBB HBC HSA HSA7
    go_wp2_with fail
    clear hs2
    generalize w7.alloc (.cells #[.int .i64 t1, .int .i64 t2, .int .i64 t3, .int .i64 t4, .int .i64 t5] 23) = w8 at *
    refine (same_true HP8.out.reads HR8.out.reads (by omega) rfl).mono ?_
    rintro e wa ⟨rfl, q, hq⟩
    have hb : Below w8.heap.size w8 wa := by rw [hq]; exact drewN_below (Below.refl _ _) q
    have HQa := Lib.hid (HQ8.out.below hb)
    have HVa := Lib.hid (HV8.out.below hb)
    have HKa := Lib.hid (HK8.out.keep hb)
    have HUa := Lib.hid (uu_below HU8.out hb)
    clear hq hb HP8 HR8 HQ8 HV8 HK8 HU8
    go_wp2_with fail
    refine (same_true HQa.out.reads HVa.out.reads (by omega) rfl).mono ?_
    rintro e wb ⟨rfl, q, hq⟩
    have hb : Below wa.heap.size wa wb := by rw [hq]; exact drewN_below (Below.refl _ _) q
    have HKb := Lib.hid (HKa.out.keep hb)
    have HUb := Lib.hid (uu_below HUa.out hb)
    clear hq hb HQa HVa HKa HUa
    go_wp2_with fail
    go_ret
    exact ⟨rfl, Played.mk' HKb.out (by omega) HUb.out HGW.out⟩
  · go_wp2_with fail
    clear hc
    refine (same_true HP5.out.reads HR5.out.reads (by omega) rfl).mono ?_
    rintro e wa ⟨rfl, q, hq⟩
    have hb : Below w5.heap.size w5 wa := by rw [hq]; exact drewN_below (Below.refl _ _) q
    have HQa := Lib.hid (HQ5.out.below hb)
    have HVa := Lib.hid (HV5.out.below hb)
    have HKa := Lib.hid (HK5.out.keep hb)
    have HUa := Lib.hid (uu_below HU5.out hb)
    clear hq hb HP5 HR5 HQ5 HV5 HK5 HU5
    go_wp2_with fail
    refine (same_true HQa.out.reads HVa.out.reads (by omega) rfl).mono ?_
    rintro e wb ⟨rfl, q, hq⟩
    have hb : Below wa.heap.size wa wb := by rw [hq]; exact drewN_below (Below.refl _ _) q
    have HKb := Lib.hid (HKa.out.keep hb)
    have HUb := Lib.hid (uu_below HUa.out hb)
    clear hq hb HQa HVa HKa HUa
    go_wp2_with fail
    go_ret
    exact ⟨rfl, Played.mk' HKb.out (by omega) HUb.out HGW.out⟩
end Go.Proofs.YtbjbpgbpefkbhaaDoor
