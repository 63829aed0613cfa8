/- Normal, AskedN, FoldN (merged by merge_k.py) -/
import Derived.Test.YtkpbeibcfaenhaaGh
import Derived.Test.YtkpbeibcfaenhaaGd
import Derived.Test.YtkpbeibcfaenhaaAsked
/- batch.own, Normal; ledgerref3.Normal. -/
namespace Go.Proofs.Ytkpbeibcfaenhaa
open Go.RowKit
theorem own_end {w w1 w2 w5 : World} {ky vl : List Nat} {dl : Bool} {A2 : Option Addr} {c2 : Nat} {v0 : Value} {old : List Value} (h01 : w.heap.size < w1.heap.size) (h12 : w1.heap.size < w2.heap.size) (hb : Below w2.heap.size w2 w5) (hw : Below w.heap.size w w2) (h1 : BlkIs w2 w.heap.size 45 (chS ky dl v0).toArray) (h2 : BlkIs w2 w1.heap.size 45 old.toArray)
    (hk : ky.length = 32) (hr : RB w5 A2 vl.length vl) (hlo : ∀ ad, A2 = some ad → w2.heap.size ≤ ad.block) :
    w5.cell? ⟨w.heap.size, 33, none⟩ = some v0 ∧ w5.frozen? ⟨w.heap.size, 33, none⟩ = false ∧ BlkIs (w5.setCell ⟨w.heap.size, 33, none⟩ (.slice A2 vl.length c2)) w.heap.size 45 (chS ky dl (.slice A2 vl.length c2)).toArray ∧
    BlkIs (w5.setCell ⟨w.heap.size, 33, none⟩ (.slice A2 vl.length c2)) w1.heap.size 45 old.toArray ∧
    ∀ w6, (w5.setCell ⟨w.heap.size, 33, none⟩ (.slice A2 vl.length c2)).grownBy w6 (some w1.heap.size) → RB w6 A2 vl.length vl ∧ (∀ ad, A2 = some ad → w.heap.size ≤ ad.block) ∧ Below w.heap.size w w6 := by
  have h5 := BlkIs.below h1 hb
  have hbel : Below w.heap.size w w5 := hw.trans (hb.mono hw.size)
  have hl1 := BlkIs.lt h2
  refine ⟨?_, BlkIs.frozen h5 33, chs_setval h5 hk _, BlkIs.far (BlkIs.below h2 hb) (by show _ ≠ w.heap.size; omega) _, fun w6 hg => ⟨?_, fun ad e => ?_, ?_⟩⟩
  · rw [BlkIs.cell h5, List.getElem?_toArray, chS, List.getElem?_append_right (by simp [bvs, hk])]
    simp [bvs, hk]
  · have h6 : RB (w5.setCell ⟨w.heap.size, 33, none⟩ (.slice A2 vl.length c2)) A2 vl.length vl := hr.grownBy (grown_setCell w5 (g := w.heap.size) 33 _) fun _ ad e he => by
      have := hlo ad e
      injection he with he
      omega
    refine h6.grownBy hg fun _ ad e he => ?_
    have := hlo ad e
    injection he with he
    omega
  · have := hlo ad e
    omega
  · have h7 : Below w.heap.size w (w5.setCell ⟨w.heap.size, 33, none⟩ (.slice A2 vl.length c2)) := hbel.setCell (p := ⟨w.heap.size, 33, none⟩) (Nat.le_refl _) _
    exact h7.grown hg h7.size fun k hk => by injection hk with hk; omega
set_option maxRecDepth 100000 in
set_option maxHeartbeats 1600000 in
theorem own_any (x : Chg) (A : Option Addr) (C : Nat) (w : World) (hk : x.key.length = 32) (hr : RB w A x.val.length x.val) (hl : x.val.length ≤ 140737488355328) (hnil : A = none → C = 0) :
    Calls Try.prog 48 #[.agg (chC x A C).toArray] w (ChRet (plainC x) w) := by
  obtain ⟨ky, dl, vl⟩ := x
  have HR := Lib.hid hr
  have HK := Lib.hid hk
  have HN := Lib.hid hnil
  clear hr hk hnil
  go_enter Try.func48, Try.ntmps48
  cases dl
  · go_wp2_with (first
      | ((with_reducible refine stopAt (o := ⟨some 1, _, _, _, _, _⟩) ?_); refine boxNew (o := ⟨some 1, _, _, _, _, _⟩) (by rfl) 45 (.tmp 0) rfl _ rfl ?_; intro w1 HA1 HW1 HS1)
      | ((with_reducible refine stopAt (o := ⟨some 2, _, _, _, _, _⟩) ?_); refine allocNew (o := ⟨some 2, _, _, _, _, _⟩) (by rfl) 45 rfl _ _ info_chS ?_; intro w2 HA2 HW2 HS2; have HA1' := Lib.hid (BlkIs.below HA1.out HW2.out); have HW := Lib.hid (HW1.out.trans (HW2.out.mono HW1.out.size)); have b32 := ch_del (BlkIs.range HA1'.out) HK.out; have b33 := ch_val (BlkIs.range HA1'.out) HK.out; rw [Nat.zero_add] at b32 b33)
      | ((with_reducible refine stopAt (o := ⟨some 8, _, _, _, _, _⟩) ?_); refine appendRBAt und_bytes info_byte w2 (o := ⟨some 8, _, _, _, _, _⟩) rfl (.const (.slice none 0 0)) (.tmp 7) rfl w2.heap.size (.slice none 0 0) [] (Own.nil _ _ _) A vl.length C vl (HR.out.below HW.out) HN.out rfl rfl (by simpa using hl) (Nat.le_refl _) ?_; intro v8 w8 ho8 hg8 hl8; have HO8 : Hid (OwnU w8 w2.heap.size v8 vl) := ho8; have HB8 : Hid (Below w2.heap.size w2 w8) := (Below.refl _ _).grown hg8 (Nat.le_refl _) (fun k hk => by cases hk); obtain ⟨A2, c2, hv2, hr2, hlo2, hnil2, hle2⟩ := HO8.out.form; subst hv2; have hcm2 := own_max HO8.out; have HF := Lib.hid (own_end (c2 := c2) (by have := HS1.out; omega) (by have := HS2.out; omega) HB8.out HW.out HA1'.out HA2.out HK.out hr2 (fun ad e => (hlo2 ad e).1)); have c33 := HF.out.1; have f33 := HF.out.2.1; have HV2 := Lib.hid (show vl.length ≤ c2 ∧ c2 ≤ maxLen ∧ (A2 = none → c2 = 0) from ⟨hle2, hcm2, hnil2⟩); clear ho8 hg8 hl8 hr2 hlo2 hnil2 hle2 hcm2 HO8)
      | ((with_reducible refine stopAt (o := ⟨some 10, _, _, _, _, _⟩) ?_); refine loadRange (o := ⟨some 10, _, _, _, _, _⟩) (by rfl) 45 (.tmp 1) rfl w.heap.size 0 _ rfl (BlkIs.range HF.out.2.2.1) row_chg (by rw [size_chg, chS_length _ _ HK.out]) ?_)
      | ((with_reducible refine stopAt (o := ⟨none, .store _ (.tmp 2) _, _, _, _, _⟩) ?_); refine storeV (o := ⟨none, _, _, _, _, _⟩) (by rfl) 45 (.tmp 2) (.tmp 10) rfl w1.heap.size _ _ 45 rfl rfl HF.out.2.2.2.1 (by rw [size_chg, chS_length _ _ HK.out]) (by rw [chS_length _ _ HK.out, chS_length _ _ (zs_length 32)]) (chS_one rfl) ?_; intro w6 HA6 HG6 HS6))
    refine cells_ret (g := w1.heap.size) rfl rfl HA6.out row_chg (by rw [size_chg, chS_length _ _ HK.out]) rfl ?_
    obtain ⟨h1, h2, h3⟩ := HF.out.2.2.2.2 _ HG6.out
    exact ⟨A2, c2, rfl, h1, HV2.out.1, HV2.out.2.1, HV2.out.2.2, h2, h3⟩
  · go_wp2_with (first
      | ((with_reducible refine stopAt (o := ⟨some 1, _, _, _, _, _⟩) ?_); refine boxNew (o := ⟨some 1, _, _, _, _, _⟩) (by rfl) 45 (.tmp 0) rfl _ rfl ?_; intro w1 HA1 HW1 HS1)
      | ((with_reducible refine stopAt (o := ⟨some 2, _, _, _, _, _⟩) ?_); refine allocNew (o := ⟨some 2, _, _, _, _, _⟩) (by rfl) 45 rfl _ _ info_chS ?_; intro w2 HA2 HW2 HS2; have HA1' := Lib.hid (BlkIs.below HA1.out HW2.out); have HW := Lib.hid (HW1.out.trans (HW2.out.mono HW1.out.size)); have b32 := ch_del (BlkIs.range HA1'.out) HK.out; rw [Nat.zero_add] at b32; have HF := Lib.hid (own_end (A2 := none) (c2 := 0) (vl := []) (by have := HS1.out; omega) (by have := HS2.out; omega) (Below.refl _ _) HW.out HA1'.out HA2.out HK.out (RB.nil _ _) (fun ad e => by cases e)); have c33 := HF.out.1; have f33 := HF.out.2.1)
      | ((with_reducible refine stopAt (o := ⟨some 10, _, _, _, _, _⟩) ?_); refine loadRange (o := ⟨some 10, _, _, _, _, _⟩) (by rfl) 45 (.tmp 1) rfl w.heap.size 0 _ rfl (BlkIs.range HF.out.2.2.1) row_chg (by rw [size_chg, chS_length _ _ HK.out]) ?_)
      | ((with_reducible refine stopAt (o := ⟨none, .store _ (.tmp 2) _, _, _, _, _⟩) ?_); refine storeV (o := ⟨none, _, _, _, _, _⟩) (by rfl) 45 (.tmp 2) (.tmp 10) rfl w1.heap.size _ _ 45 rfl rfl HF.out.2.2.2.1 (by rw [size_chg, chS_length _ _ HK.out]) (by rw [chS_length _ _ HK.out, chS_length _ _ (zs_length 32)]) (chS_one rfl) ?_; intro w6 HA6 HG6 HS6))
    refine cells_ret (g := w1.heap.size) rfl rfl HA6.out row_chg (by rw [size_chg, chS_length _ _ HK.out]) rfl ?_
    obtain ⟨h1, h2, h3⟩ := HF.out.2.2.2.2 _ HG6.out
    exact ⟨none, 0, rfl, h1, Nat.le_refl _, Nat.zero_le _, fun _ => rfl, h2, h3⟩
def NormOK (X : Nat → Chg) (N : Nat) (Z : Nat → Chg) : Prop := Sorted (lst Z N) ∧ (lst Z N).Perm ((lst X N).map plainC)
def NormPost (X : Nat → Chg) (N : Nat) (w : World) (e : Ending) (w' : World) : Prop :=
  ∃ v, e = .returned (.tuple #[v, .int .i64 (wrongN X N 4096 : Nat)]) ∧ Below w.heap.size w w' ∧ (wrongN X N 4096 = 0 → ∃ Z Ad Cp, ChsOwn w' w.heap.size v N Z Ad Cp ∧ NormOK X N Z) ∧ (wrongN X N 4096 ≠ 0 → v = .slice none 0 0)
theorem wrong_zero {X : Nat → Chg} {n m : Nat} (h : wrongN X n m = 0) : heldN X n m = 0 ∧ repN X n < 0 := by
  unfold wrongN at h
  split at h
  · split at h
    · omega
    · exact ⟨by assumption, by omega⟩
  · exact absurd h (by assumption)
set_option maxHeartbeats 1000000 in
theorem refnormal_any (A : Option Addr) (N c : Nat) (X : Nat → Chg) (w : World) (hx : ChsAt w A N X) (hc : N ≤ c) (hn : N * 64 ≤ 140737488355328) (hv : ∀ k, k < N → (X k).val.length ≤ 140737488355328) :
    Calls Try.prog 90 #[.slice A N c] w (NormPost X N w) := by
  have HW := Lib.hid (wrong_any A N c 4096 X w hx hc (by omega) hn hv)
  have HS := Lib.hid (fun W (hW : Below w.heap.size w W) => sorted_any N A c X W (hx.below hW) hc hn hv)
  clear hx hv
  have HD : Hid (∀ v w', (wrongN X N 4096 = 0 → ∃ Z Ad Cp, ChsOwn w' w.heap.size v N Z Ad Cp ∧ NormOK X N Z) → (wrongN X N 4096 ≠ 0 → v = .slice none 0 0) → Below w.heap.size w w' → NormPost X N w (.returned (.tuple #[v, .int .i64 (wrongN X N 4096 : Nat)])) w') := fun v w' h1 h2 h3 => ⟨v, rfl, h3, h1, h2⟩
  generalize NormPost X N w = R at *
  go_enter Try.func90, Try.ntmps90
  go_wp2_with fail
  refine HW.out.mono ?_
  rintro e w1 ⟨rfl, hb1⟩
  have HB1 := Lib.hid hb1
  clear hb1
  by_cases h0 : wrongN X N 4096 = 0
  · have HL := Lib.hid (HS.out w1 HB1.out)
    rw [h0] at HD ⊢
    clear h0
    go_wp2_with fail
    refine HL.out.mono ?_
    rintro e w2 ⟨Z, ⟨v2, Ad, Cp, rfl, ho2, hb2⟩, hs2, hp2⟩
    have HB2 := Lib.hid (HB1.out.trans (hb2.mono HB1.out.size))
    have HO2 := Lib.hid (show ∃ Z Ad Cp, ChsOwn w2 w.heap.size v2 N Z Ad Cp ∧ NormOK X N Z from ⟨Z, Ad, Cp, ho2.mono HB1.out.size, hs2, hp2⟩)
    clear ho2 hb2 hs2 hp2
    go_wp2_with fail
    exact HD.out _ _ (fun _ => HO2.out) (fun h => absurd rfl h) HB2.out
  · obtain ⟨z, hz⟩ : ∃ z, z = wrongN X N 4096 := ⟨_, rfl⟩
    rw [← hz] at HD h0 ⊢
    have h1 : (z : Int) ≠ 0 := by omega
    have h2 : (((z : Nat) : Int) != 0) = true := by rw [bne_iff_ne]; exact h1
    clear hz
    go_wp2_with fail
    exact HD.out _ _ (fun h => absurd h h0) (fun _ => rfl) HB1.out
theorem ChsOwn.head {w : World} {base n : Nat} {v : Value} {X : Nat → Chg} {Ad : Nat → Option Addr} {Cp : Nat → Nat} (h : ChsOwn w base v n X Ad Cp) (h0 : n = 0 → ∃ g c, v = .slice (some ⟨g, 0, none⟩) 0 c) : ∃ g c, v = .slice (some ⟨g, 0, none⟩) n c := by
  rcases h.own.2 with ⟨_, e⟩ | ⟨g, cap, _, e, _⟩
  · subst e; exact h0 rfl
  · exact ⟨g, cap, e⟩
theorem adj_rep {X Z : Nat → Chg} {N : Nat} (h : NormOK X N Z) (hg : ∀ k, k < N → GoodK (Z k)) : adjS (lst Z N) N = true ↔ 0 ≤ repN X N := sort_dup h.1 h.2 hg
set_option maxRecDepth 100000 in
set_option maxHeartbeats 4000000 in
theorem normal_any (A : Option Addr) (N c : Nat) (X : Nat → Chg) (w : World) (hx : ChsAt w A N X) (hn : N * 64 ≤ 140737488355328) (hv : ∀ k, k < N → (X k).val.length ≤ 140737488355328) :
    Calls Try.prog 30 #[.slice A N c] w (NormPost X N w) := by
  have HX := Lib.hid hx
  have HV := Lib.hid hv
  have HH := Lib.hid (held_any A N c 4096 X w hx (by omega))
  clear hx hv
  have HD : Hid (∀ v w' (e : Nat), e = wrongN X N 4096 → (e = 0 → ∃ Z Ad Cp, ChsOwn w' w.heap.size v N Z Ad Cp ∧ NormOK X N Z) → (e ≠ 0 → v = .slice none 0 0) → Below w.heap.size w w' → NormPost X N w (.returned (.tuple #[v, .int .i64 (e : Nat)])) w') := fun v w' e he h1 h2 h3 => by
    subst he
    exact ⟨v, rfl, h3, h1, h2⟩
  generalize NormPost X N w = R at *
  go_enter Try.func30, Try.ntmps30
  go_wp2_with fail
  refine HH.out.mono ?_
  rintro e w1 ⟨rfl, hb1⟩
  have HB1 := Lib.hid hb1
  clear hb1
  by_cases h0 : heldN X N 4096 = 0
  · have HE : Hid (wrongN X N 4096 = if 0 ≤ repN X N then 33 else 0) := by show _ = _; unfold wrongN; rw [if_pos h0]
    rw [h0]
    obtain ⟨i, hi, hz, hs, hby⟩ := info_parts info_chg3
    have hN4 := (heldN_le h0).1
    have hib : i.bytes * N ≤ 281474976710656 := by rw [hby]; omega
    clear h0
    go_wp2_with ((with_reducible refine stopAt (o := ⟨some 16, _, _, _, _, _⟩) ?_); refine wpList_make_own w1 (o := ⟨some 16, _, _, _, _, _⟩) rfl (.const (.int .i64 0)) (.tmp 15) 30 rfl w.heap.size 45 i _ 34 und_chl hi hz hs .i64 .i64 _ N rfl rfl rfl hib (by unfold maxLen; omega) HB1.out.size ?_; intro w2 ho2 hg2; have HO2 := Lib.hid ho2; have HB2 : Hid (Below w.heap.size w w2) := HB1.out.grown hg2 HB1.out.size (fun k hk => by cases hk); clear ho2 hg2)
    clear hib hi hz hs hby
    go_loopw [5, 19] (fun v i wr => ∃ k : Nat, k ≤ N ∧ i = .int .i64 k ∧ (∃ Z Ad Cp, Hid (ChsOwn wr w.heap.size v k Z Ad Cp) ∧ Hid (lst Z k = (lst X k).map plainC)) ∧ Hid (k = 0 → ∃ g c, v = .slice (some ⟨g, 0, none⟩) 0 c) ∧ Hid (Below w.heap.size w wr)) (fun _ i _ => N - (intOf i).toNat)
    case atStart => exact ⟨0, by omega, rfl, ⟨fun _ => default, fun _ => none, fun _ => 0, (show ChsOwn _ _ _ _ _ _ _ from { own := HO2.out, key := fun i hi => by omega, val := fun i hi => by omega, apart := fun i hi => by omega }), rfl⟩, (fun _ => ⟨_, _, rfl⟩), HB2.out⟩
    case round =>
      clear HO2 HB2
      obtain ⟨k, hk, rfl, ⟨Z, Ad, Cp, HO, HZ⟩, HH0, HB⟩ := hrel
      obtain ⟨w3, rfl⟩ : ∃ w3, w3 = wr := ⟨_, rfl⟩
      by_cases hlt : k < N
      · have hlt' : (k : Int) < N := by omega
        obtain ⟨b, o, Av, Cv, rfl, hb, hr, hkB, hkl, hvr, hvC, hCm, hnil⟩ := (HX.out.below HB.out).2 k hlt
        have HR := Lib.hid hr
        have HZn : Hid (lst (upd Z k (plainC (X k))) (k + 1) = (lst X (k + 1)).map plainC) := by show _ = _; rw [lst_upd, HZ.out, lst_succ, List.map_append]; rfl
        have hvl := HV.out k hlt
        have HK : Hid (IsB (X k).key ∧ (X k).key.length = 32) := ⟨hkB, hkl⟩
        have HVR := Lib.hid (show RB w3 Av (X k).val.length (X k).val ∧ (Av = none → Cv = 0) from ⟨hvr, hnil⟩)
        clear hr hkB hkl hvr hvC hCm hnil hb
        have hsz : (Try.prog.info? 45).map (·.size) = some (chC (X k) Av Cv).length := by rw [size_chg, chC_length HK.out.2]
        generalize X k = x at *
        go_wp2_with (first
          | ((with_reducible refine stopAt (o := ⟨some 22, _, _, _, _, _⟩) ?_); refine loadRange (o := ⟨some 22, _, _, _, _, _⟩) (by rfl) 45 (.tmp 21) rfl b (o + k * 34) (chC x Av Cv) rfl HR.out row_chg hsz ?_)
          | ((with_reducible refine stopAt (o := ⟨some 7, _, _, _, _, _⟩) ?_); refine allocNew (o := ⟨some 7, _, _, _, _, _⟩) (by rfl) 45 rfl _ _ info_chS ?_; intro w4 HA4 HW4 HS4)
          | ((with_reducible refine stopAt (o := ⟨none, .store _ (.tmp 7) _, _, _, _, _⟩) ?_); refine storeV (o := ⟨none, _, _, _, _, _⟩) (by rfl) 45 (.tmp 7) (.tmp 22) rfl w3.heap.size _ _ 45 rfl rfl HA4.out hsz (by rw [chC_length HK.out.2, chS_length _ _ (zs_length 32)]) chC_one ?_; intro w5 HA5 HG5 HS5; have HN := Lib.hid (box_next HB.out HO.out (A := none) (c := 0) (vl := []) ⟨RB.nil _ _, Nat.le_refl _, Nat.zero_le _, fun _ => rfl⟩ HW4.out HG5.out); have HVR5 : Hid (RB w5 Av x.val.length x.val) := (HVR.out.1.below ((HW4.out).grown HG5.out HW4.out.size (fun k hk => by injection hk with hk; omega))); have HZ5 : Hid (w3.heap.size < w5.heap.size) := BlkIs.lt HA5.out; clear HA4 HW4 HG5)
          | ((with_reducible refine stopAt (o := ⟨some 24, _, _, _, _, _⟩) ?_); refine loadRange (o := ⟨some 24, _, _, _, _, _⟩) (by rfl) 45 (.tmp 7) rfl w3.heap.size 0 _ rfl (BlkIs.range HA5.out) row_chg hsz ?_))
        refine (own_any x Av Cv w5 HK.out.2 HVR5.out hvl HVR.out.2).mono ?_
        rintro e w6 ⟨A6, c6, rfl, hr6, hle6, hcm6, hnil6, hlo6, hb6⟩
        have HB6 := Lib.hid (HN.out.1.trans (hb6.mono HN.out.1.size))
        have HO6 := Lib.hid (HN.out.2.1.later hb6)
        have HKp : Hid (IsB (plainC x).key ∧ (plainC x).key.length = 32) := by rw [plainC_key]; exact HK.out
        have HAP : Hid (0 < (plainC x).val.length → ∀ ad, A6 = some ad → some ad.block ≠ u5.ownBlock) := fun _ ad e he => by
          have q1 := hlo6 ad e
          have q2 := (HN.out.2.1.own.lt _ he.symm).2
          omega
        have HV6 := Lib.hid (show RB w6 A6 (plainC x).val.length (plainC x).val ∧ (plainC x).val.length ≤ c6 ∧ c6 ≤ maxLen ∧ (A6 = none → c6 = 0) from ⟨hr6, hle6, hcm6, hnil6⟩)
        clear hr6 hle6 hcm6 hnil6 hlo6 hb6 HVR HVR5 HA5 HN hsz HR HK
        generalize plainC x = y at *
        go_wp2_with (first
          | ((with_reducible refine stopAt (o := ⟨some 26, _, _, _, _, _⟩) ?_); refine buildSlice1 (o := ⟨some 26, _, _, _, _, _⟩) rfl w6 30 45 _ 34 (.tmp 25) rfl und_chl info_chg (by decide) (by decide) (chC y A6 c6).toArray rfl (by rw [List.size_toArray, chC_length HKp.out.2]) ?_)
          | ((with_reducible refine stopAt (o := ⟨some 27, _, _, _, _, _⟩) ?_); refine append1C (o := ⟨some 27, _, _, _, _, _⟩) und_chl info_chg3 rfl w6 rfl (.tmp 23) (.tmp 26) rfl w.heap.size u5 k _ HO6.out.own (chC y A6 c6) (chC_length HKp.out.2) chC_one rfl rfl (by omega) (by omega) HB6.out.size ?_; intro v7 w7 ho7 hg7 hl7; have HO7 := Lib.hid (HO6.out.more HKp.out HV6.out HAP.out ho7 hg7 hl7); have HB7 : Hid (Below w.heap.size w w7) := HB6.out.grown hg7 HB6.out.size HO6.out.ge; clear ho7 hg7 hl7))
        go_roundw
        case rel => exact ⟨k + 1, by omega, by go_num, ⟨_, _, _, HO7.out, HZn.out⟩, (fun h => by omega), HB7.out⟩
        case measure => simp [intOf]; omega
      · have hnlt : ¬ (k : Int) < N := by omega
        obtain rfl : k = N := by omega
        obtain ⟨g, cc, rfl⟩ := HO.out.head HH0.out
        go_wp2_with fail
        have HCO := Lib.hid (sortC_any (c := cc) HO.out (by omega))
        have hgg := (HO.out.own.lt g rfl).1
        refine HCO.out.mono ?_
        rintro e w4 ⟨rfl, Z4, Ad4, Cp4, ho4, hs4, hp4, _, hg4⟩
        have HB4 : Hid (Below w.heap.size w w4) := HB.out.grown hg4 HB.out.size (fun j hj => by injection hj with hj; omega)
        have HO4 := Lib.hid ho4
        have HOK : Hid (NormOK X k Z4) := ⟨hs4, hp4.trans (by rw [HZ.out])⟩
        have HD4 := Lib.hid (adj_rep HOK.out ho4.key)
        have HC : Hid (ChsAt w4 (some ⟨g, 0, none⟩) k Z4) := by
          obtain ⟨A', C', e', h, _⟩ := ho4.form
          injection e' with e1 e2 e3
          rw [e1]
          exact h
        have hu := und_key
        clear ho4 hs4 hp4 hg4 HCO HO HZ HH0 hgg
        go_wp2_with fail
        go_loopw [8] (fun i wr => ∃ m q : Nat, 1 ≤ m ∧ (m ≤ k ∨ k = 0) ∧ i = .int .i64 m ∧ Hid (adjS (lst Z4 k) (min m k) = false) ∧ wr = w4.drewN q) (fun i _ => k - (intOf i).toNat)
        case atStart => exact ⟨1, 0, by omega, by omega, rfl, (by show _ = _; rcases Nat.eq_zero_or_pos k with h | h
                                                                  · rw [h]; rfl
                                                                  · rw [show min 1 k = 1 by omega]; simp [adjS]), rfl⟩
        case round =>
          obtain ⟨m, q, h1m, hmk, rfl, HA, rfl⟩ := hrel
          by_cases hml : m < k
          · have hml' : (m : Int) < k := by omega
            obtain ⟨p, hp⟩ : ∃ p, m - 1 = p := ⟨_, rfl⟩
            have hpm : IntKind.i64.wrap ((m : Int) - 1) = (p : Int) := by rw [IntWalk.i64_in _ (by omega)]; omega
            have hp0 : (0 : Int) ≤ (p : Int) := by omega
            have hpk : (p : Int) < k := by omega
            have hpk2 : p < k := by omega
            obtain ⟨b, o, Av, Cv, e1, hb, hr, hkB, hkl, hq1⟩ := HC.out.2 m hml
            obtain ⟨b', o', Av', Cv', e2, hb', hr', hkB', hkl', hq2⟩ := HC.out.2 p hpk2
            injection e1 with e1
            injection e1 with e1 e3 e4
            clear e4
            subst e1 e3
            injection e2 with e2
            injection e2 with e2 e3 e4
            clear e4
            subst e2 e3
            have a1 := ch_key hr
            have a2 := ch_key hr'
            rw [Nat.zero_add] at a1 a2
            have hsz : (Try.prog.info? 25).map (·.size) = some (bvs (Z4 m).key).length := by rw [size_key]; simp [bvs, hkl]
            have hsz2 : (Try.prog.info? 25).map (·.size) = some (bvs (Z4 p).key).length := by rw [size_key]; simp [bvs, hkl']
            have hek : ∀ w, (Op.equalIn 10000 25 (.agg (bvs (Z4 m).key).toArray) (.agg (bvs (Z4 p).key).toArray)).run Try.prog w = .ok (decide ((Z4 m).key = (Z4 p).key)) w := fun w => key_eq w _ _ hkB hkB' hkl hkl'
            have HNX : Hid ((Z4 m).key = (Z4 p).key → 33 = wrongN X k 4096) := fun h => by
              rw [HE.out, if_pos (HD4.out.1 (adjS_at hml (by omega) (by rw [lst_getD hml, hp, lst_getD hpk2]; exact h)))]
            have HNY : Hid (¬ (Z4 m).key = (Z4 p).key → adjS (lst Z4 k) (m + 1) = false) := fun h => by
              have h1 := HA.out
              rw [show min m k = m by omega] at h1
              rw [adjS, h1, lst_getD hml, hp, lst_getD hpk2, decide_eq_false h]
              simp
            obtain ⟨w5, hw5⟩ : ∃ w5, w4.drewN q = w5 := ⟨_, rfl⟩
            have HW5 := Lib.hid hw5
            have KS : Hid (∀ j, (w5.drewN j).rangeAt g (m * 34) (bvs (Z4 m).key) ∧ (w5.drewN j).rangeAt g (p * 34) (bvs (Z4 p).key)) := fun j => by
              rw [← hw5]
              exact ⟨a1, a2⟩
            rw [hw5]
            clear hr hr' hkB hkl hkB' hkl' a1 a2 hw5 hp hq1 hq2 hb hb'
            generalize (Z4 m).key = x at *
            generalize (Z4 p).key = y at *
            go_wp2_with fail
            rename_i KK hKK
            have HKK := Lib.hid hKK
            clear hKK
            refine wp_region_held_drew (S := fun w' => w'.rangeAt g (m * 34) (bvs x) ∧ w'.rangeAt g (p * 34) (bvs y)) (by kernel_rfl) (KS.out 1) fun hH => ?_
            refine wpAnyH_take (i := 0) (oi := ⟨some 37, _, _, _, _, _⟩) rfl (by kernel_rfl) (by kernel_rfl) (by kernel_rfl) (fun _ _ _ h => h) (Or.inl ⟨by rfl, fun w hw => by ((try dsimp only at hw); go_split_ands; go_simp; with_reducible rfl)⟩) (by assumption) ?_
            try simp only [Act.put, List.setIfInBounds_toArray, List.set_cons_zero, List.set_cons_succ]
            refine wpAnyH_take (i := 1) (oi := ⟨some 38, _, _, _, _, _⟩) rfl (by kernel_rfl) (by kernel_rfl) (by kernel_rfl) (fun _ _ _ h => h) (Or.inl ⟨by rfl, fun w hw => by ((try dsimp only at hw); go_split_ands; go_simp; with_reducible rfl)⟩) (by assumption) ?_
            try simp only [Act.put, List.setIfInBounds_toArray, List.set_cons_zero, List.set_cons_succ]
            refine wpAnyH_take (i := 2) (oi := ⟨some 39, _, _, _, _, _⟩) rfl (by kernel_rfl) (by kernel_rfl) (by kernel_rfl) (fun _ _ _ h => h) (Or.inl ⟨by rfl, fun w hw => by ((try dsimp only at hw); go_split_ands; go_simp; with_reducible rfl)⟩) (by assumption) ?_
            try simp only [Act.put, List.setIfInBounds_toArray, List.set_cons_zero, List.set_cons_succ]
            refine wpAnyH_take (i := 3) (oi := ⟨some 40, _, _, _, _, _⟩) rfl (by kernel_rfl) (by kernel_rfl) (by kernel_rfl) (fun _ _ _ h => h) (Or.inl ⟨by rfl, fun w hw => by ((try dsimp only at hw); go_split_ands; go_simp; with_reducible rfl)⟩) (by assumption) ?_
            try simp only [Act.put, List.setIfInBounds_toArray, List.set_cons_zero, List.set_cons_succ]
            refine wpAnyH_take (i := 4) (oi := ⟨some 41, _, _, _, _, _⟩) rfl (by kernel_rfl) (by kernel_rfl) (by kernel_rfl) (fun _ _ _ h => h) (yieldsIf_load_mid (by rfl) _ _ rfl _ _ rfl _ _ (fun w hw => by (try dsimp only at hw); go_split_ands; assumption) (by assumption) rfl (by assumption)) (by assumption) ?_
            try simp only [Act.put, List.setIfInBounds_toArray, List.set_cons_zero, List.set_cons_succ]
            refine wpAnyH_take (i := 5) (oi := ⟨some 42, _, _, _, _, _⟩) rfl (by kernel_rfl) (by kernel_rfl) (by kernel_rfl) (fun _ _ _ h => h) (Or.inl ⟨by rfl, fun w hw => by ((try dsimp only at hw); go_split_ands; go_simp; with_reducible rfl)⟩) (by assumption) ?_
            try simp only [Act.put, List.setIfInBounds_toArray, List.set_cons_zero, List.set_cons_succ]
            refine wpAnyH_take (i := 6) (oi := ⟨some 43, _, _, _, _, _⟩) rfl (by kernel_rfl) (by kernel_rfl) (by kernel_rfl) (fun _ _ _ h => h) (Or.inl ⟨by rfl, fun w hw => by ((try dsimp only at hw); go_split_ands; go_simp; with_reducible rfl)⟩) (by assumption) ?_
            try simp only [Act.put, List.setIfInBounds_toArray, List.set_cons_zero, List.set_cons_succ]
            refine wpAnyH_take (i := 7) (oi := ⟨some 44, _, _, _, _, _⟩) rfl (by kernel_rfl) (by kernel_rfl) (by kernel_rfl) (fun _ _ _ h => h) (Or.inl ⟨by rfl, fun w hw => by ((try dsimp only at hw); go_split_ands; go_simp; with_reducible rfl)⟩) (by assumption) ?_
            try simp only [Act.put, List.setIfInBounds_toArray, List.set_cons_zero, List.set_cons_succ]
            refine wpAnyH_take (i := 8) (oi := ⟨some 45, _, _, _, _, _⟩) rfl (by kernel_rfl) (by kernel_rfl) (by kernel_rfl) (fun _ _ _ h => h) (Or.inl ⟨by rfl, fun w hw => by ((try dsimp only at hw); go_split_ands; go_simp; with_reducible rfl)⟩) (by assumption) ?_
            try simp only [Act.put, List.setIfInBounds_toArray, List.set_cons_zero, List.set_cons_succ]
            refine wpAnyH_take (i := 9) (oi := ⟨some 46, _, _, _, _, _⟩) rfl (by kernel_rfl) (by kernel_rfl) (by kernel_rfl) (fun _ _ _ h => h) (Or.inl ⟨by rfl, fun w hw => by ((try dsimp only at hw); go_split_ands; go_simp; with_reducible rfl)⟩) (by assumption) ?_
            try simp only [Act.put, List.setIfInBounds_toArray, List.set_cons_zero, List.set_cons_succ]
            refine wpAnyH_take (i := 10) (oi := ⟨some 47, _, _, _, _, _⟩) rfl (by kernel_rfl) (by kernel_rfl) (by kernel_rfl) (fun _ _ _ h => h) (yieldsIf_load_mid (by rfl) _ _ rfl _ _ rfl _ _ (fun w hw => by (try dsimp only at hw); go_split_ands; assumption) (by assumption) rfl (by assumption)) (by assumption) ?_
            try simp only [Act.put, List.setIfInBounds_toArray, List.set_cons_zero, List.set_cons_succ]
            refine wpAnyH_ready (rs := [11]) (by kernel_rfl) (by simp) ?_
            refine AllReadyH.cons rfl (fun K hK => ?_) (AllReadyH.nil)
            go_simp
            refine hK.out _ _ hH (fun hH2 => ?_)
            clear hK hH
            refine wpAnyH_done (by kernel_rfl) ?_ _
            change KK _ _
            refine HKK.out _ _ ?_
            clear hH2 hu hsz hsz2 hek hpm
            by_cases hxy : x = y
            · have HE33 := Lib.hid (HNX.out hxy)
              rw [decide_eq_true hxy]
              go_wp2_with fail
              exact HD.out _ _ 33 HE33.out (fun h => absurd h (by decide)) (fun _ => rfl) (by rw [← HW5.out]; exact drewN_below (drewN_below HB4.out q) 1)
            · have HEn := Lib.hid (HNY.out hxy)
              rw [decide_eq_false hxy]
              go_wp2_with fail
              go_roundw
              case rel => exact ⟨m + 1, q + 1, by omega, by omega, by go_num, (by show _ = _; rw [show min (m + 1) k = m + 1 by omega]; exact HEn.out), by rw [← HW5.out]; rfl⟩
              case measure => simp [intOf]; omega
          · have hml' : ¬ (m : Int) < k := by omega
            have HE0 : Hid (0 = wrongN X k 4096) := by
              show _ = _
              have h1 : adjS (lst Z4 k) k = false := by have := HA.out; rwa [show min m k = k by omega] at this
              rw [HE.out, if_neg (fun h => by rw [HD4.out.2 h] at h1; cases h1)]
            go_wp2_with fail
            exact HD.out _ _ 0 HE0.out (fun _ => ⟨Z4, Ad4, Cp4, HO4.out.later (drewN_below (Below.refl _ _) q), HOK.out⟩) (fun h => absurd rfl h) (drewN_below HB4.out q)
  · have HE : Hid (heldN X N 4096 = wrongN X N 4096) := (wrong_held h0).symm
    obtain ⟨z, hz⟩ : ∃ z, z = heldN X N 4096 := ⟨_, rfl⟩
    rw [← hz] at HE h0 ⊢
    have h1 : (z : Int) ≠ 0 := by omega
    have h2 : (((z : Nat) : Int) != 0) = true := by rw [bne_iff_ne]; exact h1
    clear hz
    go_wp2_with fail
    exact HD.out _ _ z HE.out (fun h => absurd h h0) (fun _ => rfl) HB1.out
end Go.Proofs.Ytkpbeibcfaenhaa

/- ledgerlaw3.asked of Normal. -/
namespace Go.Proofs.Ytkpbeibcfaenhaa
open Go.RowKit
def normM (X : Nat → Chg) (N : Nat) : Nat := if wrongN X N 4096 = 0 then N else 0
theorem norm_form {X : Nat → Chg} {N : Nat} {w w' : World} {e : Ending} (h : NormPost X N w e w') : ∃ A C Z, e = .returned (.tuple #[.slice A (normM X N) C, .int .i64 (wrongN X N 4096 : Nat)]) ∧ ChsAt w' A (normM X N) Z ∧ normM X N ≤ C ∧ (wrongN X N 4096 = 0 → NormOK X N Z) ∧ Below w.heap.size w w' := by
  obtain ⟨v, he, hb, h1, h2⟩ := h
  by_cases h0 : wrongN X N 4096 = 0
  · obtain ⟨Z, Ad, Cp, ho, hk⟩ := h1 h0
    obtain ⟨A, C, rfl, hc, hle, _⟩ := ho.form
    rw [show normM X N = N from if_pos h0]
    exact ⟨A, C, Z, he, hc, hle, fun _ => hk, hb⟩
  · rw [show normM X N = 0 from if_neg h0]
    exact ⟨none, 0, fun _ => default, by rw [he, h2 h0], ⟨Nat.zero_le _, fun k hk => by omega⟩, Nat.le_refl _, fun h => absurd h h0, hb⟩
theorem norm_nodup {X Z : Nat → Chg} {N : Nat} (h : NormOK X N Z) (hr : repN X N < 0) : (keysOf (lst Z N)).Nodup := by
  have h1 : (keysOf (lst X N)).Nodup := Classical.byContradiction fun hn => by have := nodup_rep.2 hn; omega
  rw [nodup_perm h.2]
  have : keysOf ((lst X N).map plainC) = keysOf (lst X N) := by
    unfold keysOf
    rw [List.map_map]
    exact List.map_congr_left fun x _ => plainC_key x
  rwa [this]
theorem chs_good {w : World} {A : Option Addr} {N : Nat} {Z : Nat → Chg} (h : ChsAt w A N Z) : ∀ x, x ∈ lst Z N → GoodK x := fun x hx => by
  obtain ⟨i, hi, rfl⟩ := mem_lst.1 hx
  obtain ⟨_, _, _, _, _, _, _, h1, h2, _⟩ := h.2 i hi
  exact ⟨h1, h2⟩
theorem lst_inj {Z Z' : Nat → Chg} {N : Nat} (h : lst Z N = lst Z' N) : ∀ k, k < N → Z k = Z' k := fun k hk => by
  have h1 := congrArg (fun l => l.getD k default) h
  exact (lst_getD hk).symm.trans (h1.trans (lst_getD hk))
theorem norm_unique {X Z Z' : Nat → Chg} {N : Nat} (h : NormOK X N Z) (h' : NormOK X N Z') (hg : ∀ x, x ∈ lst Z N → GoodK x) (hr : repN X N < 0) : ∀ k, k < N → Z k = Z' k :=
  lst_inj (sorted_unique (h.2.trans h'.2.symm) h.1 h'.1 hg (norm_nodup h hr))
theorem norm_same {X Z Z' : Nat → Chg} {N : Nat} {w : World} {A : Option Addr} (h : wrongN X N 4096 = 0 → NormOK X N Z) (h' : wrongN X N 4096 = 0 → NormOK X N Z') (hc : ChsAt w A (normM X N) Z) : ∀ k, k < normM X N → Z k = Z' k := fun k hk => by
  by_cases h0 : wrongN X N 4096 = 0
  · rw [show normM X N = N from if_pos h0] at hk hc
    exact norm_unique (h h0) (h' h0) (chs_good hc) (wrong_zero h0).2 k hk
  · rw [show normM X N = 0 from if_neg h0] at hk
    omega
set_option maxRecDepth 100000 in
set_option maxHeartbeats 1000000 in
theorem asked_normal : AskedLaw 6 := by
  intro A1 A2 A3 A4 N M c1 c2 c3 c4 X Y w h1 h2 h3 h4 k1 k2 k3 k4 n1 n2 m1 m2 s1 s2 v1 v2
  have HB := Lib.hid (fun W (hW : Below w.heap.size w W) => normal_any A1 N c1 X W (h1.below hW) s1 v1)
  have HC := Lib.hid (fun W (hW : Below w.heap.size w W) => refnormal_any A3 N c3 X W (h3.below hW) k3 s1 v1)
  clear h1 h2 h3 h4 v1 v2 n1 n2
  go_enter Try.func82, Try.ntmps82
  go_wp2_with fail
  refine (HB.out w (Below.refl _ _)).mono ?_
  intro e w1 hp
  obtain ⟨A5, c5, Z5, rfl, hc5, hl5, hk5, hb5⟩ := norm_form hp
  have HB5 := Lib.hid hb5
  have HC5 := Lib.hid hc5
  have HK5 := Lib.hid hk5
  clear hp hb5 hc5 hk5
  go_wp2_with fail
  refine (HC.out w1 HB5.out).mono ?_
  intro e w2 hp
  obtain ⟨A6, c6, Z6, rfl, hc6, hl6, hk6, hb6⟩ := norm_form hp
  have HB6 := Lib.hid (HB5.out.trans (hb6.mono HB5.out.size))
  have HC5' := Lib.hid (HC5.out.below hb6)
  have HS := Lib.hid (sameC_true A5 A6 (normM X N) c5 c6 Z5 Z6 w2 HC5'.out hc6 (norm_same HK5.out hk6 HC5'.out))
  clear hp hb6 hc6 hk6 HK5 HC5 HC5'
  obtain ⟨z, hz⟩ : ∃ z : Int, z = ((wrongN X N 4096 : Nat) : Int) := ⟨_, rfl⟩
  rw [← hz]
  have hq : (z == z) = true := by simp
  clear hz
  generalize normM X N = L at *
  go_wp2_with fail
  refine HS.out.mono ?_
  rintro e w3 ⟨rfl, q, hq3⟩
  have HB7 : Hid (Below w.heap.size w w3) := by show Below _ _ _; rw [hq3]; exact drewN_below HB6.out q
  clear hq3
  go_wp2_with fail
  go_ret
  exact ⟨rfl, HB7.out⟩
end Go.Proofs.Ytkpbeibcfaenhaa

/- What Fold answers, in plain Lean. -/
namespace Go.Proofs.Ytkpbeibcfaenhaa
open Go.RowKit
/-- In order, no key twice. -/
def SSorted (l : List Chg) : Prop := l.Pairwise fun x y => numK x.key < numK y.key
def AllGood (l : List Chg) : Prop := ∀ x, x ∈ l → GoodK x
theorem ssorted_of {l : List Chg} (h : Sorted l) (hg : AllGood l) (hn : (keysOf l).Nodup) : SSorted l := by
  induction l with
  | nil => exact List.Pairwise.nil
  | cons x l ih =>
    have h1 := List.pairwise_cons.1 h
    have h2 := List.pairwise_cons.1 hn
    refine List.pairwise_cons.2 ⟨fun y hy => ?_, ih h1.2 (fun z hz => hg z (List.mem_cons_of_mem _ hz)) h2.2⟩
    have h3 : numK x.key ≤ numK y.key := h1.1 y hy
    have h4 : x.key ≠ y.key := h2.1 y.key (List.mem_map_of_mem (f := (·.key)) hy)
    rcases Nat.lt_or_ge (numK x.key) (numK y.key) with h5 | h5
    · exact h5
    · have g1 := hg x List.mem_cons_self
      have g2 := hg y (List.mem_cons_of_mem _ hy)
      exact absurd (numK_inj g1.1 g2.1 g1.2 g2.2 (by omega)) h4
def foldL : List Chg → List Chg → List Chg
  | [], b => b
  | x :: a, [] => x :: a
  | x :: a, y :: b => if numK x.key < numK y.key then x :: foldL a (y :: b) else if x.key = y.key then y :: foldL a b else y :: foldL (x :: a) b
termination_by a b => a.length + b.length
def dedup : List Chg → List Chg
  | [] => []
  | [x] => [x]
  | x :: y :: r => if x.key = y.key then dedup (y :: r) else x :: dedup (y :: r)
theorem foldL_left (b : List Chg) : foldL [] b = b := by rw [foldL]
theorem foldL_right (a : List Chg) : foldL a [] = a := by
  cases a with
  | nil => rw [foldL]
  | cons x a => rw [foldL]
theorem dedup_cons {x : Chg} {l : List Chg} (h : ∀ y r, l = y :: r → x.key ≠ y.key) : dedup (x :: l) = x :: dedup l := by
  cases l with
  | nil => rfl
  | cons y r => rw [dedup, if_neg (h y r rfl)]
theorem key_ne {x y : Chg} (h : numK x.key < numK y.key) : x.key ≠ y.key := fun e => by rw [e] at h; omega
theorem merge_head {a b : List Chg} {z : Nat} (ha : ∀ x, x ∈ a → z < numK x.key) (hb : ∀ x, x ∈ b → z < numK x.key) {y : Chg} {r : List Chg} (h : a.merge b leC = y :: r) : z < numK y.key := by
  have hm : y ∈ a.merge b leC := by rw [h]; exact List.mem_cons_self
  rcases List.mem_merge.1 hm with h1 | h1
  · exact ha y h1
  · exact hb y h1
theorem dedup_merge : ∀ (n : Nat) (a b : List Chg), a.length + b.length ≤ n → SSorted a → SSorted b → AllGood a → AllGood b → dedup (a.merge b leC) = foldL a b := by
  have alone : ∀ l, SSorted l → dedup l = l := by
    intro l
    induction l with
    | nil => intro _; rfl
    | cons x l ih =>
      intro h
      have h1 := List.pairwise_cons.1 h
      rw [dedup_cons fun y r e => key_ne (h1.1 y (by rw [e]; exact List.mem_cons_self)), ih h1.2]
  intro n
  induction n with
  | zero =>
    intro a b hl _ _ _ _
    cases a with
    | nil =>
      cases b with
      | nil => rw [merge_none.1, foldL_left]; rfl
      | cons y b => simp at hl
    | cons x a => simp at hl
  | succ n ih =>
    intro a b hl ha hb hga hgb
    cases a with
    | nil => rw [merge_none.1, foldL_left, alone b hb]
    | cons x a =>
      cases b with
      | nil => rw [merge_none.2, foldL_right, alone _ ha]
      | cons y b =>
        have ha1 := List.pairwise_cons.1 ha
        have hb1 := List.pairwise_cons.1 hb
        have ga : AllGood a := fun z hz => hga z (List.mem_cons_of_mem _ hz)
        have gb : AllGood b := fun z hz => hgb z (List.mem_cons_of_mem _ hz)
        simp only [List.length_cons] at hl
        rw [merge_step, foldL]
        by_cases h1 : numK x.key < numK y.key
        · rw [if_pos (by omega), if_pos h1, dedup_cons fun z r e => key_ne (merge_head ha1.1 (fun q hq => by
            rcases List.mem_cons.1 hq with h2 | h2
            · rw [h2]; exact h1
            · have := hb1.1 q h2; omega) e), ih a (y :: b) (by simp only [List.length_cons]; omega) ha1.2 hb ga hgb]
        · rw [if_neg h1]
          by_cases h2 : x.key = y.key
          · rw [if_pos (by rw [h2]; exact Nat.le_refl _), if_pos h2]
            have hm : a.merge (y :: b) leC = y :: a.merge b leC := by
              cases a with
              | nil => rw [merge_none.1, merge_none.1]
              | cons x' a' =>
                have h3 := ha1.1 x' List.mem_cons_self
                rw [merge_step, if_neg (by rw [← h2]; omega)]
            rw [hm, dedup, if_pos h2, dedup_cons fun z r e => key_ne (merge_head (fun q hq => by rw [← h2]; exact ha1.1 q hq) hb1.1 e), ih a b (by omega) ha1.2 hb1.2 ga gb]
          · have g1 := hga x List.mem_cons_self
            have g2 := hgb y List.mem_cons_self
            have h3 : numK y.key < numK x.key := by
              rcases Nat.lt_or_ge (numK y.key) (numK x.key) with h | h
              · exact h
              · exact absurd (numK_inj g1.1 g2.1 g1.2 g2.2 (by omega)) h2
            rw [if_neg (by omega), if_neg h2, dedup_cons fun z r e => key_ne (merge_head (fun q hq => by
              rcases List.mem_cons.1 hq with h4 | h4
              · rw [h4]; exact h3
              · have := ha1.1 q h4; omega) hb1.1 e), ih (x :: a) b (by simp only [List.length_cons]; omega) ha hb1.2 hga gb]
/-- The changes in order, as they are answered. -/
def nrm (X : Nat → Chg) (N : Nat) : List Chg := ((lst X N).map plainC).mergeSort leC
theorem nrm_perm (X : Nat → Chg) (N : Nat) : (nrm X N).Perm ((lst X N).map plainC) := List.mergeSort_perm _ _
theorem nrm_length (X : Nat → Chg) (N : Nat) : (nrm X N).length = N := by rw [(nrm_perm X N).length_eq, List.length_map, lst_length]
theorem nrm_sorted (X : Nat → Chg) (N : Nat) : Sorted (nrm X N) := by
  have h := List.pairwise_mergeSort (le := leC) (fun x y z h1 h2 => by simp [leC] at *; omega) (fun x y => by simp [leC]; omega) ((lst X N).map plainC)
  exact h.imp fun h => (leC_iff _ _).1 h
theorem nrm_nodup {X : Nat → Chg} {N : Nat} (hr : repN X N < 0) : (keysOf (nrm X N)).Nodup := by
  have h1 : (keysOf (lst X N)).Nodup := Classical.byContradiction fun hn => by have := nodup_rep.2 hn; omega
  rw [nodup_perm (nrm_perm X N)]
  have : keysOf ((lst X N).map plainC) = keysOf (lst X N) := by
    unfold keysOf
    rw [List.map_map]
    exact List.map_congr_left fun x _ => plainC_key x
  rwa [this]
theorem nrm_good {X : Nat → Chg} {N : Nat} (h : ∀ i, i < N → GoodK (X i)) : AllGood (nrm X N) := fun x hx => by
  have h1 := (nrm_perm X N).subset hx
  obtain ⟨y, hy, rfl⟩ := List.mem_map.1 h1
  obtain ⟨i, hi, rfl⟩ := mem_lst.1 hy
  have h2 := h i hi
  exact ⟨by rw [plainC_key]; exact h2.1, by rw [plainC_key]; exact h2.2⟩
theorem nrm_ss {X : Nat → Chg} {N : Nat} (h : ∀ i, i < N → GoodK (X i)) (hr : repN X N < 0) : SSorted (nrm X N) := ssorted_of (nrm_sorted X N) (nrm_good h) (nrm_nodup hr)
theorem norm_nrm {X Z : Nat → Chg} {N : Nat} (h : NormOK X N Z) (hg : ∀ i, i < N → GoodK (X i)) (hr : repN X N < 0) : lst Z N = nrm X N :=
  (sorted_unique ((nrm_perm X N).trans h.2.symm) (nrm_sorted X N) h.1 (nrm_good hg) (nrm_nodup hr)).symm
def foldE (X : Nat → Chg) (N : Nat) (Y : Nat → Chg) (M : Nat) : Nat :=
  if wrongN X N 4096 = 0 then (if wrongN Y M 4096 = 0 then (if 64 < (foldL (nrm X N) (nrm Y M)).length then 31 else 0) else wrongN Y M 4096) else wrongN X N 4096
def foldO (X : Nat → Chg) (N : Nat) (Y : Nat → Chg) (M : Nat) : List Chg := if foldE X N Y M = 0 then foldL (nrm X N) (nrm Y M) else []
theorem foldL_length : ∀ (n : Nat) (a b : List Chg), a.length + b.length ≤ n → (foldL a b).length ≤ a.length + b.length := by
  intro n
  induction n with
  | zero =>
    intro a b h
    cases a with
    | nil => rw [foldL_left]; simp
    | cons x a => simp at h
  | succ n ih =>
    intro a b h
    cases a with
    | nil => rw [foldL_left]; simp
    | cons x a =>
      cases b with
      | nil => rw [foldL_right]; simp
      | cons y b =>
        simp only [List.length_cons] at h
        rw [foldL]
        split
        · have := ih a (y :: b) (by simp only [List.length_cons]; omega)
          simp only [List.length_cons] at this ⊢
          omega
        · split
          · have := ih a b (by omega)
            simp only [List.length_cons]
            omega
          · have := ih (x :: a) b (by simp only [List.length_cons]; omega)
            simp only [List.length_cons] at this ⊢
            omega
end Go.Proofs.Ytkpbeibcfaenhaa
