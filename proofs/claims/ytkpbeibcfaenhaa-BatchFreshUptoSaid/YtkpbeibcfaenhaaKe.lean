/- SortK, NormK (merged by merge_k.py) -/
import Derived.Test.YtkpbeibcfaenhaaGh
import Derived.Test.YtkpbeibcfaenhaaKa
import Derived.Test.YtkpbeibcfaenhaaGi
/- slices.SortFunc of a list of changes that is the call's own, with the values' addresses. (printed by gen_sortk.py) -/
namespace Go.Proofs.Ytkpbeibcfaenhaa
open Go.RowKit
section
variable {w : World} {base g N c : Nat} {X : Nat → Chg} {Ad : Nat → Option Addr} {Cp : Nat → Nat}
def SortedToK (base g N c : Nat) (X : Nat → Chg) (Ad : Nat → Option Addr) (Cp : Nat → Nat) (w : World) (w' : World) : Prop :=
  ∃ X' Ad' Cp', ChsOwn w' base (.slice (some ⟨g, 0, none⟩) N c) N X' Ad' Cp' ∧ Sorted (lst X' N) ∧ (lst X' N).Perm (lst X N) ∧ (∀ i, i < N → ∃ j, j < N ∧ X' i = X j ∧ Ad' i = Ad j ∧ Cp' i = Cp j) ∧ w.grownBy w' (some g) ∧ (vaOs X' Ad' Cp' N).Perm (vaOs X Ad Cp N)
theorem sort_endK (h : ChsOwn w base (.slice (some ⟨g, 0, none⟩) N c) N X Ad Cp) {d' : Array El} {n : Nat} {os : Array Obj} (hp : Go.Sort.PermIn 0 (elsOf X Ad Cp N).size (elsOf X Ad Cp N) d') (hs : Go.Sort.SortedIn (ltOf cmpE) 0 (elsOf X Ad Cp N).size d') :
    SortedToK base g N c X Ad Cp w (sortWorldK encE 34 w g 0 n d' os) := by
  have hds : d'.size = N := by rw [hp.1, elsOf_size]
  have hpl : d'.toList.Perm (elsOf X Ad Cp N).toList := by
    have h1 := hp.2.2
    rw [Array.extract_size] at h1
    rwa [← hp.1, Array.extract_size] at h1
  have hel : ∀ i, i < N → ∃ j, j < N ∧ d'[i]! = (elsOf X Ad Cp N)[j]! := fun i hi => by
    have hm : d'[i]! ∈ d'.toList := by
      rw [getElem!_pos d' i (by omega)]
      exact Array.mem_toList_iff.2 (Array.getElem_mem _)
    obtain ⟨j, hj, e⟩ := List.mem_iff_getElem.1 (hpl.subset hm)
    have hj' : j < N := by simpa [elsOf_size] using hj
    refine ⟨j, hj', ?_⟩
    rw [getElem!_pos (elsOf X Ad Cp N) j (by rw [elsOf_size]; exact hj')]
    simpa using e.symm
  have heq : ∀ i, i < N → ∃ j, j < N ∧ d'[i]!.x = X j ∧ d'[i]!.A = Ad j ∧ d'[i]!.C = Cp j := fun i hi => by
    obtain ⟨j, hj, e⟩ := hel i hi
    rw [elsOf_at hj, elOf_is (h.key j hj)] at e
    exact ⟨j, hj, by rw [e], by rw [e], by rw [e]⟩
  rcases h.own.2 with ⟨h0, _⟩ | ⟨g', cap, cur, e1, hg, hb, hnc, hcm, hsz, ht⟩
  · cases h0
  · injection e1 with e1 _ e3
    injection e1 with e1
    injection e1 with e1
    subst e1 e3
    have hgl : g < w.heap.size := (Array.getElem?_eq_some_iff.1 hb).1
    have hfd := flatK_flat d' N hds
    have hgr : w.grownBy (sortWorldK encE 34 w g 0 n d' os) (some g) := by
      refine ⟨rfl, rfl, rfl, by simp [sortWorldK, Go.Sort.putRowK, Go.Sort.putRow, Go.Sort.mapBlock, Go.Sort.ahead], fun k hk hne => ?_⟩
      unfold sortWorldK
      rw [Go.Sort.heap_grow_old _ _ (by simpa [Go.Sort.putRowK, Go.Sort.putRow, Go.Sort.mapBlock, Go.Sort.ahead] using hk)]
      have : g ≠ k := fun e => hne (by rw [e])
      simp [Go.Sort.putRowK, Go.Sort.putRow, Go.Sort.mapBlock, Go.Sort.ahead, Array.getElem?_modify, this]
    have hblk : (sortWorldK encE 34 w g 0 n d' os).heap[g]? = some (.cells (Go.Sort.putCells id 0 (Go.Sort.flatK encE 34 d') cur) 45 (0, 0)) := by
      unfold sortWorldK
      rw [Go.Sort.heap_grow_old _ _ (by simpa [Go.Sort.putRowK, Go.Sort.putRow, Go.Sort.mapBlock, Go.Sort.ahead] using hgl)]
      simp [Go.Sort.putRowK, Go.Sort.putRow, Go.Sort.mapBlock, Go.Sort.ahead, Array.getElem?_modify, hb, Go.Sort.onCells]
    have hfl := flat_length (X := fun i => d'[i]!.x) (Ad := fun i => d'[i]!.A) (Cp := fun i => d'[i]!.C) (n := N) (fun i _ => d'[i]!.ok.2)
    have htk : (Go.Sort.putCells id 0 (Go.Sort.flatK encE 34 d') cur).toList.take (N * 34) = flat (fun i => d'[i]!.x) (fun i => d'[i]!.A) (fun i => d'[i]!.C) N := by
      rw [hfd]
      apply List.ext_getElem?
      intro j
      by_cases hj : j < N * 34
      · rw [List.getElem?_take_of_lt hj, Array.getElem?_toList]
        have hjc : j < cur.size := by rw [hsz]; omega
        have hj2 : j < (flat (fun i => d'[i]!.x) (fun i => d'[i]!.A) (fun i => d'[i]!.C) N).length := by omega
        simp only [Go.Sort.putCells, Array.getElem?_mapIdx, Array.getElem?_eq_getElem hjc, Option.map_some]
        rw [if_pos ⟨by omega, by simpa using hj2⟩, List.getElem?_eq_getElem hj2, Nat.sub_zero, getElem!_pos _ j (by simpa using hj2)]
        simp
      · rw [List.getElem?_take_eq_none (by omega), List.getElem?_eq_none (by omega)]
    refine ⟨fun i => d'[i]!.x, fun i => d'[i]!.A, fun i => d'[i]!.C, ?_, ?_, ?_, heq, hgr, ?_⟩
    · refine { own := ⟨hfl ▸ rfl, .inr ⟨g, _, _, rfl, hg, hblk, hnc, hcm, by simp [Go.Sort.putCells, hsz], htk⟩⟩, key := fun i _ => d'[i]!.ok, val := fun i hi => ?_, apart := fun i hi h0 ad e => ?_ }
      · obtain ⟨j, hj, ex, ea, ec⟩ := heq i hi
        obtain ⟨h1, h2⟩ := h.val j hj
        rw [ex, ea, ec]
        exact ⟨h1.grownBy hgr (fun h0 ad e => h.apart j hj h0 ad e), h2⟩
      · obtain ⟨j, hj, ex, ea, ec⟩ := heq i hi
        rw [ex] at h0
        rw [ea] at e
        exact h.apart j hj h0 ad e
    · refine List.pairwise_iff_getElem.2 fun i j hi hj hij => ?_
      have hi' : i < N := by simpa [lst] using hi
      have hj' : j < N := by simpa [lst] using hj
      have h1 := hs i j (Nat.zero_le _) hij (by rw [elsOf_size]; exact hj')
      rw [ltE] at h1
      have h2 : ¬ numK d'[j]!.x.key < numK d'[i]!.x.key := of_decide_eq_false h1
      simp only [lst, List.getElem_map, List.getElem_range, ordC]
      omega
    · have e1 : lst (fun i => d'[i]!.x) N = d'.toList.map (·.x) := by
        apply List.ext_getElem
        · simp [lst, hds]
        · intro i h1 h2
          have hi : i < N := by simpa [lst] using h1
          simp only [lst, List.getElem_map, List.getElem_range]
          rw [getElem!_pos d' i (by omega)]
          simp
      have e2 : lst X N = (elsOf X Ad Cp N).toList.map (·.x) := by
        apply List.ext_getElem
        · simp [lst, elsOf_size]
        · intro i h1 h2
          have hi : i < N := by simpa [lst] using h1
          simp only [lst, elsOf, List.getElem_map, List.getElem_range]
          rw [elOf_is (h.key i hi)]
      rw [e1, e2]
      exact hpl.map _
    · have e1 : vaOs (fun i => d'[i]!.x) (fun i => d'[i]!.A) (fun i => d'[i]!.C) N = d'.toList.map fun el => byO (.slice el.A el.x.val.length el.C) el.x.val := by
        apply List.ext_getElem
        · simp [vaOs, hds]
        · intro i h1 h2
          have hi : i < N := by simpa [vaOs] using h1
          simp only [vaOs, List.getElem_map, List.getElem_range]
          rw [getElem!_pos d' i (by omega)]
          simp
      have e2 : vaOs X Ad Cp N = (elsOf X Ad Cp N).toList.map fun el => byO (.slice el.A el.x.val.length el.C) el.x.val := by
        apply List.ext_getElem
        · simp [vaOs, elsOf_size]
        · intro i h1 h2
          have hi : i < N := by simpa [vaOs] using h1
          simp only [vaOs, elsOf, List.getElem_map, List.getElem_range]
          rw [elOf_is (h.key i hi)]
      rw [e1, e2]
      exact hpl.map _
theorem sortK_any (h : ChsOwn w base (.slice (some ⟨g, 0, none⟩) N c) N X Ad Cp) (hN : N < 4611686018427387904) :
    Calls Try.prog 49 #[.slice (some ⟨g, 0, none⟩) N c, .func (.func 50) #[] #[]] w fun e w' => e = .returned (.tuple #[]) ∧ SortedToK base g N c X Ad Cp w w' := by
  have eg : ∀ args w, (callFunc 50 args).run Try.prog w = .ok (.enter 50 args) w := enters_of Try.func50 (by kernel_rfl) rfl
  have hH : Go.Sort.HoldsK encE 34 w g 0 (elsOf X Ad Cp N) := by
    intro j hj
    rw [elsOf_flat h.key] at hj ⊢
    have hl := flat_length (Ad := Ad) (Cp := Cp) (fun i hi => (h.key i hi).2)
    have hj' : j < N * 34 := by rw [← hl]; simpa using hj
    refine ⟨?_, World.ownsRow.frozenAt h.own _⟩
    rw [World.ownsRow.cellAt h.own _ (by rw [Nat.zero_add]; exact hj'), Nat.zero_add, getElem!_pos _ j hj]
    simp only [id, List.getElem_toArray]
    rw [List.getElem?_eq_getElem]
  have hgl := (h.own.lt g rfl).2
  have hcon := AnyQ.slices_SortFunc sortC 34 Try.isAgg45 Try.sizeOf45 encE encE_length encE_one cmpE swoE 50 #[] g 0 c (elsOf X Ad Cp N) w eg (cmpLays g 0 _ w) hH hgl (by rw [elsOf_size]; exact hN)
  change Calls Try.prog 49 _ _ _ at hcon
  rw [elsOf_size] at hcon
  refine hcon.mono ?_
  rintro e w' ⟨rfl, d', n, os, hp, hs, rfl⟩
  exact ⟨rfl, sort_endK h (by rw [elsOf_size]; exact hp) (by rw [elsOf_size]; exact hs)⟩
end
end Go.Proofs.Ytkpbeibcfaenhaa

/- batch.own, Normal, the values their own. (printed by gen_normk.py) -/
namespace Go.Proofs.Ytkpbeibcfaenhaa
open Go.RowKit
def ChRetK (x : Chg) (w : World) (e : Ending) (w' : World) : Prop := ∃ A C, e = .returned (.agg (chC x A C).toArray) ∧ OwnU w' w.heap.size (.slice A x.val.length C) x.val ∧ RB w' A x.val.length x.val ∧ x.val.length ≤ C ∧ C ≤ maxLen ∧ (A = none → C = 0) ∧ (∀ ad, A = some ad → w.heap.size ≤ ad.block) ∧ Below w.heap.size w w'
theorem own_far {w w' : World} {base g : Nat} {v : Value} {xs : List Nat} (h : OwnU w base v xs) (hg : w.grownBy w' (some g)) (hb : g < base) : OwnU w' base v xs := h.kept hg (by
  rcases hq : v.ownBlock with _ | k
  · exact .inl rfl
  · refine .inr fun e => ?_
    injection e with e
    have := h.ge k hq
    omega)
theorem own_endK {w w1 w2 w5 : World} {vl : List Nat} {A2 : Option Addr} {c2 : Nat} (h01 : w.heap.size < w1.heap.size) (h12 : w1.heap.size < w2.heap.size) (ho : OwnU w5 w2.heap.size (.slice A2 vl.length c2) vl) :
    ∀ w6, (w5.setCell ⟨w.heap.size, 33, none⟩ (.slice A2 vl.length c2)).grownBy w6 (some w1.heap.size) → OwnU w6 w.heap.size (.slice A2 vl.length c2) vl := fun w6 hg =>
  Own.mono (own_far (own_far ho (grown_setCell w5 (g := w.heap.size) 33 _) (by omega)) hg h12) (by omega)
set_option maxRecDepth 100000 in
set_option maxHeartbeats 1600000 in
theorem ownK_any (x : Chg) (A : Option Addr) (C : Nat) (w : World) (hk : x.key.length = 32) (hr : RB w A x.val.length x.val) (hl : x.val.length ≤ 140737488355328) (hnil : A = none → C = 0) :
    Calls Try.prog 48 #[.agg (chC x A C).toArray] w (ChRetK (plainC x) w) := by
  obtain ⟨ky, dl, vl⟩ := x
  have HR := Lib.hid hr
  have HK := Lib.hid hk
  have HN := Lib.hid hnil
  clear hr hk hnil
  go_enter Try.func48, Try.ntmps48
  cases dl
  · go_wp2_with (first
      | ((with_reducible refine stopAt (o := ⟨some 1, _, _, _, _, _⟩) ?_); refine boxNew (o := ⟨some 1, _, _, _, _, _⟩) (by rfl) 45 (.tmp 0) rfl _ rfl ?_; intro w1 HA1 HW1 HS1)
      | ((with_reducible refine stopAt (o := ⟨some 2, _, _, _, _, _⟩) ?_); refine allocNew (o := ⟨some 2, _, _, _, _, _⟩) (by rfl) 45 rfl _ _ info_chS ?_; intro w2 HA2 HW2 HS2; have HA1' := Lib.hid (BlkIs.below HA1.out HW2.out); have HW := Lib.hid (HW1.out.trans (HW2.out.mono HW1.out.size)); have b32 := ch_del (BlkIs.range HA1'.out) HK.out; have b33 := ch_val (BlkIs.range HA1'.out) HK.out; rw [Nat.zero_add] at b32 b33)
      | ((with_reducible refine stopAt (o := ⟨some 8, _, _, _, _, _⟩) ?_); refine appendRBAt und_bytes info_byte w2 (o := ⟨some 8, _, _, _, _, _⟩) rfl (.const (.slice none 0 0)) (.tmp 7) rfl w2.heap.size (.slice none 0 0) [] (Own.nil _ _ _) A vl.length C vl (HR.out.below HW.out) HN.out rfl rfl (by simpa using hl) (Nat.le_refl _) ?_; intro v8 w8 ho8 hg8 hl8; have HO8 : Hid (OwnU w8 w2.heap.size v8 vl) := ho8; have HB8 : Hid (Below w2.heap.size w2 w8) := (Below.refl _ _).grown hg8 (Nat.le_refl _) (fun k hk => by cases hk); obtain ⟨A2, c2, hv2, hr2, hlo2, hnil2, hle2⟩ := HO8.out.form; subst hv2; have hcm2 := own_max HO8.out; have HF := Lib.hid (own_end (c2 := c2) (by have := HS1.out; omega) (by have := HS2.out; omega) HB8.out HW.out HA1'.out HA2.out HK.out hr2 (fun ad e => (hlo2 ad e).1)); have c33 := HF.out.1; have f33 := HF.out.2.1; have HQ2 := Lib.hid (own_endK (w := w) (w1 := w1) (by have := HS1.out; omega) (by have := HS2.out; omega) HO8.out); have HV2 := Lib.hid (show vl.length ≤ c2 ∧ c2 ≤ maxLen ∧ (A2 = none → c2 = 0) from ⟨hle2, hcm2, hnil2⟩); clear ho8 hg8 hl8 hr2 hlo2 hnil2 hle2 hcm2 HO8)
      | ((with_reducible refine stopAt (o := ⟨some 10, _, _, _, _, _⟩) ?_); refine loadRange (o := ⟨some 10, _, _, _, _, _⟩) (by rfl) 45 (.tmp 1) rfl w.heap.size 0 _ rfl (BlkIs.range HF.out.2.2.1) row_chg (by rw [size_chg, chS_length _ _ HK.out]) ?_)
      | ((with_reducible refine stopAt (o := ⟨none, .store _ (.tmp 2) _, _, _, _, _⟩) ?_); refine storeV (o := ⟨none, _, _, _, _, _⟩) (by rfl) 45 (.tmp 2) (.tmp 10) rfl w1.heap.size _ _ 45 rfl rfl HF.out.2.2.2.1 (by rw [size_chg, chS_length _ _ HK.out]) (by rw [chS_length _ _ HK.out, chS_length _ _ (zs_length 32)]) (chS_one rfl) ?_; intro w6 HA6 HG6 HS6))
    refine cells_ret (g := w1.heap.size) rfl rfl HA6.out row_chg (by rw [size_chg, chS_length _ _ HK.out]) rfl ?_
    obtain ⟨h1, h2, h3⟩ := HF.out.2.2.2.2 _ HG6.out
    exact ⟨A2, c2, rfl, HQ2.out _ HG6.out, h1, HV2.out.1, HV2.out.2.1, HV2.out.2.2, h2, h3⟩
  · go_wp2_with (first
      | ((with_reducible refine stopAt (o := ⟨some 1, _, _, _, _, _⟩) ?_); refine boxNew (o := ⟨some 1, _, _, _, _, _⟩) (by rfl) 45 (.tmp 0) rfl _ rfl ?_; intro w1 HA1 HW1 HS1)
      | ((with_reducible refine stopAt (o := ⟨some 2, _, _, _, _, _⟩) ?_); refine allocNew (o := ⟨some 2, _, _, _, _, _⟩) (by rfl) 45 rfl _ _ info_chS ?_; intro w2 HA2 HW2 HS2; have HA1' := Lib.hid (BlkIs.below HA1.out HW2.out); have HW := Lib.hid (HW1.out.trans (HW2.out.mono HW1.out.size)); have b32 := ch_del (BlkIs.range HA1'.out) HK.out; rw [Nat.zero_add] at b32; have HF := Lib.hid (own_end (A2 := none) (c2 := 0) (vl := []) (by have := HS1.out; omega) (by have := HS2.out; omega) (Below.refl _ _) HW.out HA1'.out HA2.out HK.out (RB.nil _ _) (fun ad e => by cases e)); have c33 := HF.out.1; have f33 := HF.out.2.1)
      | ((with_reducible refine stopAt (o := ⟨some 10, _, _, _, _, _⟩) ?_); refine loadRange (o := ⟨some 10, _, _, _, _, _⟩) (by rfl) 45 (.tmp 1) rfl w.heap.size 0 _ rfl (BlkIs.range HF.out.2.2.1) row_chg (by rw [size_chg, chS_length _ _ HK.out]) ?_)
      | ((with_reducible refine stopAt (o := ⟨none, .store _ (.tmp 2) _, _, _, _, _⟩) ?_); refine storeV (o := ⟨none, _, _, _, _, _⟩) (by rfl) 45 (.tmp 2) (.tmp 10) rfl w1.heap.size _ _ 45 rfl rfl HF.out.2.2.2.1 (by rw [size_chg, chS_length _ _ HK.out]) (by rw [chS_length _ _ HK.out, chS_length _ _ (zs_length 32)]) (chS_one rfl) ?_; intro w6 HA6 HG6 HS6))
    refine cells_ret (g := w1.heap.size) rfl rfl HA6.out row_chg (by rw [size_chg, chS_length _ _ HK.out]) rfl ?_
    obtain ⟨h1, h2, h3⟩ := HF.out.2.2.2.2 _ HG6.out
    exact ⟨none, 0, rfl, Own.nil _ _ _, h1, Nat.le_refl _, Nat.zero_le _, fun _ => rfl, h2, h3⟩
def NormPostK (X : Nat → Chg) (N : Nat) (w : World) (e : Ending) (w' : World) : Prop :=
  ∃ v, e = .returned (.tuple #[v, .int .i64 (wrongN X N 4096 : Nat)]) ∧ Below w.heap.size w w' ∧ (wrongN X N 4096 = 0 → ∃ Z Ad Cp, ChsAll w' w.heap.size v N Z Ad Cp ∧ NormOK X N Z) ∧ (wrongN X N 4096 ≠ 0 → v = .slice none 0 0)
set_option maxRecDepth 100000 in
set_option maxHeartbeats 4000000 in
theorem normK_any (A : Option Addr) (N c : Nat) (X : Nat → Chg) (w : World) (hx : ChsAt w A N X) (hn : N * 64 ≤ 140737488355328) (hv : ∀ k, k < N → (X k).val.length ≤ 140737488355328) :
    Calls Try.prog 30 #[.slice A N c] w (NormPostK X N w) := by
  have HX := Lib.hid hx
  have HV := Lib.hid hv
  have HH := Lib.hid (held_any A N c 4096 X w hx (by omega))
  clear hx hv
  have HD : Hid (∀ v w' (e : Nat), e = wrongN X N 4096 → (e = 0 → ∃ Z Ad Cp, ChsAll w' w.heap.size v N Z Ad Cp ∧ NormOK X N Z) → (e ≠ 0 → v = .slice none 0 0) → Below w.heap.size w w' → NormPostK X N w (.returned (.tuple #[v, .int .i64 (e : Nat)])) w') := fun v w' e he h1 h2 h3 => by
    subst he
    exact ⟨v, rfl, h3, h1, h2⟩
  generalize NormPostK X N w = R at *
  go_enter Try.func30, Try.ntmps30
  go_wp2_with fail
  refine HH.out.mono ?_
  rintro e w1 ⟨rfl, hb1⟩
  have HB1 := Lib.hid hb1
  clear hb1
  by_cases h0 : heldN X N 4096 = 0
  · have HE : Hid (wrongN X N 4096 = if 0 ≤ repN X N then 33 else 0) := by show _ = _; unfold wrongN; rw [if_pos h0]
    rw [h0]
    obtain ⟨i, hi, hz, hs, hby⟩ := info_parts info_chg3
    have hN4 := (heldN_le h0).1
    have hib : i.bytes * N ≤ 281474976710656 := by rw [hby]; omega
    clear h0
    go_wp2_with ((with_reducible refine stopAt (o := ⟨some 16, _, _, _, _, _⟩) ?_); refine wpList_make_own w1 (o := ⟨some 16, _, _, _, _, _⟩) rfl (.const (.int .i64 0)) (.tmp 15) 30 rfl w.heap.size 45 i _ 34 und_chl hi hz hs .i64 .i64 _ N rfl rfl rfl hib (by unfold maxLen; omega) HB1.out.size ?_; intro w2 ho2 hg2; have HO2 := Lib.hid ho2; have HB2 : Hid (Below w.heap.size w w2) := HB1.out.grown hg2 HB1.out.size (fun k hk => by cases hk); clear ho2 hg2)
    clear hib hi hz hs hby
    go_loopw [5, 19] (fun v i wr => ∃ k : Nat, k ≤ N ∧ i = .int .i64 k ∧ (∃ Z Ad Cp, Hid (ChsAll wr w.heap.size v k Z Ad Cp) ∧ Hid (lst Z k = (lst X k).map plainC)) ∧ Hid (k = 0 → ∃ g c, v = .slice (some ⟨g, 0, none⟩) 0 c) ∧ Hid (Below w.heap.size w wr)) (fun _ i _ => N - (intOf i).toNat)
    case atStart => exact ⟨0, by omega, rfl, ⟨fun _ => default, fun _ => none, fun _ => 0, ChsAll.made HO2.out, rfl⟩, (fun _ => ⟨_, _, rfl⟩), HB2.out⟩
    case round =>
      clear HO2 HB2
      obtain ⟨k, hk, rfl, ⟨Z, Ad, Cp, HO, HZ⟩, HH0, HB⟩ := hrel
      obtain ⟨w3, rfl⟩ : ∃ w3, w3 = wr := ⟨_, rfl⟩
      by_cases hlt : k < N
      · have hlt' : (k : Int) < N := by omega
        obtain ⟨b, o, Av, Cv, rfl, hb, hr, hkB, hkl, hvr, hvC, hCm, hnil⟩ := (HX.out.below HB.out).2 k hlt
        have HR := Lib.hid hr
        have HZn : Hid (lst (upd Z k (plainC (X k))) (k + 1) = (lst X (k + 1)).map plainC) := by show _ = _; rw [lst_upd, HZ.out, lst_succ, List.map_append]; rfl
        have hvl := HV.out k hlt
        have HK : Hid (IsB (X k).key ∧ (X k).key.length = 32) := ⟨hkB, hkl⟩
        have HVR := Lib.hid (show RB w3 Av (X k).val.length (X k).val ∧ (Av = none → Cv = 0) from ⟨hvr, hnil⟩)
        clear hr hkB hkl hvr hvC hCm hnil hb
        have hsz : (Try.prog.info? 45).map (·.size) = some (chC (X k) Av Cv).length := by rw [size_chg, chC_length HK.out.2]
        generalize X k = x at *
        go_wp2_with (first
          | ((with_reducible refine stopAt (o := ⟨some 22, _, _, _, _, _⟩) ?_); refine loadRange (o := ⟨some 22, _, _, _, _, _⟩) (by rfl) 45 (.tmp 21) rfl b (o + k * 34) (chC x Av Cv) rfl HR.out row_chg hsz ?_)
          | ((with_reducible refine stopAt (o := ⟨some 7, _, _, _, _, _⟩) ?_); refine allocNew (o := ⟨some 7, _, _, _, _, _⟩) (by rfl) 45 rfl _ _ info_chS ?_; intro w4 HA4 HW4 HS4)
          | ((with_reducible refine stopAt (o := ⟨none, .store _ (.tmp 7) _, _, _, _, _⟩) ?_); refine storeV (o := ⟨none, _, _, _, _, _⟩) (by rfl) 45 (.tmp 7) (.tmp 22) rfl w3.heap.size _ _ 45 rfl rfl HA4.out hsz (by rw [chC_length HK.out.2, chS_length _ _ (zs_length 32)]) chC_one ?_; intro w5 HA5 HG5 HS5; have HO5 := Lib.hid (HO.out.later ((HW4.out).grown HG5.out HW4.out.size (fun k hk => by injection hk with hk; omega))); have HN := Lib.hid (box_next HB.out HO.out.own (A := none) (c := 0) (vl := []) ⟨RB.nil _ _, Nat.le_refl _, Nat.zero_le _, fun _ => rfl⟩ HW4.out HG5.out); have HVR5 : Hid (RB w5 Av x.val.length x.val) := (HVR.out.1.below ((HW4.out).grown HG5.out HW4.out.size (fun k hk => by injection hk with hk; omega))); have HZ5 : Hid (w3.heap.size < w5.heap.size) := BlkIs.lt HA5.out; clear HA4 HW4 HG5)
          | ((with_reducible refine stopAt (o := ⟨some 24, _, _, _, _, _⟩) ?_); refine loadRange (o := ⟨some 24, _, _, _, _, _⟩) (by rfl) 45 (.tmp 7) rfl w3.heap.size 0 _ rfl (BlkIs.range HA5.out) row_chg hsz ?_))
        refine (ownK_any x Av Cv w5 HK.out.2 HVR5.out hvl HVR.out.2).mono ?_
        rintro e w6 ⟨A6, c6, rfl, hov6, hr6, hle6, hcm6, hnil6, hlo6, hb6⟩
        have HB6 := Lib.hid (HN.out.1.trans (hb6.mono HN.out.1.size))
        have HO6 := Lib.hid (HO5.out.later hb6)
        have HKp : Hid (IsB (plainC x).key ∧ (plainC x).key.length = 32) := by rw [plainC_key]; exact HK.out
        have HFR := Lib.hid (HO5.out.fresh (u := .slice A6 (plainC x).val.length c6) (Nat.le_refl _) (fun B hB => hov6.ge B hB))
        have HV6 : Hid (OwnU w6 w.heap.size (.slice A6 (plainC x).val.length c6) (plainC x).val) := Own.mono hov6 HN.out.1.size
        clear hov6 HO5 hr6 hle6 hcm6 hnil6 hlo6 hb6 HVR HVR5 HA5 HN hsz HR HK
        generalize plainC x = y at *
        go_wp2_with (first
          | ((with_reducible refine stopAt (o := ⟨some 26, _, _, _, _, _⟩) ?_); refine buildSlice1 (o := ⟨some 26, _, _, _, _, _⟩) rfl w6 30 45 _ 34 (.tmp 25) rfl und_chl info_chg (by decide) (by decide) (chC y A6 c6).toArray rfl (by rw [List.size_toArray, chC_length HKp.out.2]) ?_)
          | ((with_reducible refine stopAt (o := ⟨some 27, _, _, _, _, _⟩) ?_); refine append1C (o := ⟨some 27, _, _, _, _, _⟩) und_chl info_chg3 rfl w6 rfl (.tmp 23) (.tmp 26) rfl w.heap.size u5 k _ HO6.out.own.own (chC y A6 c6) (chC_length HKp.out.2) chC_one rfl rfl (by omega) (by omega) HB6.out.size ?_; intro v7 w7 ho7 hg7 hl7; have HO7 := Lib.hid (HO6.out.more HKp.out HV6.out HFR.out.1 HFR.out.2 ho7 hg7 hl7); have HB7 : Hid (Below w.heap.size w w7) := HB6.out.grown hg7 HB6.out.size HO6.out.own.ge; clear ho7 hg7 hl7))
        go_roundw
        case rel => exact ⟨k + 1, by omega, by go_num, ⟨_, _, _, HO7.out, HZn.out⟩, (fun h => by omega), HB7.out⟩
        case measure => simp [intOf]; omega
      · have hnlt : ¬ (k : Int) < N := by omega
        obtain rfl : k = N := by omega
        obtain ⟨g, cc, rfl⟩ := HO.out.own.head HH0.out
        go_wp2_with fail
        have HCO := Lib.hid (sortK_any (c := cc) HO.out.own (by omega))
        have hgg := (HO.out.own.own.lt g rfl).1
        refine HCO.out.mono ?_
        rintro e w4 ⟨rfl, Z4, Ad4, Cp4, ho4, hs4, hp4, _, hg4, hpv⟩
        have HB4 : Hid (Below w.heap.size w w4) := HB.out.grown hg4 HB.out.size (fun j hj => by injection hj with hj; omega)
        have HO4 := Lib.hid (HO.out.sorted ho4 hg4 hpv)
        have HOK : Hid (NormOK X k Z4) := ⟨hs4, hp4.trans (by rw [HZ.out])⟩
        have HD4 := Lib.hid (adj_rep HOK.out ho4.key)
        have HC : Hid (ChsAt w4 (some ⟨g, 0, none⟩) k Z4) := by
          obtain ⟨A', C', e', h, _⟩ := ho4.form
          injection e' with e1 e2 e3
          rw [e1]
          exact h
        have hu := und_key
        clear ho4 hs4 hp4 hg4 hpv HCO HO HZ HH0 hgg
        go_wp2_with fail
        go_loopw [8] (fun i wr => ∃ m q : Nat, 1 ≤ m ∧ (m ≤ k ∨ k = 0) ∧ i = .int .i64 m ∧ Hid (adjS (lst Z4 k) (min m k) = false) ∧ wr = w4.drewN q) (fun i _ => k - (intOf i).toNat)
        case atStart => exact ⟨1, 0, by omega, by omega, rfl, (by show _ = _; rcases Nat.eq_zero_or_pos k with h | h
                                                                  · rw [h]; rfl
                                                                  · rw [show min 1 k = 1 by omega]; simp [adjS]), rfl⟩
        case round =>
          obtain ⟨m, q, h1m, hmk, rfl, HA, rfl⟩ := hrel
          by_cases hml : m < k
          · have hml' : (m : Int) < k := by omega
            obtain ⟨p, hp⟩ : ∃ p, m - 1 = p := ⟨_, rfl⟩
            have hpm : IntKind.i64.wrap ((m : Int) - 1) = (p : Int) := by rw [IntWalk.i64_in _ (by omega)]; omega
            have hp0 : (0 : Int) ≤ (p : Int) := by omega
            have hpk : (p : Int) < k := by omega
            have hpk2 : p < k := by omega
            obtain ⟨b, o, Av, Cv, e1, hb, hr, hkB, hkl, hq1⟩ := HC.out.2 m hml
            obtain ⟨b', o', Av', Cv', e2, hb', hr', hkB', hkl', hq2⟩ := HC.out.2 p hpk2
            injection e1 with e1
            injection e1 with e1 e3 e4
            clear e4
            subst e1 e3
            injection e2 with e2
            injection e2 with e2 e3 e4
            clear e4
            subst e2 e3
            have a1 := ch_key hr
            have a2 := ch_key hr'
            rw [Nat.zero_add] at a1 a2
            have hsz : (Try.prog.info? 25).map (·.size) = some (bvs (Z4 m).key).length := by rw [size_key]; simp [bvs, hkl]
            have hsz2 : (Try.prog.info? 25).map (·.size) = some (bvs (Z4 p).key).length := by rw [size_key]; simp [bvs, hkl']
            have hek : ∀ w, (Op.equalIn 10000 25 (.agg (bvs (Z4 m).key).toArray) (.agg (bvs (Z4 p).key).toArray)).run Try.prog w = .ok (decide ((Z4 m).key = (Z4 p).key)) w := fun w => key_eq w _ _ hkB hkB' hkl hkl'
            have HNX : Hid ((Z4 m).key = (Z4 p).key → 33 = wrongN X k 4096) := fun h => by
              rw [HE.out, if_pos (HD4.out.1 (adjS_at hml (by omega) (by rw [lst_getD hml, hp, lst_getD hpk2]; exact h)))]
            have HNY : Hid (¬ (Z4 m).key = (Z4 p).key → adjS (lst Z4 k) (m + 1) = false) := fun h => by
              have h1 := HA.out
              rw [show min m k = m by omega] at h1
              rw [adjS, h1, lst_getD hml, hp, lst_getD hpk2, decide_eq_false h]
              simp
            obtain ⟨w5, hw5⟩ : ∃ w5, w4.drewN q = w5 := ⟨_, rfl⟩
            have HW5 := Lib.hid hw5
            have KS : Hid (∀ j, (w5.drewN j).rangeAt g (m * 34) (bvs (Z4 m).key) ∧ (w5.drewN j).rangeAt g (p * 34) (bvs (Z4 p).key)) := fun j => by
              rw [← hw5]
              exact ⟨a1, a2⟩
            rw [hw5]
            clear hr hr' hkB hkl hkB' hkl' a1 a2 hw5 hp hq1 hq2 hb hb'
            generalize (Z4 m).key = x at *
            generalize (Z4 p).key = y at *
            go_wp2_with fail
            rename_i KK hKK
            have HKK := Lib.hid hKK
            clear hKK
            refine wp_region_held_drew (S := fun w' => w'.rangeAt g (m * 34) (bvs x) ∧ w'.rangeAt g (p * 34) (bvs y)) (by kernel_rfl) (KS.out 1) fun hH => ?_
            refine wpAnyH_take (i := 0) (oi := ⟨some 37, _, _, _, _, _⟩) rfl (by kernel_rfl) (by kernel_rfl) (by kernel_rfl) (fun _ _ _ h => h) (Or.inl ⟨by rfl, fun w hw => by ((try dsimp only at hw); go_split_ands; go_simp; with_reducible rfl)⟩) (by assumption) ?_
            try simp only [Act.put, List.setIfInBounds_toArray, List.set_cons_zero, List.set_cons_succ]
            refine wpAnyH_take (i := 1) (oi := ⟨some 38, _, _, _, _, _⟩) rfl (by kernel_rfl) (by kernel_rfl) (by kernel_rfl) (fun _ _ _ h => h) (Or.inl ⟨by rfl, fun w hw => by ((try dsimp only at hw); go_split_ands; go_simp; with_reducible rfl)⟩) (by assumption) ?_
            try simp only [Act.put, List.setIfInBounds_toArray, List.set_cons_zero, List.set_cons_succ]
            refine wpAnyH_take (i := 2) (oi := ⟨some 39, _, _, _, _, _⟩) rfl (by kernel_rfl) (by kernel_rfl) (by kernel_rfl) (fun _ _ _ h => h) (Or.inl ⟨by rfl, fun w hw => by ((try dsimp only at hw); go_split_ands; go_simp; with_reducible rfl)⟩) (by assumption) ?_
            try simp only [Act.put, List.setIfInBounds_toArray, List.set_cons_zero, List.set_cons_succ]
            refine wpAnyH_take (i := 3) (oi := ⟨some 40, _, _, _, _, _⟩) rfl (by kernel_rfl) (by kernel_rfl) (by kernel_rfl) (fun _ _ _ h => h) (Or.inl ⟨by rfl, fun w hw => by ((try dsimp only at hw); go_split_ands; go_simp; with_reducible rfl)⟩) (by assumption) ?_
            try simp only [Act.put, List.setIfInBounds_toArray, List.set_cons_zero, List.set_cons_succ]
            refine wpAnyH_take (i := 4) (oi := ⟨some 41, _, _, _, _, _⟩) rfl (by kernel_rfl) (by kernel_rfl) (by kernel_rfl) (fun _ _ _ h => h) (yieldsIf_load_mid (by rfl) _ _ rfl _ _ rfl _ _ (fun w hw => by (try dsimp only at hw); go_split_ands; assumption) (by assumption) rfl (by assumption)) (by assumption) ?_
            try simp only [Act.put, List.setIfInBounds_toArray, List.set_cons_zero, List.set_cons_succ]
            refine wpAnyH_take (i := 5) (oi := ⟨some 42, _, _, _, _, _⟩) rfl (by kernel_rfl) (by kernel_rfl) (by kernel_rfl) (fun _ _ _ h => h) (Or.inl ⟨by rfl, fun w hw => by ((try dsimp only at hw); go_split_ands; go_simp; with_reducible rfl)⟩) (by assumption) ?_
            try simp only [Act.put, List.setIfInBounds_toArray, List.set_cons_zero, List.set_cons_succ]
            refine wpAnyH_take (i := 6) (oi := ⟨some 43, _, _, _, _, _⟩) rfl (by kernel_rfl) (by kernel_rfl) (by kernel_rfl) (fun _ _ _ h => h) (Or.inl ⟨by rfl, fun w hw => by ((try dsimp only at hw); go_split_ands; go_simp; with_reducible rfl)⟩) (by assumption) ?_
            try simp only [Act.put, List.setIfInBounds_toArray, List.set_cons_zero, List.set_cons_succ]
            refine wpAnyH_take (i := 7) (oi := ⟨some 44, _, _, _, _, _⟩) rfl (by kernel_rfl) (by kernel_rfl) (by kernel_rfl) (fun _ _ _ h => h) (Or.inl ⟨by rfl, fun w hw => by ((try dsimp only at hw); go_split_ands; go_simp; with_reducible rfl)⟩) (by assumption) ?_
            try simp only [Act.put, List.setIfInBounds_toArray, List.set_cons_zero, List.set_cons_succ]
            refine wpAnyH_take (i := 8) (oi := ⟨some 45, _, _, _, _, _⟩) rfl (by kernel_rfl) (by kernel_rfl) (by kernel_rfl) (fun _ _ _ h => h) (Or.inl ⟨by rfl, fun w hw => by ((try dsimp only at hw); go_split_ands; go_simp; with_reducible rfl)⟩) (by assumption) ?_
            try simp only [Act.put, List.setIfInBounds_toArray, List.set_cons_zero, List.set_cons_succ]
            refine wpAnyH_take (i := 9) (oi := ⟨some 46, _, _, _, _, _⟩) rfl (by kernel_rfl) (by kernel_rfl) (by kernel_rfl) (fun _ _ _ h => h) (Or.inl ⟨by rfl, fun w hw => by ((try dsimp only at hw); go_split_ands; go_simp; with_reducible rfl)⟩) (by assumption) ?_
            try simp only [Act.put, List.setIfInBounds_toArray, List.set_cons_zero, List.set_cons_succ]
            refine wpAnyH_take (i := 10) (oi := ⟨some 47, _, _, _, _, _⟩) rfl (by kernel_rfl) (by kernel_rfl) (by kernel_rfl) (fun _ _ _ h => h) (yieldsIf_load_mid (by rfl) _ _ rfl _ _ rfl _ _ (fun w hw => by (try dsimp only at hw); go_split_ands; assumption) (by assumption) rfl (by assumption)) (by assumption) ?_
            try simp only [Act.put, List.setIfInBounds_toArray, List.set_cons_zero, List.set_cons_succ]
            refine wpAnyH_ready (rs := [11]) (by kernel_rfl) (by simp) ?_
            refine AllReadyH.cons rfl (fun K hK => ?_) (AllReadyH.nil)
            go_simp
            refine hK.out _ _ hH (fun hH2 => ?_)
            clear hK hH
            refine wpAnyH_done (by kernel_rfl) ?_ _
            change KK _ _
            refine HKK.out _ _ ?_
            clear hH2 hu hsz hsz2 hek hpm
            by_cases hxy : x = y
            · have HE33 := Lib.hid (HNX.out hxy)
              rw [decide_eq_true hxy]
              go_wp2_with fail
              exact HD.out _ _ 33 HE33.out (fun h => absurd h (by decide)) (fun _ => rfl) (by rw [← HW5.out]; exact drewN_below (drewN_below HB4.out q) 1)
            · have HEn := Lib.hid (HNY.out hxy)
              rw [decide_eq_false hxy]
              go_wp2_with fail
              go_roundw
              case rel => exact ⟨m + 1, q + 1, by omega, by omega, by go_num, (by show _ = _; rw [show min (m + 1) k = m + 1 by omega]; exact HEn.out), by rw [← HW5.out]; rfl⟩
              case measure => simp [intOf]; omega
          · have hml' : ¬ (m : Int) < k := by omega
            have HE0 : Hid (0 = wrongN X k 4096) := by
              show _ = _
              have h1 : adjS (lst Z4 k) k = false := by have := HA.out; rwa [show min m k = k by omega] at this
              rw [HE.out, if_neg (fun h => by rw [HD4.out.2 h] at h1; cases h1)]
            go_wp2_with fail
            exact HD.out _ _ 0 HE0.out (fun _ => ⟨Z4, Ad4, Cp4, HO4.out.later (drewN_below (Below.refl _ _) q), HOK.out⟩) (fun h => absurd rfl h) (drewN_below HB4.out q)
  · have HE : Hid (heldN X N 4096 = wrongN X N 4096) := (wrong_held h0).symm
    obtain ⟨z, hz⟩ : ∃ z, z = heldN X N 4096 := ⟨_, rfl⟩
    rw [← hz] at HE h0 ⊢
    have h1 : (z : Int) ≠ 0 := by omega
    have h2 : (((z : Nat) : Int) != 0) = true := by rw [bne_iff_ne]; exact h1
    clear hz
    go_wp2_with fail
    exact HD.out _ _ z HE.out (fun h => absurd h h0) (fun _ => rfl) HB1.out
end Go.Proofs.Ytkpbeibcfaenhaa
