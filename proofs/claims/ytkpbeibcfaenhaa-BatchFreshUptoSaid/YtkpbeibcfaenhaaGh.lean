/- SortLay, CmpK, SortC (merged by merge_k.py) -/
import Derived.Shelf.SlSortCmp.WholeK
import Derived.Test.YtkpbeibcfaenhaaChecked
import Derived.Test.YtkpbeibcfaenhaaGd
/- slices.SortFunc at lists of changes: where it stands in the program (printed by laytext.py, the numbers of seat Ytkpbeibcfaenhaa). -/
namespace Go.Proofs.Ytkpbeibcfaenhaa
open Go.Shelf
def sortC_ren : Go.Shelf.Ren := ⟨fun | 6 => 49 | 15 => 62 | 14 => 61 | 28 => 76 | 29 => 77 | 20 => 68 | 21 => 69 | 22 => 70 | 23 => 71 | 24 => 72 | 25 => 73 | 26 => 74 | 27 => 75 | 46 => 84 | 47 => 85 | 48 => 86 | 49 => 87 | 50 => 88 | 57 => 94 | n => n, fun | 22 => 30 | 24 => 45 | 25 => 82 | 3 => 3 | 39 => 71 | 0 => 0 | 53 => 102 | 55 => 104 | 4 => 4 | 46 => 95 | 45 => 94 | 50 => 99 | 5 => 5 | 9 => 9 | 66 => 109 | 70 => 113 | 76 => 122 | 77 => 123 | n => n, fun | n => n⟩
theorem sortC : Go.Proofs.SlLaysF0.n6 Try.prog sortC_ren := {
  mixed := by kernel_rfl
  f6 := ⟨Try.f49.name, by decide, Try.func49.trans (congrArg some (by kernel_rfl))⟩
  f14 := ⟨Try.f61.name, by decide, Try.func61.trans (congrArg some (by kernel_rfl))⟩
  f15 := Try.func62.trans (congrArg some (by kernel_rfl))
  f20 := ⟨Try.f68.name, by decide, Try.func68.trans (congrArg some (by kernel_rfl))⟩
  f21 := ⟨Try.f69.name, by decide, Try.func69.trans (congrArg some (by kernel_rfl))⟩
  f22 := ⟨Try.f70.name, by decide, Try.func70.trans (congrArg some (by kernel_rfl))⟩
  f23 := ⟨Try.f71.name, by decide, Try.func71.trans (congrArg some (by kernel_rfl))⟩
  f24 := ⟨Try.f72.name, by decide, Try.func72.trans (congrArg some (by kernel_rfl))⟩
  f25 := ⟨Try.f73.name, by decide, Try.func73.trans (congrArg some (by kernel_rfl))⟩
  f26 := ⟨Try.f74.name, by decide, Try.func74.trans (congrArg some (by kernel_rfl))⟩
  f27 := ⟨Try.f75.name, by decide, Try.func75.trans (congrArg some (by kernel_rfl))⟩
  f28 := Try.func76.trans (congrArg some (by kernel_rfl))
  f29 := Try.func77.trans (congrArg some (by kernel_rfl))
  f46 := ⟨Try.f84.name, by decide, Try.func84.trans (congrArg some (by kernel_rfl))⟩
  f47 := Try.func85.trans (congrArg some (by kernel_rfl))
  f48 := Try.func86.trans (congrArg some (by kernel_rfl))
  f49 := ⟨Try.f87.name, by decide, Try.func87.trans (congrArg some (by kernel_rfl))⟩
  f50 := ⟨Try.f88.name, by decide, Try.func88.trans (congrArg some (by kernel_rfl))⟩
  f57 := ⟨Try.f94.name, by decide, Try.func94.trans (congrArg some (by kernel_rfl))⟩
  t0 := Try.underlying0
  a0 := Try.isAgg0
  z0 := Try.sizeOf0
  v0 := Try.zeroValue0
  t3 := Try.underlying3
  a3 := Try.isAgg3
  z3 := Try.sizeOf3
  v3 := Try.zeroValue3
  t4 := Try.underlying4
  a4 := Try.isAgg4
  z4 := Try.sizeOf4
  v4 := Try.zeroValue4
  t5 := Try.underlying5
  a5 := Try.isAgg5
  z5 := Try.sizeOf5
  v5 := Try.zeroValue5
  t9 := Try.underlying9
  a9 := Try.isAgg9
  z9 := Try.sizeOf9
  v9 := Try.zeroValue9
  t22 := Try.underlying30
  a22 := Try.isAgg30
  z22 := Try.sizeOf30
  v22 := Try.zeroValue30
  t25 := Try.underlying82
  a25 := Try.isAgg82
  z25 := Try.sizeOf82
  v25 := Try.zeroValue82
  t39 := Try.underlying71
  a39 := Try.isAgg71
  z39 := Try.sizeOf71
  v39 := Try.zeroValue71
  t45 := Try.underlying94
  a45 := Try.isAgg94
  z45 := Try.sizeOf94
  v45 := Try.zeroValue94
  t46 := Try.underlying95
  a46 := Try.isAgg95
  z46 := Try.sizeOf95
  v46 := Try.zeroValue95
  t50 := Try.underlying99
  a50 := Try.isAgg99
  z50 := Try.sizeOf99
  v50 := Try.zeroValue99
  t53 := Try.underlying102
  a53 := Try.isAgg102
  z53 := Try.sizeOf102
  v53 := Try.zeroValue102
  t55 := Try.underlying104
  a55 := Try.isAgg104
  z55 := Try.sizeOf104
  v55 := Try.zeroValue104
  t66 := Try.underlying109
  a66 := Try.isAgg109
  z66 := Try.sizeOf109
  v66 := Try.zeroValue109
  t70 := Try.underlying113
  a70 := Try.isAgg113
  z70 := Try.sizeOf113
  v70 := Try.zeroValue113
  t76 := Try.underlying122
  a76 := Try.isAgg122
  z76 := Try.sizeOf122
  v76 := Try.zeroValue122
  t77 := Try.underlying123
  a77 := Try.isAgg123
  z77 := Try.sizeOf123
  v77 := Try.zeroValue123 }
end Go.Proofs.Ytkpbeibcfaenhaa

/- The comparison that batch.Normal hands to slices.SortFunc. -/
namespace Go.Proofs.Ytkpbeibcfaenhaa
open Go.RowKit Go.Sort
theorem grow_drewN (w : World) (os : Array Obj) (q : Nat) : (grow w os).drewN q = grow (w.drewN q) os := rfl
set_option maxRecDepth 100000 in
set_option maxHeartbeats 800000 in
theorem compare_grow (ds es : List Nat) (w : World) (hB : IsB ds) (hl : ds.length = 32) (hB2 : IsB es) (hl2 : es.length = 32) :
    Calls Try.prog 19 #[.agg (bvs ds).toArray, .agg (bvs es).toArray] w fun e w' => e = .returned (.int .i64 (cmpZ (numK ds) (numK es))) ∧ ∃ q os', w' = grow (w.drewN q) os' := by
  rw [← cmpN_num hB hB2 hl hl2]
  have HX : Hid (RB ((w.alloc (.cells (bvs ds).toArray 25)).alloc (.cells (bvs es).toArray 25)) (some ⟨w.heap.size, 0, none⟩) 32 ds) := BlkB.whole (BlkIs.alloc (BlkIs.new w 25 _) _) hB hl
  have HY : Hid (RB ((w.alloc (.cells (bvs ds).toArray 25)).alloc (.cells (bvs es).toArray 25)) (some ⟨w.heap.size + 1, 0, none⟩) 32 es) := BlkB.whole (blk_at w _ 1 _ _ (by simp)) hB2 hl2
  have HG : Hid (∀ q, ∃ q' os', ((w.alloc (.cells (bvs ds).toArray 25)).alloc (.cells (bvs es).toArray 25)).drewN q = grow (w.drewN q') os') := fun q => ⟨q, _, by rw [alloc_eq_grow, alloc_eq_grow, grow_grow]; rfl⟩
  clear hB hl hB2 hl2
  go_enter Try.func19, Try.ntmps19
  go_wp2_with fail
  go_quiet (refine Calls.quiet_of (bytealg_q _ _ 32 32 32 32 ds es _ (HX.out.below (drewN_below (Below.refl _ _) _)) (HY.out.below (drewN_below (Below.refl _ _) _)) (by omega) (by omega)))
  go_wp2_with fail
  go_ret
  exact ⟨rfl, HG.out _⟩
/-- A change as the sort moves it: with the place of its value. -/
structure El where
  x : Chg
  A : Option Addr
  C : Nat
  ok : IsB x.key ∧ x.key.length = 32
instance : Inhabited El := ⟨⟨⟨zs 32, false, []⟩, none, 0, zs_isB 32, zs_length 32⟩⟩
def encE (e : El) : List Value := chC e.x e.A e.C
theorem encE_length (e : El) : (encE e).length = 34 := chC_length e.ok.2
theorem encE_one (e : El) : ∀ v ∈ encE e, v.oneCell' = true := chC_one
def cmpE (a b : El) : Int := cmpZ (numK a.x.key) (numK b.x.key)
theorem ltE (a b : El) : ltOf cmpE a b = decide (numK a.x.key < numK b.x.key) := by
  unfold ltOf cmpE cmpZ
  by_cases h : numK a.x.key < numK b.x.key
  · simp [h]
  · rw [if_neg h, decide_eq_false h]
    split <;> rfl
theorem swoE : SWO (ltOf cmpE) where
  irrefl x := by rw [ltE]; simp
  trans x y z h1 h2 := by rw [ltE] at *; simp at *; omega
  ntrans x y z h1 h2 := by rw [ltE] at *; simp at *; omega
set_option maxRecDepth 100000 in
set_option maxHeartbeats 800000 in
theorem closure_any (a b : El) (w : World) : Calls Try.prog 50 #[.agg (encE a).toArray, .agg (encE b).toArray] w fun e w' => e = .returned (.int .i64 (cmpE a b)) ∧ ∃ q os', w' = grow (w.drewN q) os' := by
  obtain ⟨x, A, C, hx⟩ := a
  obtain ⟨y, B, D, hy⟩ := b
  unfold encE cmpE
  simp only
  have HA : Hid (((w.alloc (.cells (chC x A C).toArray 45)).alloc (.cells (chC y B D).toArray 45)).rangeAt w.heap.size 0 (bvs x.key)) := ch_key (BlkIs.range (BlkIs.alloc (BlkIs.new w 45 _) _))
  have HB : Hid (((w.alloc (.cells (chC x A C).toArray 45)).alloc (.cells (chC y B D).toArray 45)).rangeAt (w.heap.size + 1) 0 (bvs y.key)) := ch_key (BlkIs.range (blk_at w _ 1 _ _ (by simp)))
  have hs1 : (Try.prog.info? 25).map (·.size) = some (bvs x.key).length := by rw [size_key]; simp [bvs, hx.2]
  have hs2 : (Try.prog.info? 25).map (·.size) = some (bvs y.key).length := by rw [size_key]; simp [bvs, hy.2]
  have HK := Lib.hid (show (IsB x.key ∧ x.key.length = 32) ∧ IsB y.key ∧ y.key.length = 32 from ⟨hx, hy⟩)
  have HG : Hid (∀ q os, ∃ q' os', grow ((((w.alloc (.cells (chC x A C).toArray 45)).alloc (.cells (chC y B D).toArray 45))).drewN q) os = grow (w.drewN q') os') := fun q os => ⟨q, _, by rw [alloc_eq_grow, alloc_eq_grow, grow_grow, grow_drewN, grow_grow]⟩
  clear hx hy
  go_enter Try.func50, Try.ntmps50
  go_wp2_with (first
    | ((with_reducible refine stopAt (o := ⟨some 6, _, _, _, _, _⟩) ?_); refine loadRange (o := ⟨some 6, _, _, _, _, _⟩) (by rfl) 25 (.tmp 5) rfl w.heap.size 0 _ rfl HA.out row_key hs1 ?_)
    | ((with_reducible refine stopAt (o := ⟨some 8, _, _, _, _, _⟩) ?_); refine loadRange (o := ⟨some 8, _, _, _, _, _⟩) (by rfl) 25 (.tmp 7) rfl (w.heap.size + 1) 0 _ rfl HB.out row_key hs2 ?_))
  refine (compare_grow x.key y.key _ HK.out.1.1 HK.out.1.2 HK.out.2.1 HK.out.2.2).mono ?_
  rintro e w1 ⟨rfl, q, os, rfl⟩
  go_wp2_with fail
  go_ret
  exact ⟨rfl, HG.out q os⟩
theorem cmpLays (blk off size : Nat) (w : World) : CmpLays Try.prog 50 #[] encE 34 cmpE blk off size w :=
  fun _ _ _ _ x y => closure_any x y _
end Go.Proofs.Ytkpbeibcfaenhaa

/- slices.SortFunc of a list of changes that is the call's own. -/
namespace Go.Proofs.Ytkpbeibcfaenhaa
open Go.RowKit
noncomputable def elOf (x : Chg) (A : Option Addr) (C : Nat) : El := by
  classical exact if h : IsB x.key ∧ x.key.length = 32 then ⟨x, A, C, h⟩ else default
theorem elOf_is {x : Chg} {A : Option Addr} {C : Nat} (h : IsB x.key ∧ x.key.length = 32) : elOf x A C = ⟨x, A, C, h⟩ := by
  unfold elOf
  rw [dif_pos h]
noncomputable def elsOf (X : Nat → Chg) (Ad : Nat → Option Addr) (Cp : Nat → Nat) (N : Nat) : Array El := ((List.range N).map fun i => elOf (X i) (Ad i) (Cp i)).toArray
theorem elsOf_size (X : Nat → Chg) (Ad : Nat → Option Addr) (Cp : Nat → Nat) (N : Nat) : (elsOf X Ad Cp N).size = N := by simp [elsOf]
theorem elsOf_at {X : Nat → Chg} {Ad : Nat → Option Addr} {Cp : Nat → Nat} {N i : Nat} (hi : i < N) : (elsOf X Ad Cp N)[i]! = elOf (X i) (Ad i) (Cp i) := by
  rw [getElem!_pos _ i (by rw [elsOf_size]; exact hi)]
  simp [elsOf]
/-- A row of such elements is the list's cells. -/
theorem flatK_flat (d : Array El) (N : Nat) (hd : d.size = N) : Go.Sort.flatK encE 34 d = (flat (fun i => d[i]!.x) (fun i => d[i]!.A) (fun i => d[i]!.C) N).toArray := by
  have hl := flat_length (X := fun i => d[i]!.x) (Ad := fun i => d[i]!.A) (Cp := fun i => d[i]!.C) (n := N) (fun i _ => d[i]!.ok.2)
  apply Array.ext_getElem?
  intro j
  simp only [List.getElem?_toArray]
  by_cases h : j < N * 34
  · have hq : j / 34 < N := by omega
    have e := flat_at (X := fun i => d[i]!.x) (Ad := fun i => d[i]!.A) (Cp := fun i => d[i]!.C) (n := N) (i := j / 34) (j := j % 34) (fun i _ => d[i]!.ok.2) hq (Nat.mod_lt _ (by omega))
    rw [show j / 34 * 34 + j % 34 = j by omega] at e
    rw [e]
    have hj : j < (Go.Sort.flatK encE 34 d).size := by rw [Go.Sort.size_flatK, hd]; exact h
    have hm : j % 34 < (encE d[j / 34]!).length := by rw [encE_length]; exact Nat.mod_lt _ (by omega)
    have hg := Go.Sort.get_flatK encE 34 d j (by rw [hd]; exact h)
    rw [getElem!_pos (Go.Sort.flatK encE 34 d) j hj, getElem!_pos (encE d[j / 34]!) (j % 34) hm] at hg
    rw [Array.getElem?_eq_getElem hj, hg]
    exact (List.getElem?_eq_getElem hm).symm
  · rw [List.getElem?_eq_none (by omega), Array.getElem?_eq_none (by rw [Go.Sort.size_flatK, hd]; omega)]
section
variable {w : World} {base g N c : Nat} {X : Nat → Chg} {Ad : Nat → Option Addr} {Cp : Nat → Nat}
theorem elsOf_flat (hk : ∀ i, i < N → IsB (X i).key ∧ (X i).key.length = 32) : Go.Sort.flatK encE 34 (elsOf X Ad Cp N) = (flat X Ad Cp N).toArray := by
  rw [flatK_flat _ N (elsOf_size _ _ _ _), flat_congr (X' := X) (Ad' := Ad) (Cp' := Cp) fun i hi => by
    rw [elsOf_at hi, elOf_is (hk i hi)]
    exact ⟨rfl, rfl, rfl⟩]
/-- Behind the sort: the list's cells lie in another order. -/
def SortedTo (base g N c : Nat) (X : Nat → Chg) (Ad : Nat → Option Addr) (Cp : Nat → Nat) (w : World) (w' : World) : Prop :=
  ∃ X' Ad' Cp', ChsOwn w' base (.slice (some ⟨g, 0, none⟩) N c) N X' Ad' Cp' ∧ Sorted (lst X' N) ∧ (lst X' N).Perm (lst X N) ∧ (∀ i, i < N → ∃ j, j < N ∧ X' i = X j ∧ Ad' i = Ad j ∧ Cp' i = Cp j) ∧ w.grownBy w' (some g)
theorem sort_end (h : ChsOwn w base (.slice (some ⟨g, 0, none⟩) N c) N X Ad Cp) {d' : Array El} {n : Nat} {os : Array Obj} (hp : Go.Sort.PermIn 0 (elsOf X Ad Cp N).size (elsOf X Ad Cp N) d') (hs : Go.Sort.SortedIn (ltOf cmpE) 0 (elsOf X Ad Cp N).size d') :
    SortedTo base g N c X Ad Cp w (sortWorldK encE 34 w g 0 n d' os) := by
  have hds : d'.size = N := by rw [hp.1, elsOf_size]
  have hpl : d'.toList.Perm (elsOf X Ad Cp N).toList := by
    have h1 := hp.2.2
    rw [Array.extract_size] at h1
    rwa [← hp.1, Array.extract_size] at h1
  have hel : ∀ i, i < N → ∃ j, j < N ∧ d'[i]! = (elsOf X Ad Cp N)[j]! := fun i hi => by
    have hm : d'[i]! ∈ d'.toList := by
      rw [getElem!_pos d' i (by omega)]
      exact Array.mem_toList_iff.2 (Array.getElem_mem _)
    obtain ⟨j, hj, e⟩ := List.mem_iff_getElem.1 (hpl.subset hm)
    have hj' : j < N := by simpa [elsOf_size] using hj
    refine ⟨j, hj', ?_⟩
    rw [getElem!_pos (elsOf X Ad Cp N) j (by rw [elsOf_size]; exact hj')]
    simpa using e.symm
  have heq : ∀ i, i < N → ∃ j, j < N ∧ d'[i]!.x = X j ∧ d'[i]!.A = Ad j ∧ d'[i]!.C = Cp j := fun i hi => by
    obtain ⟨j, hj, e⟩ := hel i hi
    rw [elsOf_at hj, elOf_is (h.key j hj)] at e
    exact ⟨j, hj, by rw [e], by rw [e], by rw [e]⟩
  rcases h.own.2 with ⟨h0, _⟩ | ⟨g', cap, cur, e1, hg, hb, hnc, hcm, hsz, ht⟩
  · cases h0
  · injection e1 with e1 _ e3
    injection e1 with e1
    injection e1 with e1
    subst e1 e3
    have hgl : g < w.heap.size := (Array.getElem?_eq_some_iff.1 hb).1
    have hfd := flatK_flat d' N hds
    have hgr : w.grownBy (sortWorldK encE 34 w g 0 n d' os) (some g) := by
      refine ⟨rfl, rfl, rfl, by simp [sortWorldK, Go.Sort.putRowK, Go.Sort.putRow, Go.Sort.mapBlock, Go.Sort.ahead], fun k hk hne => ?_⟩
      unfold sortWorldK
      rw [Go.Sort.heap_grow_old _ _ (by simpa [Go.Sort.putRowK, Go.Sort.putRow, Go.Sort.mapBlock, Go.Sort.ahead] using hk)]
      have : g ≠ k := fun e => hne (by rw [e])
      simp [Go.Sort.putRowK, Go.Sort.putRow, Go.Sort.mapBlock, Go.Sort.ahead, Array.getElem?_modify, this]
    have hblk : (sortWorldK encE 34 w g 0 n d' os).heap[g]? = some (.cells (Go.Sort.putCells id 0 (Go.Sort.flatK encE 34 d') cur) 45 (0, 0)) := by
      unfold sortWorldK
      rw [Go.Sort.heap_grow_old _ _ (by simpa [Go.Sort.putRowK, Go.Sort.putRow, Go.Sort.mapBlock, Go.Sort.ahead] using hgl)]
      simp [Go.Sort.putRowK, Go.Sort.putRow, Go.Sort.mapBlock, Go.Sort.ahead, Array.getElem?_modify, hb, Go.Sort.onCells]
    have hfl := flat_length (X := fun i => d'[i]!.x) (Ad := fun i => d'[i]!.A) (Cp := fun i => d'[i]!.C) (n := N) (fun i _ => d'[i]!.ok.2)
    have htk : (Go.Sort.putCells id 0 (Go.Sort.flatK encE 34 d') cur).toList.take (N * 34) = flat (fun i => d'[i]!.x) (fun i => d'[i]!.A) (fun i => d'[i]!.C) N := by
      rw [hfd]
      apply List.ext_getElem?
      intro j
      by_cases hj : j < N * 34
      · rw [List.getElem?_take_of_lt hj, Array.getElem?_toList]
        have hjc : j < cur.size := by rw [hsz]; omega
        have hj2 : j < (flat (fun i => d'[i]!.x) (fun i => d'[i]!.A) (fun i => d'[i]!.C) N).length := by omega
        simp only [Go.Sort.putCells, Array.getElem?_mapIdx, Array.getElem?_eq_getElem hjc, Option.map_some]
        rw [if_pos ⟨by omega, by simpa using hj2⟩, List.getElem?_eq_getElem hj2, Nat.sub_zero, getElem!_pos _ j (by simpa using hj2)]
        simp
      · rw [List.getElem?_take_eq_none (by omega), List.getElem?_eq_none (by omega)]
    refine ⟨fun i => d'[i]!.x, fun i => d'[i]!.A, fun i => d'[i]!.C, ?_, ?_, ?_, heq, hgr⟩
    · refine { own := ⟨hfl ▸ rfl, .inr ⟨g, _, _, rfl, hg, hblk, hnc, hcm, by simp [Go.Sort.putCells, hsz], htk⟩⟩, key := fun i _ => d'[i]!.ok, val := fun i hi => ?_, apart := fun i hi h0 ad e => ?_ }
      · obtain ⟨j, hj, ex, ea, ec⟩ := heq i hi
        obtain ⟨h1, h2⟩ := h.val j hj
        rw [ex, ea, ec]
        exact ⟨h1.grownBy hgr (fun h0 ad e => h.apart j hj h0 ad e), h2⟩
      · obtain ⟨j, hj, ex, ea, ec⟩ := heq i hi
        rw [ex] at h0
        rw [ea] at e
        exact h.apart j hj h0 ad e
    · refine List.pairwise_iff_getElem.2 fun i j hi hj hij => ?_
      have hi' : i < N := by simpa [lst] using hi
      have hj' : j < N := by simpa [lst] using hj
      have h1 := hs i j (Nat.zero_le _) hij (by rw [elsOf_size]; exact hj')
      rw [ltE] at h1
      have h2 : ¬ numK d'[j]!.x.key < numK d'[i]!.x.key := of_decide_eq_false h1
      simp only [lst, List.getElem_map, List.getElem_range, ordC]
      omega
    · have e1 : lst (fun i => d'[i]!.x) N = d'.toList.map (·.x) := by
        apply List.ext_getElem
        · simp [lst, hds]
        · intro i h1 h2
          have hi : i < N := by simpa [lst] using h1
          simp only [lst, List.getElem_map, List.getElem_range]
          rw [getElem!_pos d' i (by omega)]
          simp
      have e2 : lst X N = (elsOf X Ad Cp N).toList.map (·.x) := by
        apply List.ext_getElem
        · simp [lst, elsOf_size]
        · intro i h1 h2
          have hi : i < N := by simpa [lst] using h1
          simp only [lst, elsOf, List.getElem_map, List.getElem_range]
          rw [elOf_is (h.key i hi)]
      rw [e1, e2]
      exact hpl.map _
theorem sortC_any (h : ChsOwn w base (.slice (some ⟨g, 0, none⟩) N c) N X Ad Cp) (hN : N < 4611686018427387904) :
    Calls Try.prog 49 #[.slice (some ⟨g, 0, none⟩) N c, .func (.func 50) #[] #[]] w fun e w' => e = .returned (.tuple #[]) ∧ SortedTo base g N c X Ad Cp w w' := by
  have eg : ∀ args w, (callFunc 50 args).run Try.prog w = .ok (.enter 50 args) w := enters_of Try.func50 (by kernel_rfl) rfl
  have hH : Go.Sort.HoldsK encE 34 w g 0 (elsOf X Ad Cp N) := by
    intro j hj
    rw [elsOf_flat h.key] at hj ⊢
    have hl := flat_length (Ad := Ad) (Cp := Cp) (fun i hi => (h.key i hi).2)
    have hj' : j < N * 34 := by rw [← hl]; simpa using hj
    refine ⟨?_, World.ownsRow.frozenAt h.own _⟩
    rw [World.ownsRow.cellAt h.own _ (by rw [Nat.zero_add]; exact hj'), Nat.zero_add, getElem!_pos _ j hj]
    simp only [id, List.getElem_toArray]
    rw [List.getElem?_eq_getElem]
  have hgl := (h.own.lt g rfl).2
  have hcon := AnyQ.slices_SortFunc sortC 34 Try.isAgg45 Try.sizeOf45 encE encE_length encE_one cmpE swoE 50 #[] g 0 c (elsOf X Ad Cp N) w eg (cmpLays g 0 _ w) hH hgl (by rw [elsOf_size]; exact hN)
  change Calls Try.prog 49 _ _ _ at hcon
  rw [elsOf_size] at hcon
  refine hcon.mono ?_
  rintro e w' ⟨rfl, d', n, os, hp, hs, rfl⟩
  exact ⟨rfl, sort_end h (by rw [elsOf_size]; exact hp) (by rw [elsOf_size]; exact hs)⟩
end
end Go.Proofs.Ytkpbeibcfaenhaa
