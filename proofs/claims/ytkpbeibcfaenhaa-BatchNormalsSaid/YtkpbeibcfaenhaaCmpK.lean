/- The comparison that batch.Normal hands to slices.SortFunc. -/
import Derived.Test.YtkpbeibcfaenhaaSortLay
import Derived.Test.YtkpbeibcfaenhaaSorted
namespace Go.Proofs.Ytkpbeibcfaenhaa
open Go.RowKit Go.Sort
theorem grow_drewN (w : World) (os : Array Obj) (q : Nat) : (grow w os).drewN q = grow (w.drewN q) os := rfl
set_option maxRecDepth 100000 in
set_option maxHeartbeats 800000 in
theorem compare_grow (ds es : List Nat) (w : World) (hB : IsB ds) (hl : ds.length = 32) (hB2 : IsB es) (hl2 : es.length = 32) :
    Calls Try.prog 19 #[.agg (bvs ds).toArray, .agg (bvs es).toArray] w fun e w' => e = .returned (.int .i64 (cmpZ (numK ds) (numK es))) ∧ ∃ q os', w' = grow (w.drewN q) os' := by
  rw [← cmpN_num hB hB2 hl hl2]
  have HX : Hid (RB ((w.alloc (.cells (bvs ds).toArray 25)).alloc (.cells (bvs es).toArray 25)) (some ⟨w.heap.size, 0, none⟩) 32 ds) := BlkB.whole (BlkIs.alloc (BlkIs.new w 25 _) _) hB hl
  have HY : Hid (RB ((w.alloc (.cells (bvs ds).toArray 25)).alloc (.cells (bvs es).toArray 25)) (some ⟨w.heap.size + 1, 0, none⟩) 32 es) := BlkB.whole (blk_at w _ 1 _ _ (by simp)) hB2 hl2
  have HG : Hid (∀ q, ∃ q' os', ((w.alloc (.cells (bvs ds).toArray 25)).alloc (.cells (bvs es).toArray 25)).drewN q = grow (w.drewN q') os') := fun q => ⟨q, _, by rw [alloc_eq_grow, alloc_eq_grow, grow_grow]; rfl⟩
  clear hB hl hB2 hl2
  go_enter Try.func19, Try.ntmps19
  go_wp2_with fail
  go_quiet (refine Calls.quiet_of (bytealg_q _ _ 32 32 32 32 ds es _ (HX.out.below (drewN_below (Below.refl _ _) _)) (HY.out.below (drewN_below (Below.refl _ _) _)) (by omega) (by omega)))
  go_wp2_with fail
  go_ret
  exact ⟨rfl, HG.out _⟩
/-- A change as the sort moves it: with the place of its value. -/
structure El where
  x : Chg
  A : Option Addr
  C : Nat
  ok : IsB x.key ∧ x.key.length = 32
instance : Inhabited El := ⟨⟨⟨zs 32, false, []⟩, none, 0, zs_isB 32, zs_length 32⟩⟩
def encE (e : El) : List Value := chC e.x e.A e.C
theorem encE_length (e : El) : (encE e).length = 34 := chC_length e.ok.2
theorem encE_one (e : El) : ∀ v ∈ encE e, v.oneCell' = true := chC_one
def cmpE (a b : El) : Int := cmpZ (numK a.x.key) (numK b.x.key)
theorem ltE (a b : El) : ltOf cmpE a b = decide (numK a.x.key < numK b.x.key) := by
  unfold ltOf cmpE cmpZ
  by_cases h : numK a.x.key < numK b.x.key
  · simp [h]
  · rw [if_neg h, decide_eq_false h]
    split <;> rfl
theorem swoE : SWO (ltOf cmpE) where
  irrefl x := by rw [ltE]; simp
  trans x y z h1 h2 := by rw [ltE] at *; simp at *; omega
  ntrans x y z h1 h2 := by rw [ltE] at *; simp at *; omega
set_option maxRecDepth 100000 in
set_option maxHeartbeats 800000 in
theorem closure_any (a b : El) (w : World) : Calls Try.prog 50 #[.agg (encE a).toArray, .agg (encE b).toArray] w fun e w' => e = .returned (.int .i64 (cmpE a b)) ∧ ∃ q os', w' = grow (w.drewN q) os' := by
  obtain ⟨x, A, C, hx⟩ := a
  obtain ⟨y, B, D, hy⟩ := b
  unfold encE cmpE
  simp only
  have HA : Hid (((w.alloc (.cells (chC x A C).toArray 45)).alloc (.cells (chC y B D).toArray 45)).rangeAt w.heap.size 0 (bvs x.key)) := ch_key (BlkIs.range (BlkIs.alloc (BlkIs.new w 45 _) _))
  have HB : Hid (((w.alloc (.cells (chC x A C).toArray 45)).alloc (.cells (chC y B D).toArray 45)).rangeAt (w.heap.size + 1) 0 (bvs y.key)) := ch_key (BlkIs.range (blk_at w _ 1 _ _ (by simp)))
  have hs1 : (Try.prog.info? 25).map (·.size) = some (bvs x.key).length := by rw [size_key]; simp [bvs, hx.2]
  have hs2 : (Try.prog.info? 25).map (·.size) = some (bvs y.key).length := by rw [size_key]; simp [bvs, hy.2]
  have HK := Lib.hid (show (IsB x.key ∧ x.key.length = 32) ∧ IsB y.key ∧ y.key.length = 32 from ⟨hx, hy⟩)
  have HG : Hid (∀ q os, ∃ q' os', grow ((((w.alloc (.cells (chC x A C).toArray 45)).alloc (.cells (chC y B D).toArray 45))).drewN q) os = grow (w.drewN q') os') := fun q os => ⟨q, _, by rw [alloc_eq_grow, alloc_eq_grow, grow_grow, grow_drewN, grow_grow]⟩
  clear hx hy
  go_enter Try.func50, Try.ntmps50
  go_wp2_with (first
    | ((with_reducible refine stopAt (o := ⟨some 6, _, _, _, _, _⟩) ?_); refine loadRange (o := ⟨some 6, _, _, _, _, _⟩) (by rfl) 25 (.tmp 5) rfl w.heap.size 0 _ rfl HA.out row_key hs1 ?_)
    | ((with_reducible refine stopAt (o := ⟨some 8, _, _, _, _, _⟩) ?_); refine loadRange (o := ⟨some 8, _, _, _, _, _⟩) (by rfl) 25 (.tmp 7) rfl (w.heap.size + 1) 0 _ rfl HB.out row_key hs2 ?_))
  refine (compare_grow x.key y.key _ HK.out.1.1 HK.out.1.2 HK.out.2.1 HK.out.2.2).mono ?_
  rintro e w1 ⟨rfl, q, os, rfl⟩
  go_wp2_with fail
  go_ret
  exact ⟨rfl, HG.out q os⟩
theorem cmpLays (blk off size : Nat) (w : World) : CmpLays Try.prog 50 #[] encE 34 cmpE blk off size w :=
  fun _ _ _ _ x y => closure_any x y _
end Go.Proofs.Ytkpbeibcfaenhaa
