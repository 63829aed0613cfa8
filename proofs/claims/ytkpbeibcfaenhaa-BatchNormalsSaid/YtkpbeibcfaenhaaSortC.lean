/- slices.SortFunc of a list of changes that is the call's own. -/
import Derived.Test.YtkpbeibcfaenhaaCmpK
namespace Go.Proofs.Ytkpbeibcfaenhaa
open Go.RowKit
noncomputable def elOf (x : Chg) (A : Option Addr) (C : Nat) : El := by
  classical exact if h : IsB x.key ∧ x.key.length = 32 then ⟨x, A, C, h⟩ else default
theorem elOf_is {x : Chg} {A : Option Addr} {C : Nat} (h : IsB x.key ∧ x.key.length = 32) : elOf x A C = ⟨x, A, C, h⟩ := by
  unfold elOf
  rw [dif_pos h]
noncomputable def elsOf (X : Nat → Chg) (Ad : Nat → Option Addr) (Cp : Nat → Nat) (N : Nat) : Array El := ((List.range N).map fun i => elOf (X i) (Ad i) (Cp i)).toArray
theorem elsOf_size (X : Nat → Chg) (Ad : Nat → Option Addr) (Cp : Nat → Nat) (N : Nat) : (elsOf X Ad Cp N).size = N := by simp [elsOf]
theorem elsOf_at {X : Nat → Chg} {Ad : Nat → Option Addr} {Cp : Nat → Nat} {N i : Nat} (hi : i < N) : (elsOf X Ad Cp N)[i]! = elOf (X i) (Ad i) (Cp i) := by
  rw [getElem!_pos _ i (by rw [elsOf_size]; exact hi)]
  simp [elsOf]
/-- A row of such elements is the list's cells. -/
theorem flatK_flat (d : Array El) (N : Nat) (hd : d.size = N) : Go.Sort.flatK encE 34 d = (flat (fun i => d[i]!.x) (fun i => d[i]!.A) (fun i => d[i]!.C) N).toArray := by
  have hl := flat_length (X := fun i => d[i]!.x) (Ad := fun i => d[i]!.A) (Cp := fun i => d[i]!.C) (n := N) (fun i _ => d[i]!.ok.2)
  apply Array.ext_getElem?
  intro j
  simp only [List.getElem?_toArray]
  by_cases h : j < N * 34
  · have hq : j / 34 < N := by omega
    have e := flat_at (X := fun i => d[i]!.x) (Ad := fun i => d[i]!.A) (Cp := fun i => d[i]!.C) (n := N) (i := j / 34) (j := j % 34) (fun i _ => d[i]!.ok.2) hq (Nat.mod_lt _ (by omega))
    rw [show j / 34 * 34 + j % 34 = j by omega] at e
    rw [e]
    have hj : j < (Go.Sort.flatK encE 34 d).size := by rw [Go.Sort.size_flatK, hd]; exact h
    have hm : j % 34 < (encE d[j / 34]!).length := by rw [encE_length]; exact Nat.mod_lt _ (by omega)
    have hg := Go.Sort.get_flatK encE 34 d j (by rw [hd]; exact h)
    rw [getElem!_pos (Go.Sort.flatK encE 34 d) j hj, getElem!_pos (encE d[j / 34]!) (j % 34) hm] at hg
    rw [Array.getElem?_eq_getElem hj, hg]
    exact (List.getElem?_eq_getElem hm).symm
  · rw [List.getElem?_eq_none (by omega), Array.getElem?_eq_none (by rw [Go.Sort.size_flatK, hd]; omega)]
section
variable {w : World} {base g N c : Nat} {X : Nat → Chg} {Ad : Nat → Option Addr} {Cp : Nat → Nat}
theorem elsOf_flat (hk : ∀ i, i < N → IsB (X i).key ∧ (X i).key.length = 32) : Go.Sort.flatK encE 34 (elsOf X Ad Cp N) = (flat X Ad Cp N).toArray := by
  rw [flatK_flat _ N (elsOf_size _ _ _ _), flat_congr (X' := X) (Ad' := Ad) (Cp' := Cp) fun i hi => by
    rw [elsOf_at hi, elOf_is (hk i hi)]
    exact ⟨rfl, rfl, rfl⟩]
/-- Behind the sort: the list's cells lie in another order. -/
def SortedTo (base g N c : Nat) (X : Nat → Chg) (Ad : Nat → Option Addr) (Cp : Nat → Nat) (w : World) (w' : World) : Prop :=
  ∃ X' Ad' Cp', ChsOwn w' base (.slice (some ⟨g, 0, none⟩) N c) N X' Ad' Cp' ∧ Sorted (lst X' N) ∧ (lst X' N).Perm (lst X N) ∧ (∀ i, i < N → ∃ j, j < N ∧ X' i = X j ∧ Ad' i = Ad j ∧ Cp' i = Cp j) ∧ w.grownBy w' (some g)
theorem sort_end (h : ChsOwn w base (.slice (some ⟨g, 0, none⟩) N c) N X Ad Cp) {d' : Array El} {n : Nat} {os : Array Obj} (hp : Go.Sort.PermIn 0 (elsOf X Ad Cp N).size (elsOf X Ad Cp N) d') (hs : Go.Sort.SortedIn (ltOf cmpE) 0 (elsOf X Ad Cp N).size d') :
    SortedTo base g N c X Ad Cp w (sortWorldK encE 34 w g 0 n d' os) := by
  have hds : d'.size = N := by rw [hp.1, elsOf_size]
  have hpl : d'.toList.Perm (elsOf X Ad Cp N).toList := by
    have h1 := hp.2.2
    rw [Array.extract_size] at h1
    rwa [← hp.1, Array.extract_size] at h1
  have hel : ∀ i, i < N → ∃ j, j < N ∧ d'[i]! = (elsOf X Ad Cp N)[j]! := fun i hi => by
    have hm : d'[i]! ∈ d'.toList := by
      rw [getElem!_pos d' i (by omega)]
      exact Array.mem_toList_iff.2 (Array.getElem_mem _)
    obtain ⟨j, hj, e⟩ := List.mem_iff_getElem.1 (hpl.subset hm)
    have hj' : j < N := by simpa [elsOf_size] using hj
    refine ⟨j, hj', ?_⟩
    rw [getElem!_pos (elsOf X Ad Cp N) j (by rw [elsOf_size]; exact hj')]
    simpa using e.symm
  have heq : ∀ i, i < N → ∃ j, j < N ∧ d'[i]!.x = X j ∧ d'[i]!.A = Ad j ∧ d'[i]!.C = Cp j := fun i hi => by
    obtain ⟨j, hj, e⟩ := hel i hi
    rw [elsOf_at hj, elOf_is (h.key j hj)] at e
    exact ⟨j, hj, by rw [e], by rw [e], by rw [e]⟩
  rcases h.own.2 with ⟨h0, _⟩ | ⟨g', cap, cur, e1, hg, hb, hnc, hcm, hsz, ht⟩
  · cases h0
  · injection e1 with e1 _ e3
    injection e1 with e1
    injection e1 with e1
    subst e1 e3
    have hgl : g < w.heap.size := (Array.getElem?_eq_some_iff.1 hb).1
    have hfd := flatK_flat d' N hds
    have hgr : w.grownBy (sortWorldK encE 34 w g 0 n d' os) (some g) := by
      refine ⟨rfl, rfl, rfl, by simp [sortWorldK, Go.Sort.putRowK, Go.Sort.putRow, Go.Sort.mapBlock, Go.Sort.ahead], fun k hk hne => ?_⟩
      unfold sortWorldK
      rw [Go.Sort.heap_grow_old _ _ (by simpa [Go.Sort.putRowK, Go.Sort.putRow, Go.Sort.mapBlock, Go.Sort.ahead] using hk)]
      have : g ≠ k := fun e => hne (by rw [e])
      simp [Go.Sort.putRowK, Go.Sort.putRow, Go.Sort.mapBlock, Go.Sort.ahead, Array.getElem?_modify, this]
    have hblk : (sortWorldK encE 34 w g 0 n d' os).heap[g]? = some (.cells (Go.Sort.putCells id 0 (Go.Sort.flatK encE 34 d') cur) 45 (0, 0)) := by
      unfold sortWorldK
      rw [Go.Sort.heap_grow_old _ _ (by simpa [Go.Sort.putRowK, Go.Sort.putRow, Go.Sort.mapBlock, Go.Sort.ahead] using hgl)]
      simp [Go.Sort.putRowK, Go.Sort.putRow, Go.Sort.mapBlock, Go.Sort.ahead, Array.getElem?_modify, hb, Go.Sort.onCells]
    have hfl := flat_length (X := fun i => d'[i]!.x) (Ad := fun i => d'[i]!.A) (Cp := fun i => d'[i]!.C) (n := N) (fun i _ => d'[i]!.ok.2)
    have htk : (Go.Sort.putCells id 0 (Go.Sort.flatK encE 34 d') cur).toList.take (N * 34) = flat (fun i => d'[i]!.x) (fun i => d'[i]!.A) (fun i => d'[i]!.C) N := by
      rw [hfd]
      apply List.ext_getElem?
      intro j
      by_cases hj : j < N * 34
      · rw [List.getElem?_take_of_lt hj, Array.getElem?_toList]
        have hjc : j < cur.size := by rw [hsz]; omega
        have hj2 : j < (flat (fun i => d'[i]!.x) (fun i => d'[i]!.A) (fun i => d'[i]!.C) N).length := by omega
        simp only [Go.Sort.putCells, Array.getElem?_mapIdx, Array.getElem?_eq_getElem hjc, Option.map_some]
        rw [if_pos ⟨by omega, by simpa using hj2⟩, List.getElem?_eq_getElem hj2, Nat.sub_zero, getElem!_pos _ j (by simpa using hj2)]
        simp
      · rw [List.getElem?_take_eq_none (by omega), List.getElem?_eq_none (by omega)]
    refine ⟨fun i => d'[i]!.x, fun i => d'[i]!.A, fun i => d'[i]!.C, ?_, ?_, ?_, heq, hgr⟩
    · refine { own := ⟨hfl ▸ rfl, .inr ⟨g, _, _, rfl, hg, hblk, hnc, hcm, by simp [Go.Sort.putCells, hsz], htk⟩⟩, key := fun i _ => d'[i]!.ok, val := fun i hi => ?_, apart := fun i hi h0 ad e => ?_ }
      · obtain ⟨j, hj, ex, ea, ec⟩ := heq i hi
        obtain ⟨h1, h2⟩ := h.val j hj
        rw [ex, ea, ec]
        exact ⟨h1.grownBy hgr (fun h0 ad e => h.apart j hj h0 ad e), h2⟩
      · obtain ⟨j, hj, ex, ea, ec⟩ := heq i hi
        rw [ex] at h0
        rw [ea] at e
        exact h.apart j hj h0 ad e
    · refine List.pairwise_iff_getElem.2 fun i j hi hj hij => ?_
      have hi' : i < N := by simpa [lst] using hi
      have hj' : j < N := by simpa [lst] using hj
      have h1 := hs i j (Nat.zero_le _) hij (by rw [elsOf_size]; exact hj')
      rw [ltE] at h1
      have h2 : ¬ numK d'[j]!.x.key < numK d'[i]!.x.key := of_decide_eq_false h1
      simp only [lst, List.getElem_map, List.getElem_range, ordC]
      omega
    · have e1 : lst (fun i => d'[i]!.x) N = d'.toList.map (·.x) := by
        apply List.ext_getElem
        · simp [lst, hds]
        · intro i h1 h2
          have hi : i < N := by simpa [lst] using h1
          simp only [lst, List.getElem_map, List.getElem_range]
          rw [getElem!_pos d' i (by omega)]
          simp
      have e2 : lst X N = (elsOf X Ad Cp N).toList.map (·.x) := by
        apply List.ext_getElem
        · simp [lst, elsOf_size]
        · intro i h1 h2
          have hi : i < N := by simpa [lst] using h1
          simp only [lst, elsOf, List.getElem_map, List.getElem_range]
          rw [elOf_is (h.key i hi)]
      rw [e1, e2]
      exact hpl.map _
theorem sortC_any (h : ChsOwn w base (.slice (some ⟨g, 0, none⟩) N c) N X Ad Cp) (hN : N < 4611686018427387904) :
    Calls Try.prog 49 #[.slice (some ⟨g, 0, none⟩) N c, .func (.func 50) #[] #[]] w fun e w' => e = .returned (.tuple #[]) ∧ SortedTo base g N c X Ad Cp w w' := by
  have eg : ∀ args w, (callFunc 50 args).run Try.prog w = .ok (.enter 50 args) w := enters_of Try.func50 (by kernel_rfl) rfl
  have hH : Go.Sort.HoldsK encE 34 w g 0 (elsOf X Ad Cp N) := by
    intro j hj
    rw [elsOf_flat h.key] at hj ⊢
    have hl := flat_length (Ad := Ad) (Cp := Cp) (fun i hi => (h.key i hi).2)
    have hj' : j < N * 34 := by rw [← hl]; simpa using hj
    refine ⟨?_, World.ownsRow.frozenAt h.own _⟩
    rw [World.ownsRow.cellAt h.own _ (by rw [Nat.zero_add]; exact hj'), Nat.zero_add, getElem!_pos _ j hj]
    simp only [id, List.getElem_toArray]
    rw [List.getElem?_eq_getElem]
  have hgl := (h.own.lt g rfl).2
  have hcon := AnyQ.slices_SortFunc sortC 34 Try.isAgg45 Try.sizeOf45 encE encE_length encE_one cmpE swoE 50 #[] g 0 c (elsOf X Ad Cp N) w eg (cmpLays g 0 _ w) hH hgl (by rw [elsOf_size]; exact hN)
  change Calls Try.prog 49 _ _ _ at hcon
  rw [elsOf_size] at hcon
  refine hcon.mono ?_
  rintro e w' ⟨rfl, d', n, os, hp, hs, rfl⟩
  exact ⟨rfl, sort_end h (by rw [elsOf_size]; exact hp) (by rw [elsOf_size]; exact hs)⟩
end
end Go.Proofs.Ytkpbeibcfaenhaa
