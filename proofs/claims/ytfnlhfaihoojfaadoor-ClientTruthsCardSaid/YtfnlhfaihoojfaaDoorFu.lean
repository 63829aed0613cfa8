/- Appl, Mapd, Look (merged) -/
import Derived.Test.YtfnlhfaihoojfaaDoorFr
import Derived.Test.YtfnlhfaihoojfaaDoorFe
import Derived.Test.YtfnlhfaihoojfaaDoorR12e
/- ledgerref3.Apply of the empty map; ledgerlaw13.mapped. -/
namespace Go.Proofs.YtfnlhfaihoojfaaDoor
open Go.RowKit
/-- 'api.Entry{Key: k, Val: v}'. -/
theorem built_en2 {x : Chg} {A : Option Addr} {C : Nat} (hk : x.key.length = 32) :
    Tryd.prog.built 72 [(0, .agg (bvs x.key).toArray), (1, .slice A x.val.length C)] = some (enC x A C).toArray := by
  have hb : ∃ Z : Array Value, Z.size = 33 ∧ ∀ ps, Tryd.prog.built 72 ps = Instr.fill (#[(0, 32), (32, 1)][·]?) Z ps := by
    refine ⟨(zarr 32) ++ #[.slice none 0 0], by simp [zarr, bvs, zs], fun ps => ?_⟩
    have h1 : (Tryd.prog.info? 72).map (·.zero) = some (some (.agg ((zarr 32) ++ #[.slice none 0 0]))) := by kernel_rfl
    obtain ⟨i, hi, hz⟩ : ∃ i, Tryd.prog.info? 72 = some i ∧ i.zero = some (.agg ((zarr 32) ++ #[.slice none 0 0])) := by
      cases hq : Tryd.prog.info? 72 with
      | none => simp [hq] at h1
      | some i => exact ⟨i, rfl, by simpa [hq] using h1⟩
    have hp : (Tryd.prog.underlying 72).bind (fun d => match d with | .struct fs => fs.toList.mapM (fun f => (Tryd.prog.info? f.type).map fun i => (f.offset, i.size)) | _ => none) = some [(0, 32), (32, 1)] := by kernel_rfl
    rw [Tryd.underlying72] at hp
    unfold Program.built
    rw [hi, Tryd.underlying72]
    simp only [hz]
    simp only [Option.bind_some] at hp
    rw [hp]
    rfl
  obtain ⟨Z, hZ, hb⟩ := hb
  have hkl : (bvs x.key).length = 32 := by simp [bvs, hk]
  have s1 : ((Value.agg (bvs x.key).toArray).cells).size = 32 := by simp [Value.cells, hkl]
  rw [hb, fill_step (off := 0) (size := 32) rfl s1 (by omega), fill_step (off := 32) (size := 1) rfl rfl (by rw [spl_size]; omega), Instr.fill]
  congr 1
  apply Array.ext_getElem?
  intro j
  have e1 : ((Value.agg (bvs x.key).toArray).cells) = (bvs x.key).toArray := rfl
  have e3 : (Value.slice A x.val.length C).cells = #[Value.slice A x.val.length C] := rfl
  rw [spl_at (by rw [spl_size, e3]; simp; omega), e3, spl_at (by rw [s1]; omega), e1]
  simp only [List.size_toArray, List.length_cons, List.length_nil, List.getElem?_toArray, hkl, enC]
  by_cases h2 : j = 32
  · subst h2
    rw [if_pos (by omega), List.getElem?_append_right (by omega), hkl]
  rw [if_neg (by omega)]
  by_cases h1 : j < 32
  · rw [if_pos (by omega), List.getElem?_append_left (by omega), Nat.sub_zero]
  · rw [if_neg (by omega), Array.getElem?_eq_none (by omega), List.getElem?_eq_none (by rw [List.length_append, hkl]; simp; omega)]
/-- What stays of a list of changes. -/
def stayL (l : List Chg) : List Chg := l.filter fun x => !x.del
theorem stay_next (Z : Nat → Chg) (k : Nat) : stayL (lst Z (k + 1)) = stayL (lst Z k) ++ if (Z k).del = true then [] else [Z k] := by
  have e1 : stayL [Z k] = if (Z k).del = true then [] else [Z k] := by
    unfold stayL
    by_cases e : (Z k).del = true
    · rw [if_pos e, List.filter_cons, if_neg (by simp [e])]; rfl
    · rw [if_neg e, List.filter_cons, if_pos (by simpa using e)]; rfl
  rw [← e1]
  unfold stayL
  rw [lst_succ, List.filter_append]
def ApplyRet (N : Nat) (X : Nat → Chg) (w : World) (e : Ending) (w' : World) : Prop :=
  ∃ v M Y Ad Cp Z, e = .returned v ∧ EntsOwn w' w.heap.size v M Y Ad Cp ∧ Below w.heap.size w w' ∧ Sorted (lst Z N) ∧ (lst Z N).Perm ((lst X N).map plainC) ∧ lst Y M = stayL (lst Z N) ∧ M ≤ N
set_option maxRecDepth 20000 in
set_option maxHeartbeats 2000000 in
theorem rapply_nil (A : Option Addr) (N c : Nat) (X : Nat → Chg) (w : World) (hx : ChsAt w A N X) (hc : N ≤ c) (hN : (N : Int) ≤ 1048576) (hv : ∀ k, k < N → (X k).val.length ≤ 140737488355328) :
    Calls Tryd.prog 25 #[.slice none 0 0, .slice A N c] w (ApplyRet N X w) := by
  have HSO := Lib.hid (fun W (hW : Below w.heap.size w W) => sorted_any N A c X W (hx.below hW) hc (by omega) hv)
  clear hx hc hv
  go_enter Tryd.func25, Tryd.ntmps25
  go_wp2_with fail
  refine (HSO.out w (Below.refl _ _)).mono ?_
  rintro e w2 ⟨Z, ⟨v2, Ad2, Cp2, rfl, ho2, hb2⟩, hs2, hp2⟩
  obtain ⟨A2, c2, rfl, hx2, _⟩ := ho2.form
  have HX := Lib.hid hx2
  have HW := Lib.hid hb2
  have HZ := Lib.hid (And.intro hs2 hp2)
  clear ho2 hb2 hs2 hp2 hx2 HSO
  go_wp2_with fail
  go_loopw [6, 7, 8] (fun v i j wr => ∃ k : Nat, k ≤ N ∧ j = .int .i64 k ∧ i = .int .i64 0 ∧ (∃ M Y Ad Cp, M ≤ k ∧ Hid (EntsOwn wr w2.heap.size v M Y Ad Cp) ∧ Hid (lst Y M = stayL (lst Z k))) ∧ Hid (Below w2.heap.size w2 wr)) (fun _ _ j _ => N - (intOf j).toNat)
  case atStart => exact ⟨0, by omega, rfl, rfl, ⟨0, fun _ => default, fun _ => none, fun _ => 0, Nat.le_refl _, EntsOwn.nil _ _ _ _ _, rfl⟩, Below.refl _ _⟩
  case round =>
    obtain ⟨k, hk, rfl, rfl, ⟨M, Y, Ad, Cp, hMk, HO, HY⟩, HB⟩ := hrel
    by_cases hlt : k < N
    · have hlt' : (k : Int) < N := by omega
      obtain ⟨b, o, Av, Cv, rfl, hb, hr, hkB, hkl, hvr, hvC, hCm, hnil⟩ := HX.out.2 k hlt
      have HR : Hid (∀ W, Below w2.heap.size w2 W → W.rangeAt b (o + k * 34) (chC (Z k) Av Cv)) := fun W hW => range_below hW hb hr
      have HKX := Lib.hid (And.intro hkB hkl)
      have HV := Lib.hid (show RB w2 Av (Z k).val.length (Z k).val ∧ (Z k).val.length ≤ Cv ∧ Cv ≤ maxLen ∧ (Av = none → Cv = 0) from ⟨hvr, hvC, hCm, hnil⟩)
      have HAP : Hid (∀ u : Value, (∀ B, u.ownBlock = some B → w2.heap.size ≤ B) → 0 < (Z k).val.length → ∀ ad, Av = some ad → some ad.block ≠ u.ownBlock) := fun u hu h0 ad e he => by
        obtain ⟨ad', e', q1, _⟩ := hvr.2.2 h0
        rw [e] at e'
        injection e' with e'
        rw [← e'] at q1
        have q2 := hu _ he.symm
        omega
      have HNX := Lib.hid (stay_next Z k)
      have huk := und_key
      have hszk : (Tryd.prog.info? 31).map (·.size) = some (bvs (Z k).key).length := by rw [size_key]; simp [bvs, hkl]
      clear hr hkB hkl hvr hvC hCm hnil hb
      generalize Z k = x at *
      go_wp2_with fail
      go_loopw [6, 7] (fun v i wr' => v = u6 ∧ i = .int .i64 0 ∧ wr' = wr) (fun _ _ _ => 0)
      case atStart => exact ⟨rfl, rfl, rfl⟩
      case round =>
        obtain ⟨rfl, rfl, rfl⟩ := hrel
        go_upto_region 12 with fail
        refine wp_region_held_drew (S := fun _ => True) (by kernel_rfl) trivial fun hH => ?_
        have HB0 : Hid (Below wr.heap.size wr wr.drew) := drewN_below (Below.refl _ _) 1
        generalize wr.drew = w4 at *
        refine wpAnyH_take (i := 0) (oi := ⟨some 44, _, _, _, _, _⟩) rfl (by kernel_rfl) (by kernel_rfl) (by kernel_rfl) (fun _ _ _ h => h) (Or.inl ⟨by rfl, fun w hw => by ((try dsimp only at hw); go_split_ands; go_simp; with_reducible rfl)⟩) (by assumption) ?_
        try simp only [Act.put, List.setIfInBounds_toArray, List.set_cons_zero, List.set_cons_succ]
        refine wpAnyH_take (i := 1) (oi := ⟨some 45, _, _, _, _, _⟩) rfl (by kernel_rfl) (by kernel_rfl) (by kernel_rfl) (fun _ _ _ h => h) (Or.inl ⟨by rfl, fun w hw => by ((try dsimp only at hw); go_split_ands; go_simp; with_reducible rfl)⟩) (by assumption) ?_
        try simp only [Act.put, List.setIfInBounds_toArray, List.set_cons_zero, List.set_cons_succ]
        refine wpAnyH_take (i := 2) (oi := ⟨some 46, _, _, _, _, _⟩) rfl (by kernel_rfl) (by kernel_rfl) (by kernel_rfl) (fun _ _ _ h => h) (Or.inl ⟨by rfl, fun w hw => by ((try dsimp only at hw); go_split_ands; go_simp; with_reducible rfl)⟩) (by assumption) ?_
        try simp only [Act.put, List.setIfInBounds_toArray, List.set_cons_zero, List.set_cons_succ]
        refine wpAnyH_take (i := 3) (oi := ⟨some 47, _, _, _, _, _⟩) rfl (by kernel_rfl) (by kernel_rfl) (by kernel_rfl) (fun _ _ _ h => h) (Or.inl ⟨by rfl, fun w hw => by ((try dsimp only at hw); go_split_ands; go_simp; with_reducible rfl)⟩) (by assumption) ?_
        try simp only [Act.put, List.setIfInBounds_toArray, List.set_cons_zero, List.set_cons_succ]
        refine wpAnyH_take (i := 4) (oi := ⟨some 48, _, _, _, _, _⟩) rfl (by kernel_rfl) (by kernel_rfl) (by kernel_rfl) (fun _ _ _ h => h) (Or.inl ⟨by rfl, fun w hw => by ((try dsimp only at hw); go_split_ands; go_simp; with_reducible rfl)⟩) (by assumption) ?_
        try simp only [Act.put, List.setIfInBounds_toArray, List.set_cons_zero, List.set_cons_succ]
        refine wpAnyH_take (i := 5) (oi := ⟨some 49, _, _, _, _, _⟩) rfl (by kernel_rfl) (by kernel_rfl) (by kernel_rfl) (fun _ _ _ h => h) (Or.inr ⟨by rfl, rfl⟩) (by assumption) ?_
        try simp only [Act.put, List.setIfInBounds_toArray, List.set_cons_zero, List.set_cons_succ]
        refine wpAnyH_take (i := 6) (oi := ⟨some 50, _, _, _, _, _⟩) rfl (by kernel_rfl) (by kernel_rfl) (by kernel_rfl) (fun _ _ _ h => h) (Or.inr ⟨by rfl, rfl⟩) (by assumption) ?_
        try simp only [Act.put, List.setIfInBounds_toArray, List.set_cons_zero, List.set_cons_succ]
        refine wpAnyH_take (i := 7) (oi := ⟨some 51, _, _, _, _, _⟩) rfl (by kernel_rfl) (by kernel_rfl) (by kernel_rfl) (fun _ _ _ h => h) (Or.inr ⟨by rfl, rfl⟩) (by assumption) ?_
        try simp only [Act.put, List.setIfInBounds_toArray, List.set_cons_zero, List.set_cons_succ]
        refine wpAnyH_take (i := 8) (oi := ⟨some 52, _, _, _, _, _⟩) rfl (by kernel_rfl) (by kernel_rfl) (by kernel_rfl) (fun _ _ _ h => h) (Or.inr ⟨by rfl, rfl⟩) (by assumption) ?_
        try simp only [Act.put, List.setIfInBounds_toArray, List.set_cons_zero, List.set_cons_succ]
        refine wpAnyH_take (i := 9) (oi := ⟨some 53, _, _, _, _, _⟩) rfl (by kernel_rfl) (by kernel_rfl) (by kernel_rfl) (fun _ _ _ h => h) (Or.inr ⟨by rfl, rfl⟩) (by assumption) ?_
        try simp only [Act.put, List.setIfInBounds_toArray, List.set_cons_zero, List.set_cons_succ]
        refine wpAnyH_take (i := 10) (oi := ⟨some 54, _, _, _, _, _⟩) rfl (by kernel_rfl) (by kernel_rfl) (by kernel_rfl) (fun _ _ _ h => h) (Or.inr ⟨by rfl, rfl⟩) (by assumption) ?_
        try simp only [Act.put, List.setIfInBounds_toArray, List.set_cons_zero, List.set_cons_succ]
        refine wpAnyH_take (i := 11) (oi := ⟨some 55, _, _, _, _, _⟩) rfl (by kernel_rfl) (by kernel_rfl) (by kernel_rfl) (fun _ _ _ h => h) (Or.inr ⟨by rfl, rfl⟩) (by assumption) ?_
        try simp only [Act.put, List.setIfInBounds_toArray, List.set_cons_zero, List.set_cons_succ]
        refine wpAnyH_take (i := 12) (oi := ⟨some 56, _, _, _, _, _⟩) rfl (by kernel_rfl) (by kernel_rfl) (by kernel_rfl) (fun _ _ _ h => h) (Or.inr ⟨by rfl, rfl⟩) (by assumption) ?_
        try simp only [Act.put, List.setIfInBounds_toArray, List.set_cons_zero, List.set_cons_succ]
        refine wpAnyH_take (i := 13) (oi := ⟨some 57, _, _, _, _, _⟩) rfl (by kernel_rfl) (by kernel_rfl) (by kernel_rfl) (fun _ _ _ h => h) (Or.inr ⟨by rfl, rfl⟩) (by assumption) ?_
        try simp only [Act.put, List.setIfInBounds_toArray, List.set_cons_zero, List.set_cons_succ]
        refine wpAnyH_take (i := 14) (oi := ⟨some 58, _, _, _, _, _⟩) rfl (by kernel_rfl) (by kernel_rfl) (by kernel_rfl) (fun _ _ _ h => h) (Or.inr ⟨by rfl, rfl⟩) (by assumption) ?_
        try simp only [Act.put, List.setIfInBounds_toArray, List.set_cons_zero, List.set_cons_succ]
        refine wpAnyH_take (i := 15) (oi := ⟨some 59, _, _, _, _, _⟩) rfl (by kernel_rfl) (by kernel_rfl) (by kernel_rfl) (fun _ _ _ h => h) (Or.inr ⟨by rfl, rfl⟩) (by assumption) ?_
        try simp only [Act.put, List.setIfInBounds_toArray, List.set_cons_zero, List.set_cons_succ]
        refine wpAnyH_take (i := 16) (oi := ⟨some 60, _, _, _, _, _⟩) rfl (by kernel_rfl) (by kernel_rfl) (by kernel_rfl) (fun _ _ _ h => h) (Or.inl ⟨by rfl, fun w hw => by ((try dsimp only at hw); go_split_ands; go_simp; with_reducible rfl)⟩) (by assumption) ?_
        try simp only [Act.put, List.setIfInBounds_toArray, List.set_cons_zero, List.set_cons_succ]
        clear hH
        refine wpAnyH_done (by kernel_rfl) ?_ _
        have HB4 : Hid (Below w2.heap.size w2 w4) := HB.out.trans (HB0.out.mono HB.out.size)
        have HO4 := Lib.hid (HO.out.later HB0.out)
        clear HO HB HB0
        have hcd : w4.cell? ⟨b, o + k * 34 + 32, none⟩ = some (.bool x.del) := ch_del (HR.out w4 HB4.out) HKX.out.2
        obtain ⟨dl, hdl⟩ : ∃ d, x.del = d := ⟨_, rfl⟩
        rw [hdl] at hcd HNX
        cases dl with
        | true =>
          have HN1 : Hid (lst Y M = stayL (lst Z (k + 1))) := by show _ = _; rw [HNX.out, if_pos rfl, List.append_nil]; exact HY.out
          clear HNX HY hdl
          go_wp2_with fail
          go_roundw
          case rel => exact ⟨k + 1, by omega, by go_num, rfl, ⟨M, Y, Ad, Cp, by omega, HO4.out, HN1.out⟩, HB4.out⟩
          case measure => simp [intOf]; omega
        | false =>
          have HN1 : Hid (stayL (lst Z (k + 1)) = stayL (lst Z k) ++ [x]) := by show _ = _; rw [HNX.out, if_neg (by decide)]
          clear HNX hdl
          go_upto_region 15 with fail
          clear hcd
          have HSS : Hid (∀ W, Below w2.heap.size w2 W → W.rangeAt b (o + k * 34) (bvs x.key) ∧ W.cell? ⟨b, o + k * 34 + 33, none⟩ = some (.slice Av x.val.length Cv)) := fun W hb => ⟨ch_key (HR.out W hb), ch_val (HR.out W hb) HKX.out.2⟩
          have HB5 : Hid (Below w2.heap.size w2 w4.drew) := HB4.out.trans (drewN_below (Below.refl _ _) 1)
          have HO5 : Hid (EntsOwn w4.drew w2.heap.size u6 M Y Ad Cp) := HO4.out.later (drewN_below (Below.refl _ _) 1)
          refine wp_region_held_drew (S := fun w' => w'.rangeAt b (o + k * 34) (bvs x.key) ∧ w'.cell? ⟨b, o + k * 34 + 33, none⟩ = some (.slice Av x.val.length Cv)) (by kernel_rfl) (HSS.out _ HB5.out) fun hH => ?_
          generalize w4.drew = w5 at *
          refine wpAnyH_take (i := 0) (oi := ⟨some 69, _, _, _, _, _⟩) rfl (by kernel_rfl) (by kernel_rfl) (by kernel_rfl) (fun _ _ _ h => h) (Or.inl ⟨by rfl, fun w hw => by ((try dsimp only at hw); go_split_ands; go_simp; with_reducible rfl)⟩) (by assumption) ?_
          try simp only [Act.put, List.setIfInBounds_toArray, List.set_cons_zero, List.set_cons_succ]
          refine wpAnyH_take (i := 1) (oi := ⟨some 70, _, _, _, _, _⟩) rfl (by kernel_rfl) (by kernel_rfl) (by kernel_rfl) (fun _ _ _ h => h) (Or.inl ⟨by rfl, fun w hw => by ((try dsimp only at hw); go_split_ands; go_simp; with_reducible rfl)⟩) (by assumption) ?_
          try simp only [Act.put, List.setIfInBounds_toArray, List.set_cons_zero, List.set_cons_succ]
          refine wpAnyH_take (i := 2) (oi := ⟨some 71, _, _, _, _, _⟩) rfl (by kernel_rfl) (by kernel_rfl) (by kernel_rfl) (fun _ _ _ h => h) (Or.inl ⟨by rfl, fun w hw => by ((try dsimp only at hw); go_split_ands; go_simp; with_reducible rfl)⟩) (by assumption) ?_
          try simp only [Act.put, List.setIfInBounds_toArray, List.set_cons_zero, List.set_cons_succ]
          refine wpAnyH_take (i := 3) (oi := ⟨some 72, _, _, _, _, _⟩) rfl (by kernel_rfl) (by kernel_rfl) (by kernel_rfl) (fun _ _ _ h => h) (Or.inl ⟨by rfl, fun w hw => by ((try dsimp only at hw); go_split_ands; go_simp; with_reducible rfl)⟩) (by assumption) ?_
          try simp only [Act.put, List.setIfInBounds_toArray, List.set_cons_zero, List.set_cons_succ]
          refine wpAnyH_take (i := 4) (oi := ⟨some 73, _, _, _, _, _⟩) rfl (by kernel_rfl) (by kernel_rfl) (by kernel_rfl) (fun _ _ _ h => h) (Or.inl ⟨by rfl, fun w hw => by ((try dsimp only at hw); go_split_ands; go_simp; with_reducible rfl)⟩) (by assumption) ?_
          try simp only [Act.put, List.setIfInBounds_toArray, List.set_cons_zero, List.set_cons_succ]
          refine wpAnyH_take (i := 5) (oi := ⟨some 74, _, _, _, _, _⟩) rfl (by kernel_rfl) (by kernel_rfl) (by kernel_rfl) (fun _ _ _ h => h) (yieldsIf_load_mid (by rfl) _ _ rfl _ _ rfl _ _ (fun w hw => by (try dsimp only at hw); go_split_ands; assumption) (by assumption) rfl (by assumption)) (by assumption) ?_
          try simp only [Act.put, List.setIfInBounds_toArray, List.set_cons_zero, List.set_cons_succ]
          refine wpAnyH_take (i := 6) (oi := ⟨some 75, _, _, _, _, _⟩) rfl (by kernel_rfl) (by kernel_rfl) (by kernel_rfl) (fun _ _ _ h => h) (Or.inl ⟨by rfl, fun w hw => by ((try dsimp only at hw); go_split_ands; go_simp; with_reducible rfl)⟩) (by assumption) ?_
          try simp only [Act.put, List.setIfInBounds_toArray, List.set_cons_zero, List.set_cons_succ]
          refine wpAnyH_take (i := 7) (oi := ⟨some 76, _, _, _, _, _⟩) rfl (by kernel_rfl) (by kernel_rfl) (by kernel_rfl) (fun _ _ _ h => h) (Or.inl ⟨by rfl, fun w hw => by ((try dsimp only at hw); go_split_ands; go_simp; with_reducible rfl)⟩) (by assumption) ?_
          try simp only [Act.put, List.setIfInBounds_toArray, List.set_cons_zero, List.set_cons_succ]
          refine wpAnyH_take (i := 8) (oi := ⟨some 77, _, _, _, _, _⟩) rfl (by kernel_rfl) (by kernel_rfl) (by kernel_rfl) (fun _ _ _ h => h) (Or.inl ⟨by rfl, fun w hw => by ((try dsimp only at hw); go_split_ands; go_simp; with_reducible rfl)⟩) (by assumption) ?_
          try simp only [Act.put, List.setIfInBounds_toArray, List.set_cons_zero, List.set_cons_succ]
          refine wpAnyH_take (i := 9) (oi := ⟨some 78, _, _, _, _, _⟩) rfl (by kernel_rfl) (by kernel_rfl) (by kernel_rfl) (fun _ _ _ h => h) (Or.inl ⟨by rfl, fun w hw => by ((try dsimp only at hw); go_split_ands; go_simp; with_reducible rfl)⟩) (by assumption) ?_
          try simp only [Act.put, List.setIfInBounds_toArray, List.set_cons_zero, List.set_cons_succ]
          refine wpAnyH_take (i := 10) (oi := ⟨some 79, _, _, _, _, _⟩) rfl (by kernel_rfl) (by kernel_rfl) (by kernel_rfl) (fun _ _ _ h => h) (Or.inl ⟨by rfl, fun w hw => by ((try dsimp only at hw); go_split_ands; go_simp; with_reducible rfl)⟩) (by assumption) ?_
          try simp only [Act.put, List.setIfInBounds_toArray, List.set_cons_zero, List.set_cons_succ]
          clear hH huk hszk HO4 HB4
          refine wpAnyH_ready (rs := [11]) (by kernel_rfl) (by simp) ?_
          refine AllReadyH.cons rfl (fun K hK => ?_) AllReadyH.nil
          refine wpOp_build (o := ⟨some 80, _, _, _, _, _⟩) (by rfl) w5 72 #[(0, .tmp 74), (1, .tmp 79)] rfl [(0, .agg (bvs x.key).toArray), (1, .slice Av x.val.length Cv)] (by simp [go_sem]) _ (built_en2 HKX.out.2) ?_
          refine hK.out _ _ (HSS.out _ HB5.out) (fun hH => ?_)
          clear hK
          refine wpAnyH_ready (rs := [12]) (by kernel_rfl) (by simp) ?_
          refine AllReadyH.cons rfl (fun K hK => ?_) AllReadyH.nil
          refine wpOp_buildSlice1 (o := ⟨some 81, _, _, _, _, _⟩) (by rfl) w5 36 72 _ 33 (.tmp 80) rfl und_enl info_ent (by decide) (by decide) (enC x Av Cv).toArray rfl (by rw [List.size_toArray, enC_length HKX.out.2]) ?_
          refine hK.out _ _ (HSS.out _ (HB5.out.alloc HB5.out.size _)) (fun hH => ?_)
          clear hK
          refine wpAnyH_ready (rs := [13]) (by kernel_rfl) (by simp) ?_
          refine AllReadyH.cons rfl (fun K hK => ?_) AllReadyH.nil
          refine wpOp_append1E (o := ⟨some 82, _, _, _, _, _⟩) und_enl info_ent3 rfl (by rfl) w5 (.tmp 69) (.tmp 81) rfl w2.heap.size _ M _ HO5.out.own (enC x Av Cv) (enC_length HKX.out.2) enC_one rfl rfl (by omega) (by omega) HB5.out.size ?_
          intro v6 w6 ho6 hg6 hl6
          have HO6 := Lib.hid (HO5.out.more HKX.out ⟨HV.out.1.below HB5.out, HV.out.2⟩ (HAP.out _ fun B hB => HO5.out.ge B hB) ho6 hg6 hl6)
          have HB6 : Hid (Below w2.heap.size w2 w6) := HB5.out.grown hg6 HB5.out.size HO5.out.ge
          refine hK.out _ _ (HSS.out _ HB6.out) (fun hH => ?_)
          clear hK ho6 hg6 hl6
          refine wpAnyH_take (i := 14) (oi := ⟨some 6, _, _, _, _, _⟩) rfl (by kernel_rfl) (by kernel_rfl) (by kernel_rfl) (fun _ _ _ h => h) (Or.inl ⟨by rfl, fun w hw => by ((try dsimp only at hw); go_split_ands; go_simp; with_reducible rfl)⟩) (by assumption) ?_
          try simp only [Act.put, List.setIfInBounds_toArray, List.set_cons_zero, List.set_cons_succ]
          refine wpAnyH_done (by kernel_rfl) ?_ _
          have HZ6 : Hid (lst (upd Y M x) (M + 1) = stayL (lst Z (k + 1))) := by show _ = _; rw [HN1.out, lst_upd, HY.out]
          go_wp2_with fail
          go_roundw
          case rel => exact ⟨k + 1, by omega, by go_num, rfl, ⟨M + 1, _, _, _, by omega, HO6.out, HZ6.out⟩, HB6.out⟩
          case measure => simp [intOf]; omega
    · have hnlt : ¬ (k : Int) < N := by omega
      obtain rfl : k = N := by omega
      go_wp2_with fail
      go_loopw [6, 7] (fun v i wr' => v = u6 ∧ i = .int .i64 0 ∧ wr' = wr) (fun _ _ _ => 0)
      case atStart => exact ⟨rfl, rfl, rfl⟩
      case round =>
        obtain ⟨rfl, rfl, rfl⟩ := hrel
        go_wp2_with fail
        go_ret
        exact ⟨_, M, Y, Ad, Cp, Z, rfl, HO.out.mono HW.out.size, HW.out.trans (HB.out.mono HW.out.size), HZ.out.1, HZ.out.2, HY.out, hMk⟩
end Go.Proofs.YtfnlhfaihoojfaaDoor

/- ledgerlaw13: within, mapped; ledgerref12.Bytes. -/
namespace Go.Proofs.YtfnlhfaihoojfaaDoor
open Go.RowKit
set_option maxHeartbeats 1000000 in
theorem within_any (n lo hi : Int) (w : World) (h0 : 0 ≤ lo) (h1 : lo ≤ hi) (h2 : hi ≤ 1099511627776) :
    Calls Tryd.prog 9 #[.int .i64 n, .int .i64 lo, .int .i64 hi] w fun e w' => (∃ r : Int, e = .returned (.int .i64 r) ∧ lo ≤ r ∧ r ≤ hi) ∧ w' = w := by
  obtain ⟨Q, hQ⟩ : ∃ Q, n.tmod (hi - lo + 1) = Q := ⟨_, rfl⟩
  have hq1 : Q < hi - lo + 1 := by rw [← hQ]; exact Int.tmod_lt_of_pos n (by omega)
  have hq2 : -(hi - lo + 1) < Q := by rw [← hQ]; have := Int.lt_tmod_of_pos n (show 0 < hi - lo + 1 by omega); omega
  have hz : ¬ hi - lo + 1 = 0 := by omega
  by_cases hn : Q < 0
  · go_enter Tryd.func9, Tryd.ntmps9
    go_wp2_with fail
    go_ret
    exact ⟨⟨_, rfl, by omega, by omega⟩, rfl⟩
  · go_enter Tryd.func9, Tryd.ntmps9
    go_wp2_with fail
    go_ret
    exact ⟨⟨_, rfl, by omega, by omega⟩, rfl⟩
/-- A map in memory. -/
structure MapAt (w : World) (A : Option Addr) (M C : Nat) (Y : Nat → Chg) : Prop where
  ents : EntsAt w A M Y
  le : M ≤ C
  few : M ≤ 4096
  val : ∀ k, k < M → (Y k).val.length ≤ 128
  nodup : (keysOf (lst Y M)).Nodup
  sorted : Sorted (lst Y M)
theorem MapAt.below {w w' : World} {A : Option Addr} {M C : Nat} {Y : Nat → Chg} (h : MapAt w A M C Y) (hb : Below w.heap.size w w') : MapAt w' A M C Y := { h with ents := h.ents.below hb }
theorem MapAt.good {w : World} {A : Option Addr} {M C : Nat} {Y : Nat → Chg} (h : MapAt w A M C Y) : GoodM (lst Y M) := fun x hx => by
  obtain ⟨i, hi, rfl⟩ := mem_lst.1 hx
  obtain ⟨_, _, _, _, _, _, _, h4, h5, h6, _⟩ := h.ents.2 i hi
  exact ⟨h4, h5, h6.2.1, h.val i hi⟩
def MapRet (w : World) (e : Ending) (w' : World) : Prop := ∃ A M C Y, e = .returned (.slice A M C) ∧ MapAt w' A M C Y ∧ Below w.heap.size w w'
theorem plainC_val {x : Chg} (h : long x = false) : (plainC x).val.length ≤ 128 := by
  unfold plainC
  unfold long at h
  cases hd : x.del with
  | true => simp
  | false =>
    rw [hd] at h
    simp at h ⊢
    omega
theorem plainC_short {x : Chg} (h : x.val.length ≤ 128) : (plainC x).val.length ≤ 128 := by
  unfold plainC
  split
  · simp
  · exact h
theorem keys_plain (l : List Chg) : keysOf (l.map plainC) = keysOf l := by
  unfold keysOf
  rw [List.map_map]
  exact List.map_congr_left fun x _ => plainC_key x
theorem mapped_plain {X Z1 Z2 Y : Nat → Chg} {N M : Nat} (h : wrongN X N 4096 = 0) (p1 : (lst Z1 N).Perm ((lst X N).map plainC)) (s2 : Sorted (lst Z2 N)) (p2 : (lst Z2 N).Perm ((lst Z1 N).map plainC)) (hy : lst Y M = stayL (lst Z2 N)) :
    N ≤ 4096 ∧ (∀ k, k < N → (Z1 k).val.length ≤ 128) ∧ (∀ k, k < M → (Y k).val.length ≤ 128) ∧ (keysOf (lst Y M)).Nodup ∧ Sorted (lst Y M) := by
  obtain ⟨h1, h2⟩ := wrong_zero h
  obtain ⟨h3, h4⟩ := heldN_le h1
  have hn : (keysOf (lst X N)).Nodup := Classical.byContradiction fun hc => by have := nodup_rep.2 hc; omega
  have hv1 : ∀ x, x ∈ lst Z1 N → x.val.length ≤ 128 := fun x hx => by
    obtain ⟨y, hy, rfl⟩ := List.mem_map.1 (p1.mem_iff.1 hx)
    obtain ⟨i, hi, rfl⟩ := mem_lst.1 hy
    exact plainC_val (anyLong_not h4 hi)
  have hv2 : ∀ x, x ∈ lst Z2 N → x.val.length ≤ 128 := fun x hx => by
    obtain ⟨y, hy, rfl⟩ := List.mem_map.1 (p2.mem_iff.1 hx)
    exact plainC_short (hv1 y hy)
  have hk : (keysOf (lst Z2 N)).Nodup := by
    rw [nodup_perm p2, keys_plain, nodup_perm p1, keys_plain]
    exact hn
  refine ⟨h3, fun k hk => hv1 _ (mem_at hk), fun k hk => hv2 _ ?_, ?_, ?_⟩
  · have h5 : Y k ∈ stayL (lst Z2 N) := by rw [← hy]; exact mem_at hk
    exact (List.mem_filter.1 h5).1
  · rw [hy]; exact filter_nodup hk _
  · rw [hy]; exact s2.sublist List.filter_sublist
theorem wrong_facts {X Z1 : Nat → Chg} {N : Nat} (h : wrongN X N 4096 = 0) (p1 : (lst Z1 N).Perm ((lst X N).map plainC)) : N ≤ 4096 ∧ ∀ k, k < N → (Z1 k).val.length ≤ 128 := by
  obtain ⟨h1, _⟩ := wrong_zero h
  obtain ⟨h3, h4⟩ := heldN_le h1
  refine ⟨h3, fun k hk => ?_⟩
  obtain ⟨y, hy, e⟩ := List.mem_map.1 (p1.mem_iff.1 (mem_at hk))
  obtain ⟨i, hi, rfl⟩ := mem_lst.1 hy
  rw [← e]
  exact plainC_val (anyLong_not h4 hi)
set_option maxHeartbeats 1000000 in
theorem mapped_any (A : Option Addr) (N c : Nat) (X : Nat → Chg) (w : World) (hx : ChsAt w A N X) (hc : N ≤ c) (hn : N * 64 ≤ 140737488355328) (hv : ∀ k, k < N → (X k).val.length ≤ 140737488355328) :
    Calls Tryd.prog 10 #[.slice A N c] w (MapRet w) := by
  have HR := Lib.hid (refnormal_any A N c X w hx hc hn hv)
  clear hx hv
  go_enter Tryd.func10, Tryd.ntmps10
  go_wp2_with fail
  refine HR.out.mono ?_
  rintro e w2 ⟨v, rfl, hb, h1, h2⟩
  have HB := Lib.hid hb
  by_cases h0 : wrongN X N 4096 = 0
  · obtain ⟨Z1, Ad, Cp, ho, hs, hp⟩ := h1 h0
    obtain ⟨hN, hv1⟩ := wrong_facts h0 hp
    obtain ⟨A2, c2, rfl, hx2, hc2, _⟩ := ho.form
    have HA := Lib.hid (rapply_nil A2 N c2 Z1 w2 hx2 hc2 (by omega) (fun k hk => by have := hv1 k hk; omega))
    have HFIN : Hid (∀ (Z2 Y : Nat → Chg) M, Sorted (lst Z2 N) → (lst Z2 N).Perm ((lst Z1 N).map plainC) → lst Y M = stayL (lst Z2 N) → N ≤ 4096 ∧ (∀ k, k < N → (Z1 k).val.length ≤ 128) ∧ (∀ k, k < M → (Y k).val.length ≤ 128) ∧ (keysOf (lst Y M)).Nodup ∧ Sorted (lst Y M)) := fun Z2 Y M a b c => mapped_plain h0 hp a b c
    rw [h0]
    clear h1 h2 h0 ho hs hp hv1 hx2 hb
    go_wp2_with fail
    refine HA.out.mono ?_
    rintro e w3 ⟨v3, M, Y, Ad3, Cp3, Z2, rfl, ho3, hb3, hs3, hp3, hy3, hm3⟩
    obtain ⟨f1, f2, f3, f4, f5⟩ := HFIN.out Z2 Y M hs3 hp3 hy3
    obtain ⟨A3, c3, rfl, hx3, hc3, _⟩ := ho3.form
    have HM : Hid (MapRet w (.returned (.slice A3 M c3)) w3) := ⟨A3, M, c3, Y, rfl, ⟨hx3, hc3, by omega, f3, f4, f5⟩, HB.out.trans (hb3.mono HB.out.size)⟩
    clear f1 f2 f3 f4 f5 hx3 ho3 hb3 hs3 hp3 hy3 hm3 hc3
    go_wp2_with fail
    go_ret
    exact HM.out
  · obtain rfl := h2 h0
    obtain ⟨z, hz⟩ : ∃ z, wrongN X N 4096 = z := ⟨_, rfl⟩
    rw [hz] at h0 ⊢
    have h3 : (((z : Nat) : Int) != 0) = true := by rw [bne_iff_ne]; omega
    have HM : Hid (MapRet w (.returned (.slice none 0 0)) w2) := ⟨none, 0, 0, fun _ => default, rfl, ⟨⟨Nat.zero_le _, fun k hk => by omega⟩, Nat.le_refl _, by omega, fun k hk => by omega, List.nodup_nil, List.Pairwise.nil⟩, hb⟩
    clear hz h1 h2 hb
    go_wp2_with fail
    go_ret
    exact HM.out
def BytesRet (wd : Int) (m : List Chg) (ks : List Nat) (w : World) (e : Ending) (w' : World) : Prop := ∃ v, e = .returned v ∧ OwnU w' w.heap.size v (encN (prM wd m ks)) ∧ Below w.heap.size w w'
set_option maxRecDepth 20000 in
set_option maxHeartbeats 1000000 in
theorem rbytes_any (wd : Int) (A : Option Addr) (M C : Nat) (Y : Nat → Chg) (ks : List Nat) (w : World) (hm : MapAt w A M C Y) (hk : IsB ks) (hkl : ks.length = 32) (hT : Tabs1 w) :
    Calls Tryd.prog 12 #[.int .i64 wd, .slice A M C, .agg (bvs ks).toArray] w (BytesRet wd (lst Y M) ks w) := by
  have HP := Lib.hid (fun W (hW : Below w.heap.size w W) => rprove_any wd A M C Y ks W (hm.below hW).ents (by have := hm.few; omega) hm.val hm.nodup hk hkl ⟨hT.1.below hW, hT.2.below hW⟩)
  have HOK := Lib.hid (prM_ok wd hm.good ks)
  have HK := Lib.hid (And.intro hkl hk)
  clear hm hk hkl hT
  go_enter Tryd.func12, Tryd.ntmps12
  go_wp2_with (with_reducible refine stopAt (o := ⟨some 12, _, _, _, _, _⟩) ?_)
  refine start1 (G := fun w2 => Hid (wpList _ _ _ _ _ w2)) fun w2 H1 HW HS => ?_
  have HK2 : Hid (BlkB w2 w.heap.size 31 ks) := H1
  clear H1
  refine Lib.hid ?_
  go_wp2_with (refine wpList_load_arr (o := ⟨some 12, _, _, _, _, _⟩) (by rfl) 31 (.tmp 5) rfl ⟨w.heap.size, 0, none⟩ 32 ks rfl (HK2.out.whole HK.out.2 HK.out.1) (by omega) (by kernel_rfl) (by kernel_rfl) ?_)
  refine (HP.out w2 HW.out).mono ?_
  rintro e w3 ⟨V, S, rfl, hv, hs, hb⟩
  have HV := Lib.hid hv
  have HSm := Lib.hid hs
  have HV1 : Hid (V.oneCell' = true) := row_oneCell hv.1
  have HS1 : Hid (S.oneCell' = true) := row_oneCell hs
  have HB3 : Hid (Below w.heap.size w w3) := HW.out.trans (hb.mono HW.out.size)
  have HRET : Hid (∀ v W, OwnU W w.heap.size v (encN (prM wd (lst Y M) ks)) → Below w.heap.size w W → BytesRet wd (lst Y M) ks w (.returned v) W) := fun v W h1 h2 => ⟨v, rfl, h1, h2⟩
  clear hv hs hb
  generalize prM wd (lst Y M) ks = p at *
  generalize BytesRet wd (lst Y M) ks w = R at *
  go_wp2_with (first
    | ((with_reducible refine stopAt (o := ⟨some 7, _, _, _, _, _⟩) ?_); refine allocNew (o := ⟨some 7, _, _, _, _, _⟩) (by rfl) 57 rfl _ _ info_pr ?_; intro w4 HE4 HW4 HS4)
    | (refine storePr (o := ⟨none, _, _, _, _, _⟩) rfl (.tmp 7) (.tmp 13) rfl w3.heap.size p.found V p.bits S rfl rfl HE4.out HOK.out.bl HV1.out HS1.out ?_; intro w5 hp5 hg5)
    | ((with_reducible refine stopAt (o := ⟨some 15, _, _, _, _, _⟩) ?_); refine loadPr (o := ⟨some 15, _, _, _, _, _⟩) rfl (.tmp 7) rfl w3.heap.size p.found V p.bits S rfl hp5 HOK.out.bl ?_))
  have HB35 : Hid (Below w3.heap.size w3 w5) := HW4.out.grown hg5 HW4.out.size fun k hk => by injection hk with hk; omega
  clear hp5 hg5 HE4 HW4 HS4
  refine (rencode_any w2.heap.size p V S w5 HOK.out ((Touch.ofBelow HB35.out).own HV.out fun _ _ h => h) ((Touch.ofBelow HB35.out).row HSm.out fun _ _ h => h)).mono ?_
  rintro e w6 ⟨v, rfl, hv, hb⟩
  have HB5 : Hid (Below w.heap.size w w5) := HB3.out.trans (HB35.out.mono HB3.out.size)
  have HFIN := Lib.hid (HRET.out v w6 (hv.mono HB5.out.size) (HB5.out.trans (hb.mono HB5.out.size)))
  clear hv hb HRET
  go_wp2_with fail
  exact HFIN.out
end Go.Proofs.YtfnlhfaihoojfaaDoor

/- ledgerref3.Look. -/
namespace Go.Proofs.YtfnlhfaihoojfaaDoor
open Go.RowKit
/-- What Look tells. -/
def LookRet (m : List Chg) (ks : List Nat) (w : World) (e : Ending) (w' : World) : Prop :=
  Below w.heap.size w w' ∧ ∃ Av c, e = .returned (.tuple #[.slice Av (valL m ks).length c, .bool (foundL m ks)]) ∧ RB w' Av (valL m ks).length (valL m ks)
theorem look_at {Y : Nat → Chg} {M h : Nat} {ks : List Nat} (hn : (keysOf (lst Y M)).Nodup) (hh : h < M) (he : (Y h).key = ks) : lookL (lst Y M) ks = some (Y h) := by
  have h1 := look_hit hn hh he
  have h2 : lst Y M = lst Y (h + 1) ++ lst (fun i => Y (h + 1 + i)) (M - (h + 1)) := by rw [← lst_add]; congr 1; omega
  rw [h2]
  unfold lookL at h1 ⊢
  rw [List.find?_append, h1]
  rfl
theorem look_no {Y : Nat → Chg} {M : Nat} {ks : List Nat} (h : ∀ i, i < M → (Y i).key ≠ ks) : lookL (lst Y M) ks = none := by
  unfold lookL
  rw [List.find?_eq_none]
  intro x hx
  obtain ⟨i, hi, rfl⟩ := mem_lst.1 hx
  simpa using h i hi
set_option maxRecDepth 20000 in
set_option maxHeartbeats 2000000 in
theorem rlook_any (A : Option Addr) (M C : Nat) (Y : Nat → Chg) (ks : List Nat) (w : World) (hm : MapAt w A M C Y) (hk : IsB ks) (hkl : ks.length = 32) :
    Calls Tryd.prog 13 #[.slice A M C, .agg (bvs ks).toArray] w (LookRet (lst Y M) ks w) := by
  have HX := Lib.hid hm.ents
  have HK := Lib.hid (And.intro hkl hk)
  have hMI : (M : Int) ≤ 4096 := by have := hm.few; omega
  have HSO := Lib.hid (fun i j (hij : i < j) (hj : j < M) => sorted_lst hm.sorted hij hj)
  have HYES : Hid (∀ h, h < M → (Y h).key = ks → foundL (lst Y M) ks = true ∧ valL (lst Y M) ks = (Y h).val) := fun h hh he => by
    unfold foundL valL
    rw [look_at hm.nodup hh he]
    exact ⟨rfl, rfl⟩
  have HNO : Hid ((∀ i, i < M → (Y i).key ≠ ks) → foundL (lst Y M) ks = false ∧ valL (lst Y M) ks = []) := fun h => by
    unfold foundL valL
    rw [look_no h]
    exact ⟨rfl, rfl⟩
  have HRET : Hid (∀ f vl e w', foundL (lst Y M) ks = f ∧ valL (lst Y M) ks = vl → (Below w.heap.size w w' ∧ ∃ Av c, e = .returned (.tuple #[.slice Av vl.length c, .bool f]) ∧ RB w' Av vl.length vl) → LookRet (lst Y M) ks w e w') := fun f vl e w' hf hp => by
    unfold LookRet
    rw [hf.1, hf.2]
    exact hp
  clear hm hk hkl
  generalize LookRet (lst Y M) ks w = R at *
  go_enter Tryd.func13, Tryd.ntmps13
  go_wp2_with fail
  refine start1 (G := fun w2 => Code.wp _ _ _ _ w2) fun w2 H1 HW HS => ?_
  have HK2 : Hid (BlkB w2 w.heap.size 31 ks) := H1
  clear H1
  go_loopw [6, 7, 8, 9] (fun a b _ _ wr => ∃ lo hi : Nat, lo ≤ hi ∧ hi ≤ M ∧ a = .int .i64 lo ∧ b = .int .i64 hi ∧ Hid (∀ i, i < M → i < lo ∨ hi ≤ i → (Y i).key ≠ ks) ∧ Hid (Below w2.heap.size w2 wr)) (fun a b _ _ _ => (intOf b).toNat - (intOf a).toNat)
  case atStart => exact ⟨0, M, Nat.zero_le _, Nat.le_refl _, rfl, rfl, fun i hi h => by omega, Below.refl _ _⟩
  case round =>
    obtain ⟨lo, hi, hlh, hhM, rfl, rfl, HN, HB⟩ := hrel
    have hhI : (hi : Int) ≤ 4096 := by omega
    by_cases hlt : lo < hi
    · have hlt' : (lo : Int) < hi := by omega
      obtain ⟨h, hh⟩ : ∃ h, (lo + hi) / 2 = h := ⟨_, rfl⟩
      have hq : ((lo : Int) + (hi : Int)).tdiv 2 = (h : Int) := by rw [Int.tdiv_eq_ediv_of_nonneg (by omega)]; omega
      have h1 : lo ≤ h := by omega
      have h2 : h < hi := by omega
      have hhM2 : h < M := by omega
      have hhM' : (h : Int) < M := by omega
      clear hh
      obtain ⟨b, o, Av, Cv, rfl, hb, hr, hkB, hkl, hvr, hvC, hCm, hnil⟩ := HX.out.2 h hhM2
      have HR : Hid (∀ W, Below w.heap.size w W → W.rangeAt b (o + h * 33) (enC (Y h) Av Cv)) := fun W hW => range_below hW hb hr
      have HKX := Lib.hid (And.intro hkB hkl)
      have HBw : Hid (Below w.heap.size w wr) := HW.out.trans (HB.out.mono HW.out.size)
      have HV := Lib.hid hvr
      have HYE := Lib.hid (HYES.out h hhM2)
      have HLO : Hid (numK (Y h).key < numK ks → ∀ i, i < M → i < h + 1 → (Y i).key ≠ ks) := fun hc i hi h3 e => by
        rcases Nat.lt_or_ge i h with h4 | h4
        · have := HSO.out i h h4 hhM2
          rw [e] at this
          omega
        · obtain rfl : i = h := by omega
          rw [e] at hc
          omega
      have HHI : Hid (numK ks < numK (Y h).key → ∀ i, i < M → h ≤ i → (Y i).key ≠ ks) := fun hc i hi h3 e => by
        rcases Nat.lt_or_ge h i with h4 | h4
        · have := HSO.out h i h4 hi
          rw [e] at this
          omega
        · obtain rfl : i = h := by omega
          rw [e] at hc
          omega
      have huk := und_key
      have hszk : (Tryd.prog.info? 31).map (·.size) = some (bvs (Y h).key).length := by rw [size_key]; simp [bvs, hkl]
      have hszk2 : (Tryd.prog.info? 31).map (·.size) = some (bvs ks).length := by rw [size_key]; simp [bvs, HK.out.1]
      clear hr hkB hkl hvr hvC hCm hnil hb HYES
      generalize Y h = x at *
      go_upto_region 5 with fail
      have HSS : Hid (∀ W, Below wr.heap.size wr W → W.rangeAt b (o + h * 33) (bvs x.key) ∧ W.rangeAt w.heap.size 0 (bvs ks)) := fun W hb => ⟨en_key (HR.out W (HBw.out.trans (hb.mono HBw.out.size))), BlkIs.range (BlkIs.below (BlkIs.below HK2.out HB.out) hb)⟩
      refine wp_region_held_drew (S := fun w' => w'.rangeAt b (o + h * 33) (bvs x.key) ∧ w'.rangeAt w.heap.size 0 (bvs ks)) (by kernel_rfl) (HSS.out _ (drewN_below (Below.refl _ _) 1)) fun hH => ?_
      have HB0 : Hid (Below wr.heap.size wr wr.drew) := drewN_below (Below.refl _ _) 1
      generalize wr.drew = w4 at *
      refine wpAnyH_take (i := 0) (oi := ⟨some 19, _, _, _, _, _⟩) rfl (by kernel_rfl) (by kernel_rfl) (by kernel_rfl) (fun _ _ _ h => h) (Or.inl ⟨by rfl, fun w hw => by ((try dsimp only at hw); go_split_ands; go_simp; with_reducible rfl)⟩) (by assumption) ?_
      try simp only [Act.put, List.setIfInBounds_toArray, List.set_cons_zero, List.set_cons_succ]
      refine wpAnyH_take (i := 1) (oi := ⟨some 20, _, _, _, _, _⟩) rfl (by kernel_rfl) (by kernel_rfl) (by kernel_rfl) (fun _ _ _ h => h) (Or.inl ⟨by rfl, fun w hw => by ((try dsimp only at hw); go_split_ands; go_simp; with_reducible rfl)⟩) (by assumption) ?_
      try simp only [Act.put, List.setIfInBounds_toArray, List.set_cons_zero, List.set_cons_succ]
      refine wpAnyH_take (i := 2) (oi := ⟨some 21, _, _, _, _, _⟩) rfl (by kernel_rfl) (by kernel_rfl) (by kernel_rfl) (fun _ _ _ h => h) (Or.inl ⟨by rfl, fun w hw => by ((try dsimp only at hw); go_split_ands; go_simp; with_reducible rfl)⟩) (by assumption) ?_
      try simp only [Act.put, List.setIfInBounds_toArray, List.set_cons_zero, List.set_cons_succ]
      refine wpAnyH_take (i := 3) (oi := ⟨some 22, _, _, _, _, _⟩) rfl (by kernel_rfl) (by kernel_rfl) (by kernel_rfl) (fun _ _ _ h => h) (Or.inl ⟨by rfl, fun w hw => by ((try dsimp only at hw); go_split_ands; go_simp; with_reducible rfl)⟩) (by assumption) ?_
      try simp only [Act.put, List.setIfInBounds_toArray, List.set_cons_zero, List.set_cons_succ]
      refine wpAnyH_take (i := 4) (oi := ⟨some 23, _, _, _, _, _⟩) rfl (by kernel_rfl) (by kernel_rfl) (by kernel_rfl) (fun _ _ _ h => h) (yieldsIf_load_mid (by rfl) _ _ rfl _ _ rfl _ _ (fun w hw => by (try dsimp only at hw); go_split_ands; assumption) (by assumption) rfl (by assumption)) (by assumption) ?_
      try simp only [Act.put, List.setIfInBounds_toArray, List.set_cons_zero, List.set_cons_succ]
      refine wpAnyH_take (i := 5) (oi := ⟨some 24, _, _, _, _, _⟩) rfl (by kernel_rfl) (by kernel_rfl) (by kernel_rfl) (fun _ _ _ h => h) (yieldsIf_load_mid (by rfl) _ _ rfl _ _ rfl _ _ (fun w hw => by (try dsimp only at hw); go_split_ands; assumption) (by assumption) rfl (by assumption)) (by assumption) ?_
      try simp only [Act.put, List.setIfInBounds_toArray, List.set_cons_zero, List.set_cons_succ]
      clear hH huk hszk hszk2
      refine wpAnyH_ready (rs := [6]) (by kernel_rfl) (by simp) ?_
      refine AllReadyH.cons rfl (fun K hK => ?_) (AllReadyH.nil)
      go_simp
      go_at_call 30
      refine (refcompare_num x.key ks w4 HKX.out.1 HKX.out.2 HK.out.2 HK.out.1).mono ?_
      rintro e w5 ⟨rfl, hb5⟩
      have HB5 : Hid (Below wr.heap.size wr w5) := HB0.out.trans (hb5.mono HB0.out.size)
      refine hK.out _ _ (HSS.out _ HB5.out) (fun hH => ?_)
      clear hK hb5
      refine wpAnyH_take (i := 7) (oi := ⟨some 9, _, _, _, _, _⟩) rfl (by kernel_rfl) (by kernel_rfl) (by kernel_rfl) (fun _ _ _ h => h) (Or.inl ⟨by rfl, fun w hw => by ((try dsimp only at hw); go_split_ands; go_simp; with_reducible rfl)⟩) (by assumption) ?_
      try simp only [Act.put, List.setIfInBounds_toArray, List.set_cons_zero, List.set_cons_succ]
      refine wpAnyH_done (by kernel_rfl) ?_ _
      have HB25 : Hid (Below w2.heap.size w2 w5) := HB.out.trans (HB5.out.mono HB.out.size)
      have HBw5 : Hid (Below w.heap.size w w5) := HBw.out.trans (HB5.out.mono HBw.out.size)
      clear hH HB HBw HSS HB0 HB5
      rcases Nat.lt_trichotomy (numK x.key) (numK ks) with hc | hc | hc
      · have hz : cmpZ (numK x.key) (numK ks) = -1 := by unfold cmpZ; rw [if_pos hc]
        have HN2 := Lib.hid (HLO.out hc)
        rw [hz]
        clear hz hc
        go_wp2_with fail
        go_roundw
        case rel => exact ⟨h + 1, hi, by omega, hhM, by go_num, rfl, fun i hi h3 => by
          rcases h3 with h3 | h3
          · exact HN2.out i hi h3
          · exact HN.out i hi (.inr h3), HB25.out⟩
        case measure => simp [intOf]; omega
      · have hz : cmpZ (numK x.key) (numK ks) = 0 := by unfold cmpZ; rw [if_neg (by omega), if_neg (by omega)]
        have he : x.key = ks := numK_inj HKX.out.1 HK.out.2 HKX.out.2 HK.out.1 hc
        have HY := Lib.hid (HYE.out he)
        have hcv : w5.cell? ⟨b, o + h * 33 + 32, none⟩ = some (.slice Av x.val.length Cv) := en_val (HR.out _ HBw5.out) HKX.out.2
        rw [hz]
        clear hz hc he
        go_wp2_with fail
        exact HRET.out _ _ _ _ HY.out ⟨HBw5.out, Av, Cv, rfl, HV.out.below HBw5.out⟩
      · have hz : cmpZ (numK x.key) (numK ks) = 1 := by unfold cmpZ; rw [if_neg (by omega), if_pos hc]
        have HN2 := Lib.hid (HHI.out hc)
        rw [hz]
        clear hz hc
        go_wp2_with fail
        go_roundw
        case rel => exact ⟨lo, h, h1, by omega, rfl, rfl, fun i hi h3 => by
          rcases h3 with h3 | h3
          · exact HN.out i hi (.inl h3)
          · exact HN2.out i hi h3, HB25.out⟩
        case measure => simp [intOf]; omega
    · have hnlt : ¬ (lo : Int) < hi := by omega
      have HF := Lib.hid (HNO.out fun i hi => HN.out i hi (by omega))
      have HBw : Hid (Below w.heap.size w wr) := HW.out.trans (HB.out.mono HW.out.size)
      go_wp2_with fail
      exact HRET.out _ _ _ _ HF.out ⟨HBw.out, none, 0, rfl, rfl, IsB.nil, fun h => absurd h (Nat.lt_irrefl 0)⟩
end Go.Proofs.YtfnlhfaihoojfaaDoor
