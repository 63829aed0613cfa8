/- frame.empty. -/
import Derived.Test.YtbjbpgbpefkbhaaDoorChoose
import Derived.Stop.BytesEq
import Derived.BigFrame
namespace Go.Proofs.YtbjbpgbpefkbhaaDoor
open Go.RowKit
/-- An array of bytes is read, as a value, by a guarded operation. -/
theorem wpList_load_arrG {P : Program} {ops : Array Oper} {rest : List Oper} {o : Oper} {a : Act} {w : World} {Q : Exit → Act → World → Prop} (hw : Region.wanted o (yielded ops a.tmps) = true) (ty : TypeId) (x : Operand) (ho : o.op = .load ty x)
    (ad : Addr) (n : Nat) (ys : List Nat) (hx : a.eval x = .pointer (some ad)) (hr : RB w (some ad) n ys) (hn : 0 < n) (hrow : (P.underlying ty).map (·.isRow) = some true) (hi : (P.info? ty).map (·.size) = some n)
    (h : wpList P ops Q rest (a.put o.dst (.agg (bvs ys).toArray)) w) : wpList P ops Q (o :: rest) a w := by
  refine wpList_step fun K hK => ?_
  rw [if_pos hw]
  obtain ⟨d, hu, hd⟩ := row_of hrow
  obtain ⟨ad', e, _, hc⟩ := hr.2.2 hn
  injection e with e
  subst e
  have hl : (loadCells ad (bvs ys).length).run P w = .ok (bvs ys).toArray w := run_loadCells_list (P := P) w ad (bvs ys) (fun j v hv => by
    simp only [bvs, List.getElem?_map, Option.map_eq_some_iff] at hv
    obtain ⟨y, hy, rfl⟩ := hv
    exact hc j y hy)
  have hlv : (loadVar ty ad).run P w = .ok (.agg (bvs ys).toArray) w := by
    cases hq : P.info? ty with
    | none => simp [hq] at hi
    | some i =>
      have hs : i.size = (bvs ys).length := by
        have : i.size = n := by simpa [hq] using hi
        simp [bvs, this, hr.1]
      have hagg : (isAgg ty).run P w = .ok true w := by
        unfold isAgg
        rw [Sem.run_bind, run_underlying hu w]
        cases d <;> simp_all
      simp [loadVar, Sem.run_bind, hagg, sizeOf, typeInfo, hq, hs, hl]
  unfold Oper.wp execOp
  simp only [ho, hx, Instr.loadAt, Instr.sureAddr, Sem.run_bind, Sem.run_pure, Result.andThen_ok, hlv]
  exact hK _ _ h
theorem bvs_cells {xs : List Nat} (h : IsB xs) : bvs xs = (xs.map UInt8.ofNat).map Extern.Stop.cell := by
  rw [List.map_map]
  apply List.map_congr_left
  intro x hx
  have := h x hx
  show Value.int .u8 (x : Int) = Value.int .u8 ((UInt8.ofNat x).toNat : Int)
  rw [UInt8.toNat_ofNat', Nat.mod_eq_of_lt (show x < 2 ^ 8 from this)]
theorem map_ofNat_inj {xs ys : List Nat} (hx : IsB xs) (hy : IsB ys) (h : xs.map UInt8.ofNat = ys.map UInt8.ofNat) : xs = ys := by
  have h2 := congrArg (List.map UInt8.toNat) h
  rw [List.map_map, List.map_map] at h2
  have f : ∀ zs : List Nat, IsB zs → zs.map (UInt8.toNat ∘ UInt8.ofNat) = zs := fun zs hz => by
    conv => rhs; rw [← List.map_id zs]
    apply List.map_congr_left
    intro x hx
    have := hz x hx
    simp only [Function.comp, UInt8.toNat_ofNat', id]
    omega
  rwa [f xs hx, f ys hy] at h2
theorem eq_arr {P : Program} (w : World) (d : Nat) (t e : TypeId) (n : Nat) (ht : P.underlying t = some (.array n e)) (he : P.underlying e = some (.int .u8)) (hsz : ∀ w, (sizeOf e).run P w = .ok 1 w) {xs ys : List Nat} (hx : IsB xs) (hy : IsB ys) (hxl : xs.length = n) (hyl : ys.length = n) :
    (Op.equalIn (d + 2) t (.agg (bvs xs).toArray) (.agg (bvs ys).toArray)).run P w = .ok (decide (xs = ys)) w := by
  rw [bvs_cells hx, bvs_cells hy, run_equalIn_bytes w d t e n ht he hsz _ _ (by simpa using hxl) (by simpa using hyl)]
  congr 1
  rw [Bool.eq_iff_iff]
  simp only [beq_iff_eq, decide_eq_true_eq]
  exact ⟨map_ofNat_inj hx hy, fun h => by rw [h]⟩
theorem byte_sizeOf (w : World) : (sizeOf 5).run Tryd.prog w = .ok 1 w := by
  have h := byte_size
  cases hq : Tryd.prog.info? 5 with
  | none => simp [hq] at h
  | some i =>
    have hs : i.size = 1 := by simpa [hq] using h
    simp [sizeOf, typeInfo, hq, hs]
theorem empty_iff {xs : List Nat} (hl : xs.length = 256) : emptyN xs = decide (xs.take 64 = zs 64) := by
  unfold emptyN
  apply decide_eq_decide.2
  constructor
  · intro h
    have h2 : ∀ x ∈ (xs.drop 0).take 64, x = 0 := h.2
    rw [List.drop_zero] at h2
    have := zs_of h2
    rwa [List.length_take, hl] at this
  · intro h
    refine ⟨hl, ?_⟩
    show ∀ x ∈ (xs.drop 0).take 64, x = 0
    rw [List.drop_zero, h]
    exact zs_all _
theorem empty_any (A : Option Addr) (n c : Nat) (xs : List Nat) (w : World) (hx : RB w A n xs) (hnc : n ≤ c) :
    Calls Tryd.prog 57 #[.slice A n c] w fun e w' => e = .returned (.bool (emptyN xs)) ∧ w' = w := by
  have HX := Lib.hid hx
  have hlen := hx.1
  clear hx
  by_cases hl : n = 256
  · subst hl
    have HL := Lib.hid hlen
    obtain ⟨ad, rfl, _, _⟩ := HX.out.2.2 (by omega)
    have hA := run_arrayAt (P := Tryd.prog) (w := w) 82 5 64 (some ad) 64 c (by kernel_rfl) (by omega)
    have HY := Lib.hid (HX.out.take (k := 64) (by omega))
    obtain ⟨ya, HYA⟩ : ∃ ya, Hid (ya = (bvs (xs.take 64)).toArray) := ⟨_, rfl⟩
    have HRW : Hid ((Tryd.prog.underlying 82).map (·.isRow) = some true) := by
      show _ = some true
      kernel_rfl
    have HSZ := Lib.hid (zero_of_info zarr64_info).2
    have HEM := Lib.hid (empty_iff hlen)
    obtain ⟨za, HZA⟩ : ∃ za, Hid (za = zarr 64) := ⟨_, rfl⟩
    have hz := (zero_of_info zarr64_info).1
    rw [← HZA.out] at hz
    have heq : (Op.equalIn 10000 82 (.agg ya) (.agg za)).run Tryd.prog w = .ok (emptyN xs) w := by
      rw [HYA.out, HZA.out, HEM.out]
      exact eq_arr w 9998 82 5 64 (by kernel_rfl) (by kernel_rfl) byte_sizeOf HY.out.isB (zs_isB _) HY.out.1 (zs_length _)
    clear hlen
    generalize emptyN xs = em at *
    go_enter Tryd.func57, Tryd.ntmps57
    go_wp2_with (refine wpList_load_arrG (o := ⟨some 10, _, _, _, _, _⟩) (by rfl) 82 (.tmp 9) rfl ad 64 _ rfl HY.out (by omega) HRW.out HSZ.out ?_; rw [← HYA.out])
    go_ret
    exact ⟨rfl, rfl⟩
  · have HR : Hid (emptyN xs = false) := decide_eq_false (by omega)
    have hne : ((n : Int) == 256) = false := by rw [beq_eq_false_iff_ne]; omega
    clear hl hlen
    go_enter Tryd.func57, Tryd.ntmps57
    go_wp2_with fail
    go_ret
    exact ⟨by rw [HR.out]; rfl, rfl⟩
end Go.Proofs.YtbjbpgbpefkbhaaDoor
