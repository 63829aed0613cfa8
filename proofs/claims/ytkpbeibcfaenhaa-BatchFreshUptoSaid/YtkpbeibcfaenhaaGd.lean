/- Sorted, Wrong, Laid (merged by merge_k.py) -/
import Derived.Test.YtkpbeibcfaenhaaGc
import Derived.Test.YtkpbeibcfaenhaaParse
import Derived.Test.YtkpbeibcfaenhaaBytesR
import Derived.Test.YtkpbeibcfaenhaaHeld
import Derived.Test.YtkpbeibcfaenhaaBuild
import Derived.StillTailTactics
/- ledgerref3.plain, sorted. -/
namespace Go.Proofs.Ytkpbeibcfaenhaa
open Go.RowKit
/-- 'api.Change{Key: k, Del: d}'. -/
theorem built_ch2 {key : List Nat} {d : Bool} (hk : key.length = 32) :
    Try.prog.built 45 [(0, .agg (bvs key).toArray), (1, .bool d)] = some (chS key d (.slice none 0 0)).toArray := by
  have hb : ∃ Z : Array Value, Z.size = 34 ∧ Z[33]? = some (.slice none 0 0) ∧ ∀ ps, Try.prog.built 45 ps = Instr.fill (#[(0, 32), (32, 1), (33, 1)][·]?) Z ps := by
    refine ⟨(zarr 32) ++ #[.bool false, .slice none 0 0], by simp [zarr, bvs, zs], by rfl, fun ps => ?_⟩
    have h1 : (Try.prog.info? 45).map (·.zero) = some (some (.agg ((zarr 32) ++ #[.bool false, .slice none 0 0]))) := by kernel_rfl
    obtain ⟨i, hi, hz⟩ : ∃ i, Try.prog.info? 45 = some i ∧ i.zero = some (.agg ((zarr 32) ++ #[.bool false, .slice none 0 0])) := by
      cases hq : Try.prog.info? 45 with
      | none => simp [hq] at h1
      | some i => exact ⟨i, rfl, by simpa [hq] using h1⟩
    have hp : (Try.prog.underlying 45).bind (fun d => match d with | .struct fs => fs.toList.mapM (fun f => (Try.prog.info? f.type).map fun i => (f.offset, i.size)) | _ => none) = some [(0, 32), (32, 1), (33, 1)] := by kernel_rfl
    rw [Try.underlying45] at hp
    unfold Program.built
    rw [hi, Try.underlying45]
    simp only [hz]
    simp only [Option.bind_some] at hp
    rw [hp]
    rfl
  obtain ⟨Z, hZ, hZ3, hb⟩ := hb
  have hkl : (bvs key).length = 32 := by simp [bvs, hk]
  have s1 : ((Value.agg (bvs key).toArray).cells).size = 32 := by simp [Value.cells, hkl]
  rw [hb, fill_step (off := 0) (size := 32) rfl s1 (by omega), fill_step (off := 32) (size := 1) rfl rfl (by rw [spl_size]; omega), Instr.fill]
  congr 1
  apply Array.ext_getElem?
  intro j
  have e1 : ((Value.agg (bvs key).toArray).cells) = (bvs key).toArray := rfl
  have e2 : (Value.bool d).cells = #[Value.bool d] := rfl
  unfold chS
  rw [spl_at (by rw [spl_size, e2]; simp; omega), e2, spl_at (by rw [s1]; omega), e1]
  simp only [List.size_toArray, List.length_cons, List.length_nil, List.getElem?_toArray, hkl]
  by_cases h3 : j = 33
  · subst h3
    rw [if_neg (by omega), if_neg (by omega), List.getElem?_append_right (by omega), hkl]
    exact hZ3
  by_cases h2 : j = 32
  · subst h2
    rw [if_pos (by omega), List.getElem?_append_right (by omega), hkl]
    rfl
  rw [if_neg (by omega)]
  by_cases h1 : j < 32
  · rw [if_pos (by omega), List.getElem?_append_left (by omega), Nat.sub_zero]
  · rw [if_neg (by omega), Array.getElem?_eq_none (by omega), List.getElem?_eq_none (by rw [List.length_append, hkl]; simp; omega)]
theorem plain_next {w w1 w2 w3 w4 : World} {t1 t2 : TypeId} {c1 c2 : Array Value} (hw : Below w.heap.size w w3) (h1 : BlkIs w2 w.heap.size t1 c1) (h2 : BlkIs w2 w1.heap.size t2 c2) (h1' : BlkIs w3 w.heap.size t1 c1) (h2' : BlkIs w3 w1.heap.size t2 c2) (hg : w3.grownBy w4 (some w2.heap.size)) :
    Below w.heap.size w w4 ∧ BlkIs w4 w.heap.size t1 c1 ∧ BlkIs w4 w1.heap.size t2 c2 ∧ w.heap.size < w2.heap.size ∧ w1.heap.size < w2.heap.size := by
  have a1 := BlkIs.lt h1
  have a2 := BlkIs.lt h2
  exact ⟨hw.grown hg hw.size (fun k hk => by injection hk with hk; omega), BlkIs.grown h1' hg (fun e => by injection e with e; omega), BlkIs.grown h2' hg (fun e => by injection e with e; omega), a1, a2⟩
theorem plain_end {w w1 w2 w4 w5 : World} {t1 : TypeId} {c1 : Array Value} {ky vl : List Nat} {A2 : Option Addr} {c2 : Nat} {old : List Value} (h01 : w.heap.size ≤ w1.heap.size) (hb : Below w4.heap.size w4 w5) (hq : Below w.heap.size w w4 ∧ BlkIs w4 w.heap.size t1 c1 ∧ BlkIs w4 w1.heap.size 45 old.toArray ∧ w.heap.size < w2.heap.size ∧ w1.heap.size < w2.heap.size)
    (h4 : BlkIs w4 w2.heap.size 45 (chS ky false (.slice none 0 0)).toArray) (hk : ky.length = 32) (hr : RB w5 A2 vl.length vl) (hle : vl.length ≤ c2) (hcm : c2 ≤ maxLen) (hnil : A2 = none → c2 = 0) (hlo : ∀ ad, A2 = some ad → w4.heap.size ≤ ad.block ∧ ad.block < w5.heap.size) :
    w5.cell? ⟨w2.heap.size, 33, none⟩ = some (.slice none 0 0) ∧ w5.frozen? ⟨w2.heap.size, 33, none⟩ = false ∧ BlkIs (w5.setCell ⟨w2.heap.size, 33, none⟩ (.slice A2 vl.length c2)) w2.heap.size 45 (chS ky false (.slice A2 vl.length c2)).toArray ∧
    BlkIs (w5.setCell ⟨w2.heap.size, 33, none⟩ (.slice A2 vl.length c2)) w1.heap.size 45 old.toArray ∧
    ∀ w6, (w5.setCell ⟨w2.heap.size, 33, none⟩ (.slice A2 vl.length c2)).grownBy w6 (some w1.heap.size) → RB w6 A2 vl.length vl ∧ vl.length ≤ c2 ∧ c2 ≤ maxLen ∧ (A2 = none → c2 = 0) ∧ (∀ ad, A2 = some ad → w.heap.size ≤ ad.block) ∧ Below w.heap.size w w6 := by
  have h5 := BlkIs.below h4 hb
  have hl4 := BlkIs.lt h4
  have hbel : Below w.heap.size w w5 := hq.1.trans (hb.mono hq.1.size)
  refine ⟨?_, BlkIs.frozen h5 33, chs_setval h5 hk _, BlkIs.far (BlkIs.below hq.2.2.1 hb) (by show _ ≠ w2.heap.size; omega) _, fun w6 hg => ⟨?_, hle, hcm, hnil, fun ad e => ?_, ?_⟩⟩
  · rw [BlkIs.cell h5, List.getElem?_toArray, chS, List.getElem?_append_right (by simp [bvs, hk])]
    simp [bvs, hk]
  · have h6 : RB (w5.setCell ⟨w2.heap.size, 33, none⟩ (.slice A2 vl.length c2)) A2 vl.length vl := hr.grownBy (grown_setCell w5 (g := w2.heap.size) 33 _) fun _ ad e he => by
      have := (hlo ad e).1
      injection he with he
      omega
    refine h6.grownBy hg fun _ ad e he => ?_
    have := (hlo ad e).1
    injection he with he
    omega
  · have := (hlo ad e).1
    have := hq.1.size
    omega
  · have h7 : Below w.heap.size w (w5.setCell ⟨w2.heap.size, 33, none⟩ (.slice A2 vl.length c2)) := hbel.setCell (p := ⟨w2.heap.size, 33, none⟩) (by show _ ≤ w2.heap.size; omega) _
    exact h7.grown hg h7.size fun k hk => by injection hk with hk; omega
/-- A change handed back: the value lies in new memory. -/
def ChRet (x : Chg) (w : World) (e : Ending) (w' : World) : Prop := ∃ A C, e = .returned (.agg (chC x A C).toArray) ∧ RB w' A x.val.length x.val ∧ x.val.length ≤ C ∧ C ≤ maxLen ∧ (A = none → C = 0) ∧ (∀ ad, A = some ad → w.heap.size ≤ ad.block) ∧ Below w.heap.size w w'
set_option maxRecDepth 100000 in
set_option maxHeartbeats 1600000 in
theorem plain_any (x : Chg) (A : Option Addr) (C : Nat) (w : World) (hk : x.key.length = 32) (hr : RB w A x.val.length x.val) (hl : x.val.length ≤ 140737488355328) :
    Calls Try.prog 101 #[.agg (chC x A C).toArray] w (ChRet (plainC x) w) := by
  obtain ⟨ky, dl, vl⟩ := x
  have HR := Lib.hid hr
  have HK := Lib.hid hk
  have hsz : (Try.prog.info? 25).map (·.size) = some (bvs ky).length := by rw [size_key]; simp [bvs, HK.out]
  clear hr hk
  go_enter Try.func101, Try.ntmps101
  cases dl
  · go_wp2_with (first
      | ((with_reducible refine stopAt (o := ⟨some 1, _, _, _, _, _⟩) ?_); refine boxNew (o := ⟨some 1, _, _, _, _, _⟩) (by rfl) 45 (.tmp 0) rfl _ rfl ?_; intro w1 HA1 HW1 HS1)
      | ((with_reducible refine stopAt (o := ⟨some 2, _, _, _, _, _⟩) ?_); refine allocNew (o := ⟨some 2, _, _, _, _, _⟩) (by rfl) 45 rfl _ _ info_chS ?_; intro w2 HA2 HW2 HS2; have HA1' := Lib.hid (BlkIs.below HA1.out HW2.out); have HW := Lib.hid (HW1.out.trans (HW2.out.mono HW1.out.size)); have b32 := ch_del (BlkIs.range HA1'.out) HK.out; rw [Nat.zero_add] at b32)
      | ((with_reducible refine stopAt (o := ⟨some 5, _, _, _, _, _⟩) ?_); refine loadRange (o := ⟨some 5, _, _, _, _, _⟩) (by rfl) 25 (.tmp 4) rfl w.heap.size 0 _ rfl (ch_key (BlkIs.range HA1'.out)) row_key hsz ?_)
      | ((with_reducible refine stopAt (o := ⟨some 8, _, _, _, _, _⟩) ?_); refine buildAt (o := ⟨some 8, _, _, _, _, _⟩) (by rfl) 45 #[(0, .tmp 5), (1, .tmp 7)] rfl [(0, .agg (bvs ky).toArray), (1, .bool false)] (by simp [go_sem]) _ (built_ch2 HK.out) ?_)
      | ((with_reducible refine stopAt (o := ⟨some 3, _, _, _, _, _⟩) ?_); refine allocNew (o := ⟨some 3, _, _, _, _, _⟩) (by rfl) 45 rfl _ _ info_chS ?_; intro w3 HA3 HW3 HS3; have HW' := Lib.hid (HW.out.trans (HW3.out.mono HW.out.size)); have HA1'' := Lib.hid (BlkIs.below HA1'.out HW3.out); have HA2' := Lib.hid (BlkIs.below HA2.out HW3.out))
      | ((with_reducible refine stopAt (o := ⟨none, .store _ (.tmp 3) _, _, _, _, _⟩) ?_); refine storeV (o := ⟨none, _, _, _, _, _⟩) (by rfl) 45 (.tmp 3) (.tmp 8) rfl w2.heap.size _ _ 45 rfl rfl HA3.out (by rw [size_chg, chS_length _ _ HK.out]) (by rw [chS_length _ _ HK.out, chS_length _ _ (zs_length 32)]) (chS_one rfl) ?_; intro w4 HA4 HG4 HS4; have HQ := Lib.hid (plain_next HW'.out HA1'.out HA2.out HA1''.out HA2'.out HG4.out); have b32' := ch_del (BlkIs.range HQ.out.2.1) HK.out; have b33' := ch_val (BlkIs.range HQ.out.2.1) HK.out; rw [Nat.zero_add] at b32' b33'; clear HG4 HA3 HW3 HS3 HA1' HA1'' HA2' HA2 HW1 HW2 HW HW' HA1 b32))
    refine (bytes_any A vl.length C vl w4 (HR.out.below HQ.out.1) hl).mono ?_
    rintro e w5 ⟨v, rfl, ho, hb⟩
    obtain ⟨A2, c2, rfl, hr2, hlo2, hnil2, hle2⟩ := ho.form
    have hcm2 := own_max ho
    have HF := Lib.hid (plain_end (by have := HS1.out; omega) hb HQ.out HA4.out HK.out hr2 hle2 hcm2 hnil2 hlo2)
    have c33 := HF.out.1
    have f33 := HF.out.2.1
    clear ho hb hr2 hlo2 hnil2 hle2 hcm2 HQ HA4 b32' b33'
    go_wp2_with (first
      | ((with_reducible refine stopAt (o := ⟨some 16, _, _, _, _, _⟩) ?_); refine loadRange (o := ⟨some 16, _, _, _, _, _⟩) (by rfl) 45 (.tmp 3) rfl w2.heap.size 0 _ rfl (BlkIs.range HF.out.2.2.1) row_chg (by rw [size_chg, chS_length _ _ HK.out]) ?_)
      | ((with_reducible refine stopAt (o := ⟨none, .store _ (.tmp 2) _, _, _, _, _⟩) ?_); refine storeV (o := ⟨none, _, _, _, _, _⟩) (by rfl) 45 (.tmp 2) (.tmp 16) rfl w1.heap.size _ _ 45 rfl rfl HF.out.2.2.2.1 (by rw [size_chg, chS_length _ _ HK.out]) (by rw [chS_length _ _ HK.out, chS_length _ _ (zs_length 32)]) (chS_one rfl) ?_; intro w6 HA6 HG6 HS6))
    refine cells_ret (g := w1.heap.size) rfl rfl HA6.out row_chg (by rw [size_chg, chS_length _ _ HK.out]) rfl ?_
    obtain ⟨h1, h2, h3, h4, h5, h6⟩ := HF.out.2.2.2.2 _ HG6.out
    exact ⟨A2, c2, rfl, h1, h2, h3, h4, h5, h6⟩
  · go_wp2_with (first
      | ((with_reducible refine stopAt (o := ⟨some 1, _, _, _, _, _⟩) ?_); refine boxNew (o := ⟨some 1, _, _, _, _, _⟩) (by rfl) 45 (.tmp 0) rfl _ rfl ?_; intro w1 HA1 HW1 HS1)
      | ((with_reducible refine stopAt (o := ⟨some 2, _, _, _, _, _⟩) ?_); refine allocNew (o := ⟨some 2, _, _, _, _, _⟩) (by rfl) 45 rfl _ _ info_chS ?_; intro w2 HA2 HW2 HS2; have HA1' := Lib.hid (BlkIs.below HA1.out HW2.out); have HW := Lib.hid (HW1.out.trans (HW2.out.mono HW1.out.size)); have b32 := ch_del (BlkIs.range HA1'.out) HK.out; rw [Nat.zero_add] at b32)
      | ((with_reducible refine stopAt (o := ⟨some 5, _, _, _, _, _⟩) ?_); refine loadRange (o := ⟨some 5, _, _, _, _, _⟩) (by rfl) 25 (.tmp 4) rfl w.heap.size 0 _ rfl (ch_key (BlkIs.range HA1'.out)) row_key hsz ?_)
      | ((with_reducible refine stopAt (o := ⟨some 8, _, _, _, _, _⟩) ?_); refine buildAt (o := ⟨some 8, _, _, _, _, _⟩) (by rfl) 45 #[(0, .tmp 5), (1, .tmp 7)] rfl [(0, .agg (bvs ky).toArray), (1, .bool true)] (by simp [go_sem]) _ (built_ch2 HK.out) ?_)
      | ((with_reducible refine stopAt (o := ⟨some 3, _, _, _, _, _⟩) ?_); refine allocNew (o := ⟨some 3, _, _, _, _, _⟩) (by rfl) 45 rfl _ _ info_chS ?_; intro w3 HA3 HW3 HS3; have HW' := Lib.hid (HW.out.trans (HW3.out.mono HW.out.size)); have HA1'' := Lib.hid (BlkIs.below HA1'.out HW3.out); have HA2' := Lib.hid (BlkIs.below HA2.out HW3.out))
      | ((with_reducible refine stopAt (o := ⟨none, .store _ (.tmp 3) _, _, _, _, _⟩) ?_); refine storeV (o := ⟨none, _, _, _, _, _⟩) (by rfl) 45 (.tmp 3) (.tmp 8) rfl w2.heap.size _ _ 45 rfl rfl HA3.out (by rw [size_chg, chS_length _ _ HK.out]) (by rw [chS_length _ _ HK.out, chS_length _ _ (zs_length 32)]) (chS_one rfl) ?_; intro w4 HA4 HG4 HS4; have HQ := Lib.hid (plain_next HW'.out HA1'.out HA2.out HA1''.out HA2'.out HG4.out); have b32' := ch_del (BlkIs.range HQ.out.2.1) HK.out; have b33' := ch_val (BlkIs.range HQ.out.2.1) HK.out; rw [Nat.zero_add] at b32' b33'; clear HG4 HA3 HW3 HS3 HA1' HA1'' HA2' HA2 HW1 HW2 HW HW' HA1 b32)
      | ((with_reducible refine stopAt (o := ⟨some 16, _, _, _, _, _⟩) ?_); refine loadRange (o := ⟨some 16, _, _, _, _, _⟩) (by rfl) 45 (.tmp 3) rfl w2.heap.size 0 _ rfl (BlkIs.range HA4.out) row_chg (by rw [size_chg, chS_length _ _ HK.out]) ?_)
      | ((with_reducible refine stopAt (o := ⟨none, .store _ (.tmp 2) _, _, _, _, _⟩) ?_); refine storeV (o := ⟨none, _, _, _, _, _⟩) (by rfl) 45 (.tmp 2) (.tmp 16) rfl w1.heap.size _ _ 45 rfl rfl HQ.out.2.2.1 (by rw [size_chg, chS_length _ _ HK.out]) (by rw [chS_length _ _ HK.out, chS_length _ _ (zs_length 32)]) (chS_one rfl) ?_; intro w5 HA5 HG5 HS5))
    refine cells_ret (g := w1.heap.size) rfl rfl HA5.out row_chg (by rw [size_chg, chS_length _ _ HK.out]) rfl ?_
    refine ⟨none, 0, rfl, RB.nil _ _, Nat.le_refl _, Nat.zero_le _, (fun _ => rfl), (fun ad e => by cases e), ?_⟩
    exact HQ.out.1.grown HG5.out HQ.out.1.size (fun k hk => by injection hk with hk; have := HS1.out; omega)
theorem ChsAt.take {w : World} {A : Option Addr} {N h : Nat} {X : Nat → Chg} (hx : ChsAt w A N X) (hh : h ≤ N) : ChsAt w A h X := ⟨by have := hx.1; omega, fun k hk => hx.2 k (by omega)⟩
theorem ChsAt.drop {w : World} {A B : Option Addr} {N h : Nat} {X : Nat → Chg} (hx : ChsAt w A N X) (hh : h ≤ N) (hB : h < N → B = A.map (·.add (h * 34))) : ChsAt w B (N - h) (fun k => X (h + k)) := ⟨by have := hx.1; omega, fun k hk => by
  obtain ⟨b, o, Av, C, e, h2, h3, h4⟩ := hx.2 (h + k) (by omega)
  refine ⟨b, o + h * 34, Av, C, by rw [hB (by omega), e]; simp [add_lit], h2, ?_, h4⟩
  rw [show o + h * 34 + k * 34 = o + (h + k) * 34 by omega]
  exact h3⟩
def SortRet (N : Nat) (X : Nat → Chg) (w : World) (e : Ending) (w' : World) : Prop := ∃ Z, ChsRet N Z w e w' ∧ Sorted (lst Z N) ∧ (lst Z N).Perm ((lst X N).map plainC)
theorem map_lst (f : Chg → Chg) (X : Nat → Chg) (n : Nat) : (lst X n).map f = lst (fun k => f (X k)) n := by simp [lst]
theorem sorted_short {Z : Nat → Chg} {n : Nat} (h : n < 2) : Sorted (lst Z n) := by
  rcases n with _ | _ | n
  · simp [lst, Sorted]
  · simp [lst, Sorted]
  · omega
theorem sort_join {X Z1 Z2 : Nat → Chg} {h N : Nat} (hh : h ≤ N) (s1 : Sorted (lst Z1 h)) (s2 : Sorted (lst Z2 (N - h))) (p1 : (lst Z1 h).Perm ((lst X h).map plainC)) (p2 : (lst Z2 (N - h)).Perm ((lst (fun k => X (h + k)) (N - h)).map plainC)) :
    Sorted (lst (fnOf ((lst Z1 h).merge (lst Z2 (N - h)) leC)) N) ∧ (lst (fnOf ((lst Z1 h).merge (lst Z2 (N - h)) leC)) N).Perm ((lst X N).map plainC) := by
  have hl : ((lst Z1 h).merge (lst Z2 (N - h)) leC).length = N := by rw [merge_length, lst_length, lst_length]; omega
  have hf := lst_fnOf ((lst Z1 h).merge (lst Z2 (N - h)) leC)
  rw [hl] at hf
  rw [hf]
  refine ⟨sorted_merge s1 s2, (List.merge_perm_append (le := leC)).trans ?_⟩
  have h3 := lst_add X h (N - h)
  rw [show h + (N - h) = N by omega] at h3
  rw [h3, List.map_append]
  exact p1.append p2
theorem sliceFromC {P : Program} {w : World} {ops : Array Oper} {rest : List Oper} {o : Oper} {a : Act} {Q : Exit → Act → World → Prop} (hgd : o.guard = none) (t : TypeId) (x ix : Operand)
    (ho : o.op = .slice t x (some ix) none none) (ht : P.underlying t = some (.slice (P.elem t))) (hsz : (P.info? (P.elem t)).map (·.size) = some 34) (A : Option Addr) (m d k : Nat) (hx : a.eval x = .slice A m d) (hi : a.eval ix = .int .i64 (k : Int))
    (hk : k ≤ m) (hmd : m ≤ d)
    (h : ∀ B, Hid ((k < m → B = A.map (·.add (k * 34))) ∧ (∀ ad, B = some ad → ∃ ad', A = some ad' ∧ ad'.block = ad.block) ∧ (A = none → B = none) ∧ (B = none → A = none)) → wpList P ops Q rest (a.put o.dst (.slice B (m - k) (d - k))) w) : wpList P ops Q (o :: rest) a w := by
  refine wpList_plain hgd fun K hK => ?_
  have hs : (sizeOf (P.elem t)).run P w = .ok 34 w := by
    cases hq : P.info? (P.elem t) with
    | none => simp [hq] at hsz
    | some i =>
      have h1 : i.size = 34 := by simpa [hq] using hsz
      simp [sizeOf, typeInfo, hq, h1]
  have hrun : (Instr.sliceAt t (.slice A m d) (some (.int .i64 (k : Int))) none none).run P w = .ok (.slice (if d = k then A else A.map (·.add (k * 34))) (m - k) (d - k)) w := by
    rw [run_sliceAt_slice w t _ _ _ _ ht, run_slice_l w t A m d ht .i64 (k : Int) (by omega) (by omega), hs]
    simp only [Result.andThen_ok, sliced, Int.toNat_natCast]
  have h2 := h (if d = k then A else A.map (·.add (k * 34))) (show _ ∧ _ ∧ _ ∧ _ from ⟨fun hlt => if_neg (by omega), fun ad e => by
      split at e
      · exact ⟨ad, e, rfl⟩
      · rcases A with _ | b
        · cases e
        · injection e with e
          exact ⟨b, rfl, by rw [← e, block_add]⟩, (fun e => by subst e; split <;> rfl), fun e => by
      split at e
      · exact e
      · rcases A with _ | b
        · rfl
        · cases e⟩)
  unfold Oper.wp execOp
  simp only [ho, hx, hi, Option.map, Sem.run_bind, Sem.run_pure, hrun, Result.andThen_ok]
  exact hK _ _ h2
theorem box_next {w w2 w3 w4 : World} {v : Value} {n : Nat} {X : Nat → Chg} {Ad : Nat → Option Addr} {Cp : Nat → Nat} {A : Option Addr} {c : Nat} {vl : List Nat} (hb : Below w.heap.size w w2) (ho : ChsOwn w2 w.heap.size v n X Ad Cp) (hv : RB w2 A vl.length vl ∧ vl.length ≤ c ∧ c ≤ maxLen ∧ (A = none → c = 0))
    (h3 : Below w2.heap.size w2 w3) (hg : w3.grownBy w4 (some w2.heap.size)) : Below w.heap.size w w4 ∧ ChsOwn w4 w.heap.size v n X Ad Cp ∧ RB w4 A vl.length vl ∧ vl.length ≤ c ∧ c ≤ maxLen ∧ (A = none → c = 0) := by
  have far : Below w2.heap.size w2 w4 := h3.grown hg h3.size fun k hk => by injection hk with hk; omega
  exact ⟨hb.trans (far.mono hb.size), ho.later far, hv.1.below far, hv.2⟩
theorem ChsOwn.mono {w : World} {base base' n : Nat} {v : Value} {X : Nat → Chg} {Ad : Nat → Option Addr} {Cp : Nat → Nat} (h : ChsOwn w base v n X Ad Cp) (hb : base' ≤ base) : ChsOwn w base' v n X Ad Cp :=
  { h with
    own := by
      obtain ⟨hl, hv⟩ := h.own
      refine ⟨hl, ?_⟩
      rcases hv with h0 | ⟨g, cap, cur, e, hg, r⟩
      · exact .inl h0
      · exact .inr ⟨g, cap, cur, e, by omega, r⟩ }
theorem elem_chl : Try.prog.elem 30 = 45 := by kernel_rfl
set_option maxRecDepth 100000 in
set_option maxHeartbeats 1600000 in
theorem sorted_any (N : Nat) : ∀ (A : Option Addr) (c : Nat) (X : Nat → Chg) (w : World), ChsAt w A N X → N ≤ c → N * 64 ≤ 140737488355328 → (∀ k, k < N → (X k).val.length ≤ 140737488355328) →
    Calls Try.prog 97 #[.slice A N c] w (SortRet N X w) := by
  induction N using Nat.strongRecOn with
  | ind N ih =>
  intro A c X w hx hc hn hv
  have HX := Lib.hid hx
  have HV := Lib.hid hv
  have HI := Lib.hid ih
  clear hx hv ih
  go_enter Try.func97, Try.ntmps97
  by_cases h2 : N < 2
  · have h2' : (N : Int) < 2 := by omega
    go_wp2_with fail
    go_loopw [3, 4] (fun v i wr => ∃ k : Nat, k ≤ N ∧ i = .int .i64 k ∧ (∃ Z Ad Cp, Hid (ChsOwn wr w.heap.size v k Z Ad Cp) ∧ Hid (lst Z k = (lst X k).map plainC)) ∧ Hid (Below w.heap.size w wr)) (fun _ i _ => N - (intOf i).toNat)
    case atStart => exact ⟨0, by omega, rfl, ⟨fun _ => default, fun _ => none, fun _ => 0, ChsOwn.nil _ _ _ _ _, rfl⟩, Below.refl _ _⟩
    case round =>
      obtain ⟨k, hk, rfl, ⟨Z, Ad, Cp, HO, HZ⟩, HB⟩ := hrel
      obtain ⟨w1, rfl⟩ : ∃ w1, w1 = wr := ⟨_, rfl⟩
      by_cases hlt : k < N
      · have hlt' : (k : Int) < N := by omega
        obtain ⟨b, o, Av, Cv, rfl, hb, hr, hkB, hkl, hvr, hq⟩ := (HX.out.below HB.out).2 k hlt
        have HR := Lib.hid hr
        have HZn : Hid (lst (upd Z k (plainC (X k))) (k + 1) = (lst X (k + 1)).map plainC) := by show _ = _; rw [lst_upd, HZ.out, lst_succ, List.map_append]; rfl
        have hvl := HV.out k hlt
        have HK : Hid (IsB (X k).key ∧ (X k).key.length = 32) := ⟨hkB, hkl⟩
        have HVR := Lib.hid hvr
        clear hr hkB hkl hvr hq hb
        generalize X k = x at *
        go_wp2_with ((with_reducible refine stopAt (o := ⟨some 21, _, _, _, _, _⟩) ?_); refine loadRange (o := ⟨some 21, _, _, _, _, _⟩) (by rfl) 45 (.tmp 20) rfl b (o + k * 34) (chC x Av Cv) rfl HR.out row_chg (by rw [size_chg, chC_length HK.out.2]) ?_)
        refine (plain_any x Av Cv w1 HK.out.2 HVR.out hvl).mono ?_
        rintro e w2 ⟨A2, c2, rfl, hr2, hle2, hcm2, hnil2, hlo2, hb2⟩
        have HB2 := Lib.hid (HB.out.trans (hb2.mono HB.out.size))
        have HO2 := Lib.hid (HO.out.later hb2)
        have HKp : Hid (IsB (plainC x).key ∧ (plainC x).key.length = 32) := by rw [plainC_key]; exact HK.out
        have HAP : Hid (0 < (plainC x).val.length → ∀ ad, A2 = some ad → some ad.block ≠ u3.ownBlock) := fun _ ad e he => by
          have q1 := hlo2 ad e
          have q2 := (HO.out.own.lt _ he.symm).2
          omega
        have HV2 := Lib.hid (show RB w2 A2 (plainC x).val.length (plainC x).val ∧ (plainC x).val.length ≤ c2 ∧ c2 ≤ maxLen ∧ (A2 = none → c2 = 0) from ⟨hr2, hle2, hcm2, hnil2⟩)
        clear hr2 hle2 hcm2 hnil2 hlo2 hb2 HR HVR HK
        generalize plainC x = y at *
        go_wp2_with (first
          | ((with_reducible refine stopAt (o := ⟨some 5, _, _, _, _, _⟩) ?_); refine allocNew (o := ⟨some 5, _, _, _, _, _⟩) (by rfl) 45 rfl _ _ info_chS ?_; intro w3 HA3 HW3 HS3)
          | ((with_reducible refine stopAt (o := ⟨none, .store _ (.tmp 5) _, _, _, _, _⟩) ?_); refine storeV (o := ⟨none, _, _, _, _, _⟩) (by rfl) 45 (.tmp 5) (.tmp 22) rfl w2.heap.size _ _ 45 rfl rfl HA3.out (by rw [size_chg, chC_length HKp.out.2]) (by rw [chC_length HKp.out.2, chS_length _ _ (zs_length 32)]) chC_one ?_; intro w4 HA4 HG4 HS4; have HN := Lib.hid (box_next HB2.out HO2.out HV2.out HW3.out HG4.out); clear HA3 HW3 HG4 HV2 HO2)
          | ((with_reducible refine stopAt (o := ⟨some 24, _, _, _, _, _⟩) ?_); refine loadRange (o := ⟨some 24, _, _, _, _, _⟩) (by rfl) 45 (.tmp 5) rfl w2.heap.size 0 _ rfl (BlkIs.range HA4.out) row_chg (by rw [size_chg, chC_length HKp.out.2]) ?_)
          | ((with_reducible refine stopAt (o := ⟨some 25, _, _, _, _, _⟩) ?_); refine buildSlice1 (o := ⟨some 25, _, _, _, _, _⟩) rfl w4 30 45 _ 34 (.tmp 24) rfl und_chl info_chg (by decide) (by decide) (chC y A2 c2).toArray rfl (by rw [List.size_toArray, chC_length HKp.out.2]) ?_)
          | ((with_reducible refine stopAt (o := ⟨some 26, _, _, _, _, _⟩) ?_); refine append1C (o := ⟨some 26, _, _, _, _, _⟩) und_chl info_chg3 rfl w4 rfl (.tmp 23) (.tmp 25) rfl w.heap.size u3 k _ HN.out.2.1.own (chC y A2 c2) (chC_length HKp.out.2) chC_one rfl rfl (by omega) (by omega) HN.out.1.size ?_; intro v3 w5 ho3 hg3 hl3; have HO3 := Lib.hid (HN.out.2.1.more HKp.out HN.out.2.2 HAP.out ho3 hg3 hl3); have HB3 : Hid (Below w.heap.size w w5) := HN.out.1.grown hg3 HN.out.1.size HN.out.2.1.ge; clear ho3 hg3 hl3))
        go_roundw
        case rel => exact ⟨k + 1, by omega, by go_num, ⟨_, _, _, HO3.out, HZn.out⟩, HB3.out⟩
        case measure => simp [intOf]; omega
      · have hnlt : ¬ (k : Int) < N := by omega
        obtain rfl : k = N := by omega
        go_wp2_with fail
        go_ret
        exact ⟨Z, ⟨_, _, _, rfl, HO.out, HB.out⟩, sorted_short h2, by rw [HZ.out]⟩
  · have h2' : ¬ (N : Int) < 2 := by omega
    go_wp2_with fail
    rw [show (N : Int) / 2 = ((N / 2 : Nat) : Int) by omega]
    obtain ⟨h, hN⟩ : ∃ h, N / 2 = h := ⟨_, rfl⟩
    rw [hN]
    have h3 : h ≤ N := by omega
    have h4 : h < N := by omega
    have h5 : N - h < N := by omega
    clear hN
    refine (HI.out h h4 A c X w (HX.out.take h3) (by omega) (by omega) (fun k hk => HV.out k (by omega))).mono ?_
    rintro e w1 ⟨Z1, ⟨v1, Ad1, Cp1, rfl, ho1, hb1⟩, hs1, hp1⟩
    obtain ⟨A1, c1, rfl, hc1, _⟩ := ho1.form
    have HC1 := Lib.hid hc1
    have HB1 := Lib.hid hb1
    have HS1 := Lib.hid hs1
    have HP1 := Lib.hid hp1
    clear hc1 hb1 hs1 hp1 ho1
    go_wp2_with ((with_reducible refine stopAt (o := ⟨some 37, _, _, _, _, _⟩) ?_); refine sliceFromC (o := ⟨some 37, _, _, _, _, _⟩) rfl 30 (.tmp 35) (.tmp 36) rfl (by rw [elem_chl]; exact und_chl) (by rw [elem_chl]; exact size_chg) A N c h rfl rfl h3 hc ?_; intro B HBB)
    refine (HI.out (N - h) h5 B (c - h) (fun k => X (h + k)) w1 ((HX.out.below HB1.out).drop h3 HBB.out.1) (by omega) (by omega) (fun k hk => HV.out _ (by omega))).mono ?_
    rintro e w2 ⟨Z2, ⟨v2, Ad2, Cp2, rfl, ho2, hb2⟩, hs2, hp2⟩
    obtain ⟨A2, c2, rfl, hc2, _⟩ := ho2.form
    have HC2 := Lib.hid hc2
    have HC1' := Lib.hid (HC1.out.below hb2)
    have HB2 := Lib.hid (HB1.out.trans (hb2.mono HB1.out.size))
    have HJ := Lib.hid (sort_join h3 HS1.out hs2 HP1.out hp2)
    clear hc2 hb2 hs2 hp2 ho2
    go_wp2_with fail
    refine (merged_any A1 A2 h (N - h) c1 c2 Z1 Z2 w2 HC1'.out HC2.out (by omega)).mono ?_
    rintro e w3 ⟨v3, Ad3, Cp3, rfl, ho3, hb3⟩
    have HO3 := Lib.hid ho3
    have HB3 := Lib.hid (HB2.out.trans (hb3.mono HB2.out.size))
    have HS := Lib.hid HB2.out.size
    clear ho3 hb3
    go_wp2_with fail
    go_ret
    refine ⟨_, ⟨_, Ad3, Cp3, rfl, ?_, HB3.out⟩, HJ.out.1, HJ.out.2⟩
    have h6 := HO3.out.mono HS.out
    rwa [show h + (N - h) = N by omega] at h6
end Go.Proofs.Ytkpbeibcfaenhaa

/- ledgerref3.wrong. -/
namespace Go.Proofs.Ytkpbeibcfaenhaa
open Go.RowKit
def wrongN (X : Nat → Chg) (n most : Nat) : Nat := if heldN X n most = 0 then (if 0 ≤ repN X n then 33 else 0) else heldN X n most
theorem wrong_build (X : Nat → Chg) (n : Nat) : wrongN X n 64 = buildE X n := rfl
theorem wrong_held {X : Nat → Chg} {n most : Nat} (h : heldN X n most ≠ 0) : wrongN X n most = heldN X n most := if_neg h
theorem sort_dup {X Z : Nat → Chg} {N : Nat} (hs : Sorted (lst Z N)) (hp : (lst Z N).Perm ((lst X N).map plainC)) (hg : ∀ k, k < N → GoodK (Z k)) : adjS (lst Z N) N = true ↔ 0 ≤ repN X N := by
  have h1 := adjS_keys hs (fun x hx => by
    obtain ⟨i, hi, rfl⟩ := mem_lst.1 hx
    exact hg i hi)
  rw [lst_length] at h1
  rw [h1, nodup_rep, nodup_perm hp]
  have : keysOf ((lst X N).map plainC) = keysOf (lst X N) := by
    unfold keysOf
    rw [List.map_map]
    exact List.map_congr_left fun x _ => plainC_key x
  rw [this]
set_option maxRecDepth 100000 in
set_option maxHeartbeats 1600000 in
theorem wrong_any (A : Option Addr) (N c most : Nat) (X : Nat → Chg) (w : World) (hx : ChsAt w A N X) (hc : N ≤ c) (hm : most ≤ 4096) (hn : N * 64 ≤ 140737488355328) (hv : ∀ k, k < N → (X k).val.length ≤ 140737488355328) :
    Calls Try.prog 95 #[.slice A N c, .int .i64 most] w fun e w' => e = .returned (.int .i64 (wrongN X N most : Nat)) ∧ Below w.heap.size w w' := by
  have HX := Lib.hid hx
  have HS := Lib.hid (fun W (hW : Below w.heap.size w W) => sorted_any N A c X W (hx.below hW) hc hn hv)
  have hu := und_key
  clear hx hv
  go_enter Try.func95, Try.ntmps95
  by_cases hmn : most < N
  · have HR : Hid (wrongN X N most = 31) := by
      have h1 : heldN X N most = 31 := by unfold heldN; rw [if_pos hmn]
      show _ = _
      rw [wrong_held (by rw [h1]; decide), h1]
    have hmn' : (most : Int) < N := by omega
    go_wp2_with fail
    go_ret
    exact ⟨by rw [HR.out]; rfl, Below.refl _ _⟩
  · have hmn' : ¬ (most : Int) < N := by omega
    go_wp2_with fail
    go_loopw [5] (fun i wr => ∃ k : Nat, k ≤ N ∧ i = .int .i64 k ∧ Hid (anyLong X k = false) ∧ Hid (Below w.heap.size w wr)) (fun i _ => N - (intOf i).toNat)
    case atStart => exact ⟨0, by omega, rfl, rfl, Below.refl _ _⟩
    case round =>
      obtain ⟨k, hk, rfl, HL, HB⟩ := hrel
      obtain ⟨w1, rfl⟩ : ∃ w1, w1 = wr := ⟨_, rfl⟩
      by_cases hlt : k < N
      · obtain ⟨b, o, Av, Cv, rfl, hb, hr, hkB, hkl, hvr, hvC, hCm, hnil⟩ := (HX.out.below HB.out).2 k hlt
        have hlt' : (k : Int) < N := by omega
        have b1 := ch_del hr hkl
        have b2 := ch_val hr hkl
        have HLk : Hid (long (X k) = (!(X k).del && decide (128 < (X k).val.length))) := rfl
        have HLn : Hid (anyLong X (k + 1) = (anyLong X k || long (X k))) := rfl
        have HLt : Hid (long (X k) = true → wrongN X N most = 32) := fun h => by
          have h1 : heldN X N most = 32 := by unfold heldN; rw [if_neg hmn, anyLong_at hlt h]; rfl
          rw [wrong_held (by rw [h1]; decide), h1]
        clear hr hkB hkl hvr hvC hCm hnil
        generalize X k = x at *
        obtain ⟨ky, dl, vl⟩ := x
        cases dl
        · by_cases hlen : 128 < vl.length
          · have hlen' : (128 : Int) < (vl.length : Int) := by omega
            have HR : Hid (wrongN X N most = 32) := HLt.out (by rw [HLk.out]; simp; exact hlen)
            go_wp2_with fail
            go_ret
            exact ⟨by rw [HR.out]; rfl, HB.out⟩
          · have hlen' : ¬ (128 : Int) < (vl.length : Int) := by omega
            have HLm : Hid (anyLong X (k + 1) = false) := by
              show _ = _
              rw [HLn.out, HL.out, HLk.out]
              simp
              omega
            go_wp2_with fail
            go_roundw
            case rel => exact ⟨k + 1, by omega, by go_num, HLm.out, HB.out⟩
            case measure => simp [intOf]; omega
        · have HLm : Hid (anyLong X (k + 1) = false) := by
            show _ = _
            rw [HLn.out, HL.out, HLk.out]
            simp
          go_wp2_with fail
          go_roundw
          case rel => exact ⟨k + 1, by omega, by go_num, HLm.out, HB.out⟩
          case measure => simp [intOf]; omega
      · have hnlt : ¬ (k : Int) < N := by omega
        obtain rfl : k = N := by omega
        have HH : Hid (heldN X k most = 0) := by show _ = _; unfold heldN; rw [if_neg hmn, HL.out]; rfl
        go_wp2_with fail
        refine (HS.out w1 HB.out).mono ?_
        rintro e w2 ⟨Z, ⟨v, Ad, Cp, rfl, ho, hb⟩, hs, hp⟩
        obtain ⟨A2, c2, rfl, hc2, hq3, hq4, hN, hq5⟩ := ho.form
        have HC := Lib.hid hc2
        have HB2 := Lib.hid (HB.out.trans (hb.mono HB.out.size))
        have HD := Lib.hid (sort_dup hs hp ho.key)
        unfold maxLen at hN
        clear ho hb hs hp hc2 hq3 hq4 hq5
        go_wp2_with fail
        go_loopw [7] (fun i wr => ∃ m q : Nat, 1 ≤ m ∧ (m ≤ k ∨ k = 0) ∧ i = .int .i64 m ∧ Hid (adjS (lst Z k) (min m k) = false) ∧ wr = w2.drewN q) (fun i _ => k - (intOf i).toNat)
        case atStart => exact ⟨1, 0, by omega, by omega, rfl, (by show _ = _; rcases Nat.eq_zero_or_pos k with h | h
                                                                  · rw [h]; rfl
                                                                  · rw [show min 1 k = 1 by omega]; simp [adjS]), rfl⟩
        case round =>
          obtain ⟨m, q, h1m, hmk, rfl, HA, rfl⟩ := hrel
          by_cases hml : m < k
          · have hml' : (m : Int) < k := by omega
            obtain ⟨p, hp⟩ : ∃ p, m - 1 = p := ⟨_, rfl⟩
            have hpm : IntKind.i64.wrap ((m : Int) - 1) = (p : Int) := by rw [IntWalk.i64_in _ (by omega)]; omega
            have hp0 : (0 : Int) ≤ (p : Int) := by omega
            have hpk : (p : Int) < k := by omega
            have hpk2 : p < k := by omega
            obtain ⟨b, o, Av, Cv, e1, hb, hr, hkB, hkl, hq1⟩ := HC.out.2 m hml
            obtain ⟨b', o', Av', Cv', e2, hb', hr', hkB', hkl', hq2⟩ := HC.out.2 p hpk2
            subst e1
            injection e2 with e2
            injection e2 with e2 e3 e4
            clear e4
            subst e2 e3
            have a1 := ch_key hr
            have a2 := ch_key hr'
            have hsz : (Try.prog.info? 25).map (·.size) = some (bvs (Z m).key).length := by rw [size_key]; simp [bvs, hkl]
            have hsz2 : (Try.prog.info? 25).map (·.size) = some (bvs (Z p).key).length := by rw [size_key]; simp [bvs, hkl']
            have hek : ∀ w, (Op.equalIn 10000 25 (.agg (bvs (Z m).key).toArray) (.agg (bvs (Z p).key).toArray)).run Try.prog w = .ok (decide ((Z m).key = (Z p).key)) w := fun w => key_eq w _ _ hkB hkB' hkl hkl'
            have HNX : Hid ((Z m).key = (Z p).key → wrongN X k most = 33) := fun h => by
              unfold wrongN
              rw [if_pos HH.out, if_pos (HD.out.1 (adjS_at hml (by omega) (by rw [lst_getD hml, hp, lst_getD hpk2]; exact h)))]
            have HNY : Hid (¬ (Z m).key = (Z p).key → adjS (lst Z k) (m + 1) = false) := fun h => by
              have h1 := HA.out
              rw [show min m k = m by omega] at h1
              rw [adjS, h1, lst_getD hml, hp, lst_getD hpk2, decide_eq_false h]
              simp
            obtain ⟨w3, hw3⟩ : ∃ w3, w2.drewN q = w3 := ⟨_, rfl⟩
            have HW3 := Lib.hid hw3
            have KS : Hid (∀ j, (w3.drewN j).rangeAt b (o + m * 34) (bvs (Z m).key) ∧ (w3.drewN j).rangeAt b (o + p * 34) (bvs (Z p).key)) := fun j => by
              rw [← hw3]
              exact ⟨a1, a2⟩
            rw [hw3]
            clear hr hr' hkB hkl hkB' hkl' a1 a2 hw3 hp hq1 hq2
            generalize (Z m).key = x at *
            generalize (Z p).key = y at *
            go_wp2_with fail
            rename_i KK hKK
            have HKK := Lib.hid hKK
            clear hKK
            refine wp_region_held_drew (S := fun w' => w'.rangeAt b (o + m * 34) (bvs x) ∧ w'.rangeAt b (o + p * 34) (bvs y)) (by kernel_rfl) (KS.out 1) fun hH => ?_
            refine wpAnyH_take (i := 0) (oi := ⟨some 41, _, _, _, _, _⟩) rfl (by kernel_rfl) (by kernel_rfl) (by kernel_rfl) (fun _ _ _ h => h) (Or.inl ⟨by rfl, fun w hw => by ((try dsimp only at hw); go_split_ands; go_simp; with_reducible rfl)⟩) (by assumption) ?_
            try simp only [Act.put, List.setIfInBounds_toArray, List.set_cons_zero, List.set_cons_succ]
            refine wpAnyH_take (i := 1) (oi := ⟨some 42, _, _, _, _, _⟩) rfl (by kernel_rfl) (by kernel_rfl) (by kernel_rfl) (fun _ _ _ h => h) (Or.inl ⟨by rfl, fun w hw => by ((try dsimp only at hw); go_split_ands; go_simp; with_reducible rfl)⟩) (by assumption) ?_
            try simp only [Act.put, List.setIfInBounds_toArray, List.set_cons_zero, List.set_cons_succ]
            refine wpAnyH_take (i := 2) (oi := ⟨some 43, _, _, _, _, _⟩) rfl (by kernel_rfl) (by kernel_rfl) (by kernel_rfl) (fun _ _ _ h => h) (Or.inl ⟨by rfl, fun w hw => by ((try dsimp only at hw); go_split_ands; go_simp; with_reducible rfl)⟩) (by assumption) ?_
            try simp only [Act.put, List.setIfInBounds_toArray, List.set_cons_zero, List.set_cons_succ]
            refine wpAnyH_take (i := 3) (oi := ⟨some 44, _, _, _, _, _⟩) rfl (by kernel_rfl) (by kernel_rfl) (by kernel_rfl) (fun _ _ _ h => h) (Or.inl ⟨by rfl, fun w hw => by ((try dsimp only at hw); go_split_ands; go_simp; with_reducible rfl)⟩) (by assumption) ?_
            try simp only [Act.put, List.setIfInBounds_toArray, List.set_cons_zero, List.set_cons_succ]
            refine wpAnyH_take (i := 4) (oi := ⟨some 45, _, _, _, _, _⟩) rfl (by kernel_rfl) (by kernel_rfl) (by kernel_rfl) (fun _ _ _ h => h) (yieldsIf_load_mid (by rfl) _ _ rfl _ _ rfl _ _ (fun w hw => by (try dsimp only at hw); go_split_ands; assumption) (by assumption) rfl (by assumption)) (by assumption) ?_
            try simp only [Act.put, List.setIfInBounds_toArray, List.set_cons_zero, List.set_cons_succ]
            refine wpAnyH_take (i := 5) (oi := ⟨some 46, _, _, _, _, _⟩) rfl (by kernel_rfl) (by kernel_rfl) (by kernel_rfl) (fun _ _ _ h => h) (Or.inl ⟨by rfl, fun w hw => by ((try dsimp only at hw); go_split_ands; go_simp; with_reducible rfl)⟩) (by assumption) ?_
            try simp only [Act.put, List.setIfInBounds_toArray, List.set_cons_zero, List.set_cons_succ]
            refine wpAnyH_take (i := 6) (oi := ⟨some 47, _, _, _, _, _⟩) rfl (by kernel_rfl) (by kernel_rfl) (by kernel_rfl) (fun _ _ _ h => h) (Or.inl ⟨by rfl, fun w hw => by ((try dsimp only at hw); go_split_ands; go_simp; with_reducible rfl)⟩) (by assumption) ?_
            try simp only [Act.put, List.setIfInBounds_toArray, List.set_cons_zero, List.set_cons_succ]
            refine wpAnyH_take (i := 7) (oi := ⟨some 48, _, _, _, _, _⟩) rfl (by kernel_rfl) (by kernel_rfl) (by kernel_rfl) (fun _ _ _ h => h) (Or.inl ⟨by rfl, fun w hw => by ((try dsimp only at hw); go_split_ands; go_simp; with_reducible rfl)⟩) (by assumption) ?_
            try simp only [Act.put, List.setIfInBounds_toArray, List.set_cons_zero, List.set_cons_succ]
            refine wpAnyH_take (i := 8) (oi := ⟨some 49, _, _, _, _, _⟩) rfl (by kernel_rfl) (by kernel_rfl) (by kernel_rfl) (fun _ _ _ h => h) (Or.inl ⟨by rfl, fun w hw => by ((try dsimp only at hw); go_split_ands; go_simp; with_reducible rfl)⟩) (by assumption) ?_
            try simp only [Act.put, List.setIfInBounds_toArray, List.set_cons_zero, List.set_cons_succ]
            refine wpAnyH_take (i := 9) (oi := ⟨some 50, _, _, _, _, _⟩) rfl (by kernel_rfl) (by kernel_rfl) (by kernel_rfl) (fun _ _ _ h => h) (Or.inl ⟨by rfl, fun w hw => by ((try dsimp only at hw); go_split_ands; go_simp; with_reducible rfl)⟩) (by assumption) ?_
            try simp only [Act.put, List.setIfInBounds_toArray, List.set_cons_zero, List.set_cons_succ]
            refine wpAnyH_take (i := 10) (oi := ⟨some 51, _, _, _, _, _⟩) rfl (by kernel_rfl) (by kernel_rfl) (by kernel_rfl) (fun _ _ _ h => h) (yieldsIf_load_mid (by rfl) _ _ rfl _ _ rfl _ _ (fun w hw => by (try dsimp only at hw); go_split_ands; assumption) (by assumption) rfl (by assumption)) (by assumption) ?_
            try simp only [Act.put, List.setIfInBounds_toArray, List.set_cons_zero, List.set_cons_succ]
            refine wpAnyH_ready (rs := [11]) (by kernel_rfl) (by simp) ?_
            refine AllReadyH.cons rfl (fun K hK => ?_) (AllReadyH.nil)
            go_simp
            refine hK.out _ _ hH (fun hH2 => ?_)
            clear hK hH
            refine wpAnyH_done (by kernel_rfl) ?_ _
            change KK _ _
            refine HKK.out _ _ ?_
            clear hH2 hu hsz hsz2 hek hpm
            by_cases hxy : x = y
            · have HE := Lib.hid (HNX.out hxy)
              rw [decide_eq_true hxy]
              go_wp2_with fail
              go_ret
              exact ⟨by rw [HE.out]; rfl, by rw [← HW3.out]; exact drewN_below (drewN_below HB2.out q) 1⟩
            · have HE := Lib.hid (HNY.out hxy)
              rw [decide_eq_false hxy]
              go_wp2_with fail
              go_roundw
              case rel => exact ⟨m + 1, q + 1, by omega, by omega, by go_num, (by show _ = _; rw [show min (m + 1) k = m + 1 by omega]; exact HE.out), by rw [← HW3.out]; rfl⟩
              case measure => simp [intOf]; omega
          · have hml' : ¬ (m : Int) < k := by omega
            have HE : Hid (wrongN X k most = 0) := by
              show _ = _
              have h1 : adjS (lst Z k) k = false := by have := HA.out; rwa [show min m k = k by omega] at this
              unfold wrongN
              rw [if_pos HH.out, if_neg (fun h => by rw [HD.out.2 h] at h1; cases h1)]
            go_wp2_with fail
            go_ret
            exact ⟨by rw [HE.out]; rfl, drewN_below HB2.out q⟩
end Go.Proofs.Ytkpbeibcfaenhaa

/- ledgerref3.two, laid, Build. -/
namespace Go.Proofs.Ytkpbeibcfaenhaa
open Go.RowKit
set_option maxHeartbeats 400000 in
theorem two_any (n : Nat) (w : World) (hn : n < 65536) :
    Calls Try.prog 100 #[.int .i64 (n : Int)] w (OwnRet w [n % 256, n / 256 % 256]) := by
  have h1 : IntKind.u8.wrap ((n : Int) % 256) = ((n % 256 : Nat) : Int) := by rw [IntKind.wrap_u8]; omega
  have h2 : IntKind.u8.wrap ((n : Int) / 256) = ((n / 256 % 256 : Nat) : Int) := by rw [IntKind.wrap_u8]; omega
  have H1 : n % 256 < 256 := by omega
  have H2 : n / 256 % 256 < 256 := by omega
  generalize n % 256 = a at *
  generalize n / 256 % 256 = b at *
  go_enter Try.func100, Try.ntmps100
  go_wp2_with fail
  go_ret
  exact ⟨_, rfl, own_two a b H1 H2, (Below.refl _ _).alloc (Nat.le_refl _) _⟩
section
variable {P : Program}
theorem wpOp_appendB {t e : TypeId} (ht : P.underlying t = some (.slice e)) (hinfo : (P.info? e).map (fun i => (i.zero, i.size, i.bytes)) = some (some (.int .u8 0), 1, 1))
    {ops : Array Oper} {Q : Exit → Act → World → Prop} {K : Act → World → Prop} {o : Oper} {a : Act} (hw : Region.wanted o (yielded ops a.tmps) = true) (w : World) (s x : Operand) (ho : o.op = .call { callee := .builtin .append, args := #[s, x], argTypes := #[t, t] })
    (base : Nat) (v : Value) (xs : List Nat) (hown : Own e w base v xs) (ad : Addr) (m c : Nat) (ys : List Nat) (hr : RB w (some ad) m ys) (hs : a.eval s = v) (hx : a.eval x = .slice (some ad) m c)
    (hlen : xs.length + m ≤ 140737488355328) (hbase : base ≤ w.heap.size)
    (h : ∀ v' w', Own e w' base v' (xs ++ ys) → w.grownBy w' v.ownBlock → K (a.put o.dst v') w') :
    if Region.wanted o (yielded ops a.tmps) = true then o.wp P a w K Q else K (a.put o.dst undef) w := by
  obtain ⟨i, hi, hz, hs1, hby⟩ := info_parts hinfo
  obtain ⟨v', w', hrun, h1, h2, _⟩ := run_append_own_at (P := P) w base t o.type e i (.int .u8 0) 1 1 ht hi hz hs1 hby rfl (by decide) v xs.length (bvs xs) hown.1
    ad m c (bvs ys) (by simp [bvs, hr.1]) (fun j u hj => by
      simp only [bvs, List.getElem?_map, Option.map_eq_some_iff] at hj
      obtain ⟨z, hz, rfl⟩ := hj
      have hjm : j < ys.length := by
        rcases Nat.lt_or_ge j ys.length with h | h
        · exact h
        · rw [List.getElem?_eq_none h] at hz; cases hz
      obtain ⟨ad', e', _, hc⟩ := hr.2.2 (by have := hr.1; omega)
      injection e' with e'
      subst e'
      exact hc j z hz) (bvs_oneCell ys) (by unfold maxLen; omega) (by omega) hbase
  rw [if_pos hw]
  unfold Oper.wp execOp
  simp only [ho, resolve, invoke, builtin, Sem.run_bind, Sem.run_pure, Result.andThen_ok, List.map_toArray, List.map_cons, List.map_nil, hs, hx, hrun]
  exact h v' w' ⟨by rw [List.length_append, hr.1]; simpa [bvs] using h1, hown.2.app hr.2.1⟩ h2
end
/-- What a walk reads of the change of number k. -/
def ChKey (w : World) (b o : Nat) (x : Chg) (Av : Option Addr) (Cv : Nat) : Prop := ∀ W, Below w.heap.size w W →
  (∀ j, j < 32 → W.cell? ⟨b, o + j, none⟩ = some (.int .u8 (x.key.getD j 0 : Nat))) ∧ W.cell? ⟨b, o + 32, none⟩ = some (.bool x.del) ∧ W.cell? ⟨b, o + 33, none⟩ = some (.slice Av x.val.length Cv) ∧ RB W Av x.val.length x.val
theorem ChKey.of {w : World} {b o : Nat} {x : Chg} {Av : Option Addr} {Cv : Nat} (hb : b < w.heap.size) (hr : w.rangeAt b o (chC x Av Cv)) (hk : x.key.length = 32) (hv : RB w Av x.val.length x.val) : ChKey w b o x Av Cv := fun W hW => by
  have h2 := range_below hW hb hr
  refine ⟨fun j hj => ?_, ch_del h2 hk, ch_val h2 hk, hv.below hW⟩
  exact ch_key h2 j _ (by simp [bvs, bv, List.getD, List.getElem?_eq_getElem (show j < x.key.length by omega)])
set_option maxRecDepth 100000 in
set_option maxHeartbeats 4000000 in
theorem laid_any (A : Option Addr) (N c : Nat) (X : Nat → Chg) (w : World) (hx : ChsAt w A N X) (h0 : heldN X N 64 = 0) :
    Calls Try.prog 96 #[.slice A N c] w (OwnRet w (layN X N)) := by
  have HX := Lib.hid hx
  have hN64 := (heldN_le h0).1
  have HLO := Lib.hid (heldN_le h0).2
  clear hx h0
  have HKL : Hid (∀ i, i < N → (X i).key.length = 32) := fun i hi => by
    obtain ⟨_, _, _, _, _, _, _, _, h, _⟩ := HX.out.2 i hi
    exact h
  have HLL : Hid (∀ k, k ≤ N → (layP X N k).length ≤ 20000) := fun k hk => by
    have h1 := layF_length (X := X) (n := k) (fun i hi => HKL.out i (by omega)) (by
      cases h : anyLong X k with
      | false => rfl
      | true =>
        have h2 := HLO.out
        have : ∀ n, k ≤ n → anyLong X n = true := fun n hn => by
          induction n with
          | zero => rw [show k = 0 by omega] at h; exact h
          | succ n ih =>
            by_cases e : k = n + 1
            · rw [← e]; exact h
            · rw [anyLong, ih (by omega), Bool.true_or]
        rw [this N hk] at h2
        cases h2)
    unfold layP
    simp only [List.length_cons]
    have : k * 163 ≤ 64 * 163 := Nat.mul_le_mul_right _ (by omega)
    omega
  go_enter Try.func96, Try.ntmps96
  go_wp2_with fail
  refine (two_any N w (by omega)).mono ?_
  rintro e w1 ⟨v1, rfl, ho1, hb1⟩
  have HO1 : Hid (OwnU w1 w.heap.size v1 (layP X N 0)) := ho1
  have HB1 := Lib.hid hb1
  clear ho1 hb1
  go_wp2_with fail
  go_loopw [3, 4] (fun u i wr => ∃ k : Nat, k ≤ N ∧ i = .int .i64 k ∧ Hid (OwnU wr w.heap.size u (layP X N k)) ∧ Hid (Below w.heap.size w wr)) (fun _ i _ => N - (intOf i).toNat)
  case atStart => exact ⟨0, by omega, rfl, HO1.out, HB1.out⟩
  case round =>
    clear HO1 HB1
    obtain ⟨k, hk, rfl, HO, HB⟩ := hrel
    obtain ⟨w2, rfl⟩ : ∃ w2, w2 = wr := ⟨_, rfl⟩
    by_cases hlt : k < N
    · obtain ⟨b, o, Av, Cv, rfl, hb, hr, hkB, hkl, hvr, hvC, hCm, hnil⟩ := HX.out.2 k hlt
      have hlt' : (k : Int) < N := by omega
      have HKK := Lib.hid (ChKey.of hb hr hkl hvr)
      have HK := Lib.hid (show IsB (X k).key ∧ (X k).key.length = 32 from ⟨hkB, hkl⟩)
      have HVL : Hid (IsB (X k).val) := hvr.isB
      have hll := HLL.out k hk
      have HNX : Hid (layP X N (k + 1) = layP X N k ++ chB (X k)) := layP_next X N k
      have hlong : Hid (long (X k) = false) := anyLong_not HLO.out hlt
      clear hr hkB hkl hvr hvC hCm hnil hb
      generalize X k = x at *
      obtain ⟨ky, dl, vl⟩ := x
      have hk32 : ky.length = 32 := HK.out.2
      have HK32 := Lib.hid hk32
      clear hk32
      generalize layP X N k = lp at *
      cases dl
      · have d1 := (HKK.out w2 HB.out).2.1
        go_wp2_with ((with_reducible refine stopAt (o := ⟨some 26, _, _, _, _, _⟩) ?_); refine append1 und_bytes info_byte w2 rfl (.tmp 23) (.tmp 25) rfl w.heap.size _ lp HO.out 1 (by omega) rfl rfl (by omega) HB.out.size ?_; intro v3 w3 ho3 hg3; have HO3 := Lib.hid ho3; have HB3 := Lib.hid (HB.out.grown hg3 HB.out.size HO.out.ge); clear ho3 hg3)
        clear d1 HO HB
        go_loopw [3, 6] (fun u j wr => ∃ m : Nat, m ≤ 32 ∧ j = .int .i64 m ∧ Hid (OwnU wr w.heap.size u (lp ++ [1] ++ ky.take m)) ∧ Hid (Below w.heap.size w wr)) (fun _ j _ => 32 - (intOf j).toNat)
        case atStart => exact ⟨0, by omega, rfl, (by show OwnU _ _ _ _; simpa using HO3.out), HB3.out⟩
        case round =>
          clear HO3 HB3
          obtain ⟨m, hm, rfl, HO, HB⟩ := hrel
          obtain ⟨w4, rfl⟩ : ∃ w4, w4 = wr := ⟨_, rfl⟩
          by_cases hm32 : m < 32
          · have hm32' : (m : Int) < 32 := by omega
            have kc := (HKK.out w4 HB.out).1 m hm32
            have hlt8 : ky.getD m 0 < 256 := HK.out.1 _ (getD_mem (by have := HK32.out; omega))
            have HT := Lib.hid (take_succ_getD (show m < ky.length by have := HK32.out; omega))
            have HTL : Hid ((ky.take m).length ≤ 32) := by show _ ≤ _; rw [List.length_take]; omega
            simp only at kc
            generalize ky.getD m 0 = y at *
            go_wp2_with ((with_reducible refine stopAt (o := ⟨some 40, _, _, _, _, _⟩) ?_); refine append1 und_bytes info_byte w4 rfl (.tmp 31) (.tmp 39) rfl w.heap.size _ _ HO.out y hlt8 rfl rfl (by have := HTL.out; simp only [List.length_append, List.length_cons, List.length_nil]; omega) HB.out.size ?_; intro v5 w5 ho5 hg5; have HO5 := Lib.hid ho5; have HB5 := Lib.hid (HB.out.grown hg5 HB.out.size HO.out.ge); clear ho5 hg5)
            go_roundw
            case rel => exact ⟨m + 1, by omega, by go_num, by show OwnU _ _ _ _; rw [HT.out, ← List.append_assoc]; exact HO5.out, HB5.out⟩
            case measure => simp [intOf]; omega
          · have hm32' : ¬ (m : Int) < 32 := by omega
            obtain rfl : m = 32 := by omega
            have HKT : Hid (ky.take 32 = ky) := by show _ = _; exact List.take_of_length_le (by have := HK32.out; omega)
            rw [HKT.out] at HO
            have d2 := (HKK.out w4 HB.out).2.1
            have v2 := (HKK.out w4 HB.out).2.2.1
            simp only at d2 v2
            have hv128 : vl.length ≤ 128 := by
              have := hlong.out
              unfold long at this
              simpa using this
            go_wp2_with fail
            refine (two_any vl.length w4 (by omega)).mono ?_
            rintro e w5 ⟨v5, rfl, ho5, hb5⟩
            have HO5 := Lib.hid (HO.out.below hb5)
            have HB5 := Lib.hid (HB.out.trans (hb5.mono HB.out.size))
            have H1 : vl.length % 256 < 256 := by omega
            have H2 : vl.length / 256 % 256 < 256 := by omega
            have HCB : Hid (chB ⟨ky, false, vl⟩ = [1] ++ ky ++ [vl.length % 256, vl.length / 256 % 256] ++ vl) := by
              show _ = _
              unfold chB
              rw [if_neg (by simp)]
              simp
            generalize vl.length % 256 = p at *
            generalize vl.length / 256 % 256 = q at *
            obtain ⟨g, cc, rfl, hg1, hg2, hgf, hgc⟩ := ho5.shape (by simp)
            have g0 := hgc 0 (by simp)
            have g1 := hgc 1 (by simp)
            simp only [List.getD_cons_zero, List.getD_cons_succ] at g0 g1
            clear ho5 hb5 hgf hgc d2 v2
            go_wp2_with fail
            rename_i KK hKK
            have HKL2 := Lib.hid hKK
            clear hKK
            refine wp_region_held_drew (S := fun w' => w'.cell? ⟨g, 0, none⟩ = some (.int .u8 (p : Int)) ∧ w'.cell? ⟨g, 1, none⟩ = some (.int .u8 (q : Int))) (by kernel_rfl) ⟨g0, g1⟩ fun hH => ?_
            refine wpAnyH_take (i := 0) (oi := ⟨some 53, _, _, _, _, _⟩) rfl (by kernel_rfl) (by kernel_rfl) (by kernel_rfl) (fun _ _ _ h => h) (Or.inl ⟨by rfl, fun w hw => by ((try dsimp only at hw); go_split_ands; go_simp; with_reducible rfl)⟩) (by assumption) ?_
            try simp only [Act.put, List.setIfInBounds_toArray, List.set_cons_zero, List.set_cons_succ]
            refine wpAnyH_take (i := 1) (oi := ⟨some 54, _, _, _, _, _⟩) rfl (by kernel_rfl) (by kernel_rfl) (by kernel_rfl) (fun _ _ _ h => h) (Or.inl ⟨by rfl, fun w hw => by ((try dsimp only at hw); go_split_ands; go_simp; with_reducible rfl)⟩) (by assumption) ?_
            try simp only [Act.put, List.setIfInBounds_toArray, List.set_cons_zero, List.set_cons_succ]
            refine wpAnyH_take (i := 2) (oi := ⟨some 55, _, _, _, _, _⟩) rfl (by kernel_rfl) (by kernel_rfl) (by kernel_rfl) (fun _ _ _ h => h) (Or.inl ⟨by rfl, fun w hw => by ((try dsimp only at hw); go_split_ands; go_simp; with_reducible rfl)⟩) (by assumption) ?_
            try simp only [Act.put, List.setIfInBounds_toArray, List.set_cons_zero, List.set_cons_succ]
            refine wpAnyH_take (i := 3) (oi := ⟨some 56, _, _, _, _, _⟩) rfl (by kernel_rfl) (by kernel_rfl) (by kernel_rfl) (fun _ _ _ h => h) (Or.inl ⟨by rfl, fun w hw => by ((try dsimp only at hw); go_split_ands; go_simp; with_reducible rfl)⟩) (by assumption) ?_
            try simp only [Act.put, List.setIfInBounds_toArray, List.set_cons_zero, List.set_cons_succ]
            refine wpAnyH_take (i := 4) (oi := ⟨some 57, _, _, _, _, _⟩) rfl (by kernel_rfl) (by kernel_rfl) (by kernel_rfl) (fun _ _ _ h => h) (Or.inl ⟨by rfl, fun w hw => by ((try dsimp only at hw); go_split_ands; go_simp; with_reducible rfl)⟩) (by assumption) ?_
            try simp only [Act.put, List.setIfInBounds_toArray, List.set_cons_zero, List.set_cons_succ]
            refine wpAnyH_take (i := 5) (oi := ⟨some 58, _, _, _, _, _⟩) rfl (by kernel_rfl) (by kernel_rfl) (by kernel_rfl) (fun _ _ _ h => h) (Or.inl ⟨by rfl, fun w hw => by ((try dsimp only at hw); go_split_ands; go_simp; with_reducible rfl)⟩) (by assumption) ?_
            try simp only [Act.put, List.setIfInBounds_toArray, List.set_cons_zero, List.set_cons_succ]
            refine wpAnyH_take (i := 6) (oi := ⟨some 59, _, _, _, _, _⟩) rfl (by kernel_rfl) (by kernel_rfl) (by kernel_rfl) (fun _ _ _ h => h) (Or.inl ⟨by rfl, fun w hw => by ((try dsimp only at hw); go_split_ands; go_simp; with_reducible rfl)⟩) (by assumption) ?_
            try simp only [Act.put, List.setIfInBounds_toArray, List.set_cons_zero, List.set_cons_succ]
            refine wpAnyH_ready (rs := [7]) (by kernel_rfl) (by simp) ?_
            refine AllReadyH.cons rfl (fun K hK => ?_) (AllReadyH.nil)
            go_simp
            have HRB : Hid (RB (w5.alloc (.cells #[.int .u8 (p : Int), .int .u8 (q : Int)] 5)) (some ⟨w5.heap.size, 0, none⟩) 2 [p, q]) := (own_two p q H1 H2).reads
            have HOA : Hid (OwnU (w5.alloc (.cells #[.int .u8 (p : Int), .int .u8 (q : Int)] 5)) w.heap.size u3 (lp ++ [1] ++ ky)) := HO5.out.below ((Below.refl _ _).alloc (Nat.le_refl _) _)
            have HBA : Hid (Below w.heap.size w (w5.alloc (.cells #[.int .u8 (p : Int), .int .u8 (q : Int)] 5)).drew) := drewN_below (HB5.out.alloc HB5.out.size _) 1
            have hS : (w5.alloc (.cells #[.int .u8 (p : Int), .int .u8 (q : Int)] 5)).drew.cell? ⟨g, 0, none⟩ = some (.int .u8 (p : Int)) ∧ (w5.alloc (.cells #[.int .u8 (p : Int), .int .u8 (q : Int)] 5)).drew.cell? ⟨g, 1, none⟩ = some (.int .u8 (q : Int)) := by
              have hbb : Below w5.heap.size w5 (w5.alloc (.cells #[.int .u8 (p : Int), .int .u8 (q : Int)] 5)).drew := drewN_below ((Below.refl _ _).alloc (Nat.le_refl _) _) 1
              exact ⟨(hbb.cell (p := ⟨g, 0, none⟩) hg2).trans g0, (hbb.cell (p := ⟨g, 1, none⟩) hg2).trans g1⟩
            have HRB' : Hid (RB (w5.alloc (.cells #[.int .u8 (p : Int), .int .u8 (q : Int)] 5)).drew (some ⟨w5.heap.size, 0, none⟩) 2 [p, q]) := HRB.out.below (drewN_below (Below.refl _ _) 1)
            have HOA' : Hid (OwnU (w5.alloc (.cells #[.int .u8 (p : Int), .int .u8 (q : Int)] 5)).drew w.heap.size u3 (lp ++ [1] ++ ky)) := HOA.out.below (drewN_below (Below.refl _ _) 1)
            clear HRB HOA
            have HS6 : Hid (∀ W, (w5.alloc (.cells #[.int .u8 (p : Int), .int .u8 (q : Int)] 5)).drew.grownBy W u3.ownBlock → W.cell? ⟨g, 0, none⟩ = some (.int .u8 (p : Int)) ∧ W.cell? ⟨g, 1, none⟩ = some (.int .u8 (q : Int))) := fun W hW => by
              have hlt := (HO.out.lt)
              have hne : some g ≠ u3.ownBlock := fun e => by have := (HO.out.lt _ e.symm).2; omega
              have hbk := hW.block g (by show g < _; have : (w5.alloc (.cells #[.int .u8 (p : Int), .int .u8 (q : Int)] 5)).drew.heap.size = w5.heap.size + 1 := (by show _ = _; simp [World.drew]); omega) hne
              exact ⟨(World.cell?_of_block (a := ⟨g, 0, none⟩) hbk).trans hS.1, (World.cell?_of_block (a := ⟨g, 1, none⟩) hbk).trans hS.2⟩
            generalize (w5.alloc (.cells #[.int .u8 (p : Int), .int .u8 (q : Int)] 5)).drew = w6 at *
            refine hK.out _ _ hS (fun hH2 => ?_)
            clear hK hH
            refine wpAnyH_ready (rs := [8]) (by kernel_rfl) (by simp) ?_
            refine AllReadyH.cons (o := ⟨some 61, _, _, _, _, _⟩) rfl (fun K hK => ?_) (AllReadyH.nil)
            refine wpOp_appendB (o := ⟨some 61, _, _, _, _, _⟩) und_bytes info_byte ?hw3 w6 (.tmp 53) (.tmp 60) rfl w.heap.size u3 _ HOA'.out ⟨w5.heap.size, 0, none⟩ 2 2 [p, q] HRB'.out ?hs3 ?hx3 (by have := HK32.out; simp only [List.length_append, List.length_cons, List.length_nil]; omega) HBA.out.size ?hh3
            case hw3 => kernel_rfl
            case hs3 => rfl
            case hx3 => rfl
            intro v7 w7 ho7 hg7
            have HO7 := Lib.hid ho7
            have HB7 := Lib.hid (HBA.out.grown hg7 HBA.out.size HOA'.out.ge)
            have hS7 : w7.cell? ⟨g, 0, none⟩ = some (.int .u8 (p : Int)) ∧ w7.cell? ⟨g, 1, none⟩ = some (.int .u8 (q : Int)) := HS6.out w7 hg7
            clear ho7 hg7
            refine hK.out _ _ hS7 (fun hH3 => ?_)
            clear hK hH2 hS hS7
            refine wpAnyH_take (i := 9) (oi := ⟨some 3, _, _, _, _, _⟩) rfl (by kernel_rfl) (by kernel_rfl) (by kernel_rfl) (fun _ _ _ h => h) (Or.inl ⟨by rfl, fun w hw => by ((try dsimp only at hw); go_split_ands; go_simp; with_reducible rfl)⟩) (by assumption) ?_
            try simp only [Act.put, List.setIfInBounds_toArray, List.set_cons_zero, List.set_cons_succ]
            refine wpAnyH_done (by kernel_rfl) ?_ _
            change KK _ _
            refine HKL2.out _ _ ?_
            clear hH3 g0 g1 HS6 HBA HOA' HRB' HO HB hg1 hg2
            go_wp2_with fail
            go_loopw [3, 8] (fun u j wr => ∃ m : Nat, m ≤ vl.length ∧ j = .int .i64 m ∧ Hid (OwnU wr w.heap.size u (lp ++ [1] ++ ky ++ [p, q] ++ vl.take m)) ∧ Hid (Below w.heap.size w wr)) (fun _ j _ => vl.length - (intOf j).toNat)
            case atStart => exact ⟨0, by omega, rfl, (by show OwnU _ _ _ _; simpa using HO7.out), HB7.out⟩
            case round =>
              clear HO7 HB7 HO5 HB5
              obtain ⟨m, hm, rfl, HO, HB⟩ := hrel
              obtain ⟨w8, rfl⟩ : ∃ w8, w8 = wr := ⟨_, rfl⟩
              have v3' := (HKK.out w8 HB.out).2.2.1
              simp only at v3'
              by_cases hml : m < vl.length
              · have hml' : (m : Int) < (vl.length : Int) := by omega
                obtain ⟨ad, rfl, hbl, hcell⟩ := (HKK.out w8 HB.out).2.2.2.at_ hml
                have hlt8 : vl.getD m 0 < 256 := HVL.out _ (getD_mem hml)
                have HT := Lib.hid (take_succ_getD hml)
                have HTL : Hid ((vl.take m).length ≤ 128) := by show _ ≤ _; rw [List.length_take]; omega
                simp only at hcell
                clear hbl
                generalize vl.getD m 0 = y at *
                go_wp2_with ((with_reducible refine stopAt (o := ⟨some 82, _, _, _, _, _⟩) ?_); refine append1 und_bytes info_byte w8 rfl (.tmp 72) (.tmp 81) rfl w.heap.size _ _ HO.out y hlt8 rfl rfl (by have := HTL.out; have := HK32.out; simp only [List.length_append, List.length_cons, List.length_nil]; omega) HB.out.size ?_; intro v9 w9 ho9 hg9; have HO9 := Lib.hid ho9; have HB9 := Lib.hid (HB.out.grown hg9 HB.out.size HO.out.ge); clear ho9 hg9)
                go_roundw
                case rel => exact ⟨m + 1, by omega, by go_num, (by show OwnU _ _ _ _; rw [HT.out, ← List.append_assoc]; exact HO9.out), HB9.out⟩
                case measure => simp [intOf]; omega
              · have hml' : ¬ (m : Int) < (vl.length : Int) := by omega
                have HKT : Hid (vl.take m = vl) := by show _ = _; exact List.take_of_length_le (by omega)
                rw [HKT.out] at HO
                go_wp2_with fail
                go_roundw
                case rel => exact ⟨k + 1, by omega, by go_num, (by
                  show OwnU _ _ _ _
                  rw [HNX.out, HCB.out]
                  have h := HO.out
                  simpa [List.append_assoc] using h), HB.out⟩
                case measure => simp [intOf]; omega
      · have d1 := (HKK.out w2 HB.out).2.1
        go_wp2_with ((with_reducible refine stopAt (o := ⟨some 26, _, _, _, _, _⟩) ?_); refine append1 und_bytes info_byte w2 rfl (.tmp 23) (.tmp 25) rfl w.heap.size _ lp HO.out 2 (by omega) rfl rfl (by omega) HB.out.size ?_; intro v3 w3 ho3 hg3; have HO3 := Lib.hid ho3; have HB3 := Lib.hid (HB.out.grown hg3 HB.out.size HO.out.ge); clear ho3 hg3)
        clear d1 HO HB
        go_loopw [3, 6] (fun u j wr => ∃ m : Nat, m ≤ 32 ∧ j = .int .i64 m ∧ Hid (OwnU wr w.heap.size u (lp ++ [2] ++ ky.take m)) ∧ Hid (Below w.heap.size w wr)) (fun _ j _ => 32 - (intOf j).toNat)
        case atStart => exact ⟨0, by omega, rfl, (by show OwnU _ _ _ _; simpa using HO3.out), HB3.out⟩
        case round =>
          clear HO3 HB3
          obtain ⟨m, hm, rfl, HO, HB⟩ := hrel
          obtain ⟨w4, rfl⟩ : ∃ w4, w4 = wr := ⟨_, rfl⟩
          by_cases hm32 : m < 32
          · have hm32' : (m : Int) < 32 := by omega
            have kc := (HKK.out w4 HB.out).1 m hm32
            have hlt8 : ky.getD m 0 < 256 := HK.out.1 _ (getD_mem (by have := HK32.out; omega))
            have HT := Lib.hid (take_succ_getD (show m < ky.length by have := HK32.out; omega))
            have HTL : Hid ((ky.take m).length ≤ 32) := by show _ ≤ _; rw [List.length_take]; omega
            simp only at kc
            generalize ky.getD m 0 = y at *
            go_wp2_with ((with_reducible refine stopAt (o := ⟨some 40, _, _, _, _, _⟩) ?_); refine append1 und_bytes info_byte w4 rfl (.tmp 31) (.tmp 39) rfl w.heap.size _ _ HO.out y hlt8 rfl rfl (by have := HTL.out; simp only [List.length_append, List.length_cons, List.length_nil]; omega) HB.out.size ?_; intro v5 w5 ho5 hg5; have HO5 := Lib.hid ho5; have HB5 := Lib.hid (HB.out.grown hg5 HB.out.size HO.out.ge); clear ho5 hg5)
            go_roundw
            case rel => exact ⟨m + 1, by omega, by go_num, by show OwnU _ _ _ _; rw [HT.out, ← List.append_assoc]; exact HO5.out, HB5.out⟩
            case measure => simp [intOf]; omega
          · have hm32' : ¬ (m : Int) < 32 := by omega
            obtain rfl : m = 32 := by omega
            have HKT : Hid (ky.take 32 = ky) := by show _ = _; exact List.take_of_length_le (by have := HK32.out; omega)
            rw [HKT.out] at HO
            have d2 := (HKK.out w4 HB.out).2.1
            have v2 := (HKK.out w4 HB.out).2.2.1
            simp only at d2 v2
            go_wp2_with fail
            go_roundw
            case rel => exact ⟨k + 1, by omega, by go_num, by
              show OwnU _ _ _ _
              rw [HNX.out]
              have h := HO.out
              rwa [show lp ++ [2] ++ ky = lp ++ chB ⟨ky, true, vl⟩ by
                unfold chB
                rw [if_pos rfl]
                simp] at h, HB.out⟩
            case measure => simp [intOf]; omega
    · have hnlt : ¬ (k : Int) < N := by omega
      obtain rfl : k = N := by omega
      go_wp2_with fail
      go_ret
      exact ⟨_, rfl, HO.out, HB.out⟩
set_option maxHeartbeats 1000000 in
theorem refbuild_any (A : Option Addr) (N c : Nat) (X : Nat → Chg) (w : World) (hx : ChsAt w A N X) (hc : N ≤ c) (hn : N * 64 ≤ 140737488355328) (hv : ∀ k, k < N → (X k).val.length ≤ 140737488355328) :
    Calls Try.prog 89 #[.slice A N c] w (BuildPost X N w) := by
  have HX := Lib.hid hx
  have HW := Lib.hid (wrong_any A N c 64 X w hx hc (by omega) hn hv)
  clear hx hv
  rw [wrong_build] at HW
  have HE : Hid (buildE X N = 0 → heldN X N 64 = 0) := fun h => by
    unfold buildE at h
    split at h
    · assumption
    · exact absurd h ‹_›
  have HD : Hid (∀ v w', (buildE X N = 0 → OwnU w' w.heap.size v (layN X N)) → (buildE X N ≠ 0 → v = .slice none 0 0) → Below w.heap.size w w' → BuildPost X N w (.returned (.tuple #[v, .int .i64 (buildE X N : Nat)])) w') := fun v w' h1 h2 h3 => ⟨v, rfl, h3, h1, h2⟩
  generalize BuildPost X N w = R at *
  go_enter Try.func89, Try.ntmps89
  go_wp2_with fail
  refine HW.out.mono ?_
  rintro e w1 ⟨rfl, hb1⟩
  have HB1 := Lib.hid hb1
  clear hb1
  by_cases h0 : buildE X N = 0
  · have HL := Lib.hid (laid_any A N c X w1 (HX.out.below HB1.out) (HE.out h0))
    rw [h0] at HD ⊢
    clear h0
    go_wp2_with fail
    refine HL.out.mono ?_
    rintro e w2 ⟨v2, rfl, ho2, hb2⟩
    have HB2 := Lib.hid (HB1.out.trans (hb2.mono HB1.out.size))
    have HO2 := Lib.hid (ho2.mono HB1.out.size)
    clear ho2 hb2
    go_wp2_with fail
    exact HD.out _ _ (fun _ => HO2.out) (fun h => absurd rfl h) HB2.out
  · have H0 := Lib.hid h0
    obtain ⟨z, hz⟩ : ∃ z, z = buildE X N := ⟨_, rfl⟩
    rw [← hz] at HD h0 ⊢
    have h1 : (z : Int) ≠ 0 := by omega
    have h2 : (((z : Nat) : Int) != 0) = true := by rw [bne_iff_ne]; exact h1
    clear hz
    go_wp2_with fail
    exact HD.out _ _ (fun h => absurd h h0) (fun _ => rfl) HB1.out
end Go.Proofs.Ytkpbeibcfaenhaa
