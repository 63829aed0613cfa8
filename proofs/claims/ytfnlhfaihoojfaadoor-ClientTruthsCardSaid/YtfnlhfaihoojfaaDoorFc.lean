/- BytesR, Take, Sorted (merged) -/
import Derived.Test.YtfnlhfaihoojfaaDoorFa
import Derived.Test.YtfnlhfaihoojfaaDoorFb
import Derived.Laws.ResultCell
/- ledgerref3.bytes. (the walk of copyBytes, at another function) -/
namespace Go.Proofs.YtfnlhfaihoojfaaDoor
open Go.RowKit
set_option maxHeartbeats 400000 in
theorem bytes_any (A : Option Addr) (n c : Nat) (xs : List Nat) (w : World) (hx : RB w A n xs) (hn : n ≤ 140737488355328) :
    Calls Tryd.prog 84 #[.slice A n c] w (OwnRet w xs) := by
  have HX := Lib.hid hx
  clear hx
  go_enter Tryd.func84, Tryd.ntmps84
  go_wp2_with fail
  go_loopw [3, 4] (fun v i wr => ∃ k : Nat, k ≤ n ∧ i = .int .i64 k ∧ OwnU wr w.heap.size v (xs.take k) ∧ Below w.heap.size w wr) (fun _ i _ => n - (intOf i).toNat)
  case atStart => exact ⟨0, by omega, rfl, by simpa using Own.nil _ _ _, Below.refl _ _⟩
  case round =>
    obtain ⟨k, hk, rfl, hown, hbel⟩ := hrel
    have hlen := HX.out.1
    have HO := Lib.hid hown
    have HB := Lib.hid hbel
    clear hown hbel
    by_cases hlt : k < n
    · obtain ⟨ad, rfl, hb, hcell⟩ := HX.out.at_ hlt
      have hc := cell_later hb HB.out hcell
      have hlt8 : xs.getD k 0 < 256 := HX.out.lt hlt
      have HT := Lib.hid (take_succ_getD (show k < xs.length by omega))
      have hl2 : (xs.take k).length + 1 ≤ 140737488355328 := by rw [List.length_take]; omega
      have hlt' : (k : Int) < n := by omega
      clear hcell hlen
      generalize xs.getD k 0 = b at *
      go_wp2_with (at_builtin; refine append1 und_bytes info_byte wr rfl (.tmp 11) (.tmp 16) rfl w.heap.size _ (xs.take k) HO.out b hlt8 rfl rfl hl2 HB.out.size ?_; intro v' w1 hown1 hgrow1)
      have hb1 := HB.out.grown hgrow1 HB.out.size HO.out.ge
      go_roundw
      case rel => exact ⟨k + 1, by omega, by go_num, by rw [HT.out]; exact hown1, hb1⟩
      case measure => simp [intOf]; omega
    · have HT : Hid (xs.take k = xs) := by
        show xs.take k = xs
        exact List.take_of_length_le (by omega)
      have hnlt : ¬ (k : Int) < n := by omega
      clear hlen
      go_wp2_with fail
      go_ret
      exact ⟨_, rfl, by rw [← HT.out]; exact HO.out, HB.out⟩
end Go.Proofs.YtfnlhfaihoojfaaDoor

/- batch.take. -/
namespace Go.Proofs.YtfnlhfaihoojfaaDoor
open Go.RowKit
def takeE (xs : List Nat) : Nat :=
  if xs.length < 33 then 30 else if xs.getD 0 0 = 2 then 0 else if xs.getD 0 0 = 1 then
    (if xs.length < 35 then 30 else if 128 < numN (xs.drop 33) then 32 else if xs.length < 35 + numN (xs.drop 33) then 30 else 0) else 30
def takeC (xs : List Nat) : Chg := if xs.getD 0 0 = 2 then ⟨(xs.drop 1).take 32, true, []⟩ else ⟨(xs.drop 1).take 32, false, (xs.drop 35).take (numN (xs.drop 33))⟩
def takeR (xs : List Nat) : List Nat := if xs.getD 0 0 = 2 then xs.drop 33 else (xs.drop 35).drop (numN (xs.drop 33))
/-- The cells of a change, the value as it stands. -/
def chS (key : List Nat) (d : Bool) (v : Value) : List Value := bvs key ++ [.bool d, v]
theorem chS_length {key : List Nat} (d : Bool) (v : Value) (h : key.length = 32) : (chS key d v).length = 34 := by simp [chS, bvs, h]
theorem chS_del {key : List Nat} {d : Bool} {v : Value} (d' : Bool) (h : key.length = 32) : (chS key d v).set 32 (.bool d') = chS key d' v := by
  unfold chS
  rw [List.set_append_right _ _ (by simp [bvs, h])]
  simp [bvs, h]
theorem chS_val {key : List Nat} {d : Bool} {v : Value} (v' : Value) (h : key.length = 32) : (chS key d v).set 33 v' = chS key d v' := by
  unfold chS
  rw [List.set_append_right _ _ (by simp [bvs, h])]
  simp [bvs, h]
theorem chS_key {key : List Nat} {d : Bool} {v : Value} {key' : List Nat} (h : key.length = 32) (h' : key'.length = 32) : splice (chS key d v) 0 (bvs key') = chS key' d v := by
  unfold chS splice
  rw [List.take_zero, List.nil_append, Nat.zero_add, show (bvs key').length = (bvs key).length by simp [bvs, h, h'], List.drop_left]
theorem chS_one {key : List Nat} {d : Bool} {v : Value} (hv : v.oneCell' = true) : ∀ u ∈ chS key d v, u.oneCell' = true := fun u hu => by
  simp only [chS, bvs, List.mem_append, List.mem_map, List.mem_cons, List.not_mem_nil, or_false] at hu
  rcases hu with ⟨y, _, rfl⟩ | rfl | rfl
  · rfl
  · rfl
  · exact hv
theorem chs_setdel {w : World} {g : Nat} {t : TypeId} {key : List Nat} {d : Bool} {v : Value} (h : BlkIs w g t (chS key d v).toArray) (hk : key.length = 32) (d' : Bool) : BlkIs (w.setCell ⟨g, 32, none⟩ (.bool d')) g t (chS key d' v).toArray := by
  have h1 := BlkIs.stored h 32 (.bool d')
  rwa [List.setIfInBounds_toArray, chS_del d' hk] at h1
theorem chs_setval {w : World} {g : Nat} {t : TypeId} {key : List Nat} {d : Bool} {v : Value} (h : BlkIs w g t (chS key d v).toArray) (hk : key.length = 32) (v' : Value) : BlkIs (w.setCell ⟨g, 33, none⟩ v') g t (chS key d v').toArray := by
  have h1 := BlkIs.stored h 33 v'
  rwa [List.setIfInBounds_toArray, chS_val v' hk] at h1
theorem chS_zero : (zarr 32) ++ #[(.bool false : Value), .slice none 0 0] = (chS (zs 32) false (.slice none 0 0)).toArray := by simp [chS, zarr]
theorem info_chS : (Tryd.prog.info? 93).map (fun i => (i.zero, i.size)) = some (some (.agg (chS (zs 32) false (.slice none 0 0)).toArray), 34) := by rw [← chS_zero]; exact info_chg
theorem results_three {fn : Func} {p u q : Tmp} {ty : TypeId} (h : fn.results = #[.cell p ty, .tmp u, .tmp q]) (tmps : Array Value) (P : Program) (w : World) :
    (results fn tmps).run P w =
      ((asAddr (tmps.getD p undef)).run P w).andThen fun a w₁ => ((loadVar ty a).run P w₁).andThen fun v w₂ => .ok (.tuple #[v, tmps.getD u undef, tmps.getD q undef]) w₂ := by
  simp only [results, h]
  simp [Sem.run_bind, Result.andThen]
theorem chg_ret {fn : Func} {p u q : Tmp} {R : Ending → World → Prop} {x : Act} {w : World} {g : Nat} {cs : List Value} {v z : Value} (h : fn.results = #[.cell p 93, .tmp u, .tmp q]) (hp : x.tmps.getD p undef = .pointer (some ⟨g, 0, none⟩))
    (hb : BlkIs w g 93 cs.toArray) (hl : cs.length = 34) (hu : x.tmps.getD u undef = v) (hq : x.tmps.getD q undef = z) (hd : x.defers = []) (hR : R (.returned (.tuple #[.agg cs.toArray, v, z])) w) : bodyPost Tryd.prog fn R .ret x w := by
  refine bodyPost_ret (v := .tuple #[.agg cs.toArray, v, z]) ?_ hd hR
  obtain ⟨d, hu', hdr⟩ := row_of row_chg
  have h2 := run_loadVar_mid (P := Tryd.prog) w g 0 93 cs d (BlkIs.range hb) hu' hdr (by rw [size_chg, hl])
  rw [results_three h, hp, hu, hq]
  simp [asAddr, Result.andThen, h2]
theorem wpOp_storeV {P : Program} {ops : Array Oper} {Q : Exit → Act → World → Prop} {K : Act → World → Prop} {o : Oper} {a : Act} {w : World} (hw : Region.wanted o (yielded ops a.tmps) = true) (ty : TypeId) (x y : Operand) (ho : o.op = .store ty x y)
    (g : Nat) (cs old : List Value) (t : TypeId) (hx : a.eval x = .pointer (some ⟨g, 0, none⟩)) (hy : a.eval y = .agg cs.toArray) (hL : BlkIs w g t old.toArray) (hi : (P.info? ty).map (·.size) = some cs.length) (hl : old.length = cs.length)
    (h1 : ∀ v ∈ cs, v.oneCell' = true) (h : ∀ w', Hid (BlkIs w' g t cs.toArray) → Hid (w.grownBy w' (some g)) → K (a.put o.dst undef) w') :
    if Region.wanted o (yielded ops a.tmps) = true then o.wp P a w K Q else K (a.put o.dst undef) w := by
  rw [if_pos hw]
  refine wp_store_row ty x y ho g _ hx hy t _ hL (by rw [hi]; simp) (by simp [hl]) (by
    rw [Array.all_eq_true_iff_forall_mem]
    intro v hv
    exact h1 v (by simpa using hv)) (h _ ?_ (grown_setRow _))
  show _ = _
  exact setRow_heap w g _ _ t (0, 0) hL
theorem yields_sliceFrom {P : Program} {ops : Array Oper} {S : World → Prop} {o : Oper} {a : Act} (hw : Region.wanted o (yielded ops a.tmps) = true) (t : TypeId) (x ix : Operand)
    (ho : o.op = .slice t x (some ix) none none) (ht : P.underlying t = some (.slice (P.elem t))) (hsz : (P.info? (P.elem t)).map (·.size) = some 1) (A : Option Addr) (m d k : Nat) (hx : a.eval x = .slice A m d) (hi : a.eval ix = .int .i64 (k : Int))
    (hk : k ≤ m) : YieldsIf P ops S o (.slice (if d = k then A else A.map (·.add k)) (m - k) (d - k)) a :=
  .inl ⟨hw, fun w _ => by
    have hs : (sizeOf (P.elem t)).run P w = .ok 1 w := by
      cases hq : P.info? (P.elem t) with
      | none => simp [hq] at hsz
      | some i =>
        have h1 : i.size = 1 := by simpa [hq] using hsz
        simp [sizeOf, typeInfo, hq, h1]
    have hrun : (Instr.sliceAt t (.slice A m d) (some (.int .i64 (k : Int))) none none).run P w = .ok (.slice (if d = k then A else A.map (·.add k)) (m - k) (d - k)) w := by
      rw [run_sliceAt_slice w t _ _ _ _ ht, run_slice_l w t A m d ht .i64 (k : Int) (by omega) (by omega), hs]
      simp only [Result.andThen_ok, sliced, Int.toNat_natCast, Nat.mul_one]
    unfold execOp
    simp only [ho, hx, hi, Option.map, Sem.run_bind, Sem.run_pure, hrun, Result.andThen_ok]⟩
theorem chS_at32 {key : List Nat} {d : Bool} {v : Value} (h : key.length = 32) : (chS key d v)[32]? = some (.bool d) := by
  unfold chS
  rw [List.getElem?_append_right (by simp [bvs, h])]
  simp [bvs, h]
theorem chS_at33 {key : List Nat} {d : Bool} {v : Value} (h : key.length = 32) : (chS key d v)[33]? = some v := by
  unfold chS
  rw [List.getElem?_append_right (by simp [bvs, h])]
  simp [bvs, h]
theorem rb_cells' {w : World} {ad : Addr} {n : Nat} {xs : List Nat} (h : RB w (some ad) n xs) : ∀ j v, (bvs xs)[j]? = some v → w.cell? (ad.add j) = some v := fun j v hj => by
  simp only [bvs, List.getElem?_map, Option.map_eq_some_iff] at hj
  obtain ⟨x, hx, rfl⟩ := hj
  have hjl := (List.getElem?_eq_some_iff.1 hx).1
  obtain ⟨ad', e, _, hc⟩ := h.2.2 (by have := h.1; omega)
  injection e with e
  subst e
  exact hc j x hx
theorem own_max' {e : TypeId} {w : World} {base : Nat} {v : Value} {xs : List Nat} (h : Own e w base v xs) (A : Option Addr) (n c : Nat) (hv : v = .slice A n c) : c ≤ maxLen := by
  subst hv
  rcases h.1.2 with ⟨e1, _⟩ | ⟨g, cap, cur, e1, _, _, _, hm, _⟩
  · injection e1 with _ _ e3
    rw [e3]
    exact Nat.zero_le _
  · injection e1 with _ _ e3
    rw [e3]
    exact hm
def TakePost (A : Option Addr) (xs : List Nat) (w : World) (e : Ending) (w' : World) : Prop :=
  ∃ cs B m d, e = .returned (.tuple #[.agg cs.toArray, .slice B m d, .int .i64 (takeE xs : Nat)]) ∧ Below w.heap.size w w' ∧ cs.length = 34 ∧ (∀ v ∈ cs, v.oneCell' = true) ∧
    (takeE xs = 0 → ∃ Av Cv, cs = chC (takeC xs) Av Cv ∧ RB w' Av (takeC xs).val.length (takeC xs).val ∧ (takeC xs).val.length ≤ Cv ∧ Cv ≤ maxLen ∧ (Av = none → Cv = 0) ∧ (∀ ad, Av = some ad → w.heap.size ≤ ad.block) ∧
      RB w' B m (takeR xs) ∧ m ≤ d ∧ (B = none → d = 0) ∧ ∀ ad, B = some ad → ∃ ad', A = some ad' ∧ ad'.block = ad.block)
end Go.Proofs.YtfnlhfaihoojfaaDoor

/- ledgerref3.plain, sorted. -/
namespace Go.Proofs.YtfnlhfaihoojfaaDoor
open Go.RowKit
/-- 'api.Change{Key: k, Del: d}'. -/
theorem built_ch2 {key : List Nat} {d : Bool} (hk : key.length = 32) :
    Tryd.prog.built 93 [(0, .agg (bvs key).toArray), (1, .bool d)] = some (chS key d (.slice none 0 0)).toArray := by
  have hb : ∃ Z : Array Value, Z.size = 34 ∧ Z[33]? = some (.slice none 0 0) ∧ ∀ ps, Tryd.prog.built 93 ps = Instr.fill (#[(0, 32), (32, 1), (33, 1)][·]?) Z ps := by
    refine ⟨(zarr 32) ++ #[.bool false, .slice none 0 0], by simp [zarr, bvs, zs], by rfl, fun ps => ?_⟩
    have h1 : (Tryd.prog.info? 93).map (·.zero) = some (some (.agg ((zarr 32) ++ #[.bool false, .slice none 0 0]))) := by kernel_rfl
    obtain ⟨i, hi, hz⟩ : ∃ i, Tryd.prog.info? 93 = some i ∧ i.zero = some (.agg ((zarr 32) ++ #[.bool false, .slice none 0 0])) := by
      cases hq : Tryd.prog.info? 93 with
      | none => simp [hq] at h1
      | some i => exact ⟨i, rfl, by simpa [hq] using h1⟩
    have hp : (Tryd.prog.underlying 93).bind (fun d => match d with | .struct fs => fs.toList.mapM (fun f => (Tryd.prog.info? f.type).map fun i => (f.offset, i.size)) | _ => none) = some [(0, 32), (32, 1), (33, 1)] := by kernel_rfl
    rw [Tryd.underlying93] at hp
    unfold Program.built
    rw [hi, Tryd.underlying93]
    simp only [hz]
    simp only [Option.bind_some] at hp
    rw [hp]
    rfl
  obtain ⟨Z, hZ, hZ3, hb⟩ := hb
  have hkl : (bvs key).length = 32 := by simp [bvs, hk]
  have s1 : ((Value.agg (bvs key).toArray).cells).size = 32 := by simp [Value.cells, hkl]
  rw [hb, fill_step (off := 0) (size := 32) rfl s1 (by omega), fill_step (off := 32) (size := 1) rfl rfl (by rw [spl_size]; omega), Instr.fill]
  congr 1
  apply Array.ext_getElem?
  intro j
  have e1 : ((Value.agg (bvs key).toArray).cells) = (bvs key).toArray := rfl
  have e2 : (Value.bool d).cells = #[Value.bool d] := rfl
  unfold chS
  rw [spl_at (by rw [spl_size, e2]; simp; omega), e2, spl_at (by rw [s1]; omega), e1]
  simp only [List.size_toArray, List.length_cons, List.length_nil, List.getElem?_toArray, hkl]
  by_cases h3 : j = 33
  · subst h3
    rw [if_neg (by omega), if_neg (by omega), List.getElem?_append_right (by omega), hkl]
    exact hZ3
  by_cases h2 : j = 32
  · subst h2
    rw [if_pos (by omega), List.getElem?_append_right (by omega), hkl]
    rfl
  rw [if_neg (by omega)]
  by_cases h1 : j < 32
  · rw [if_pos (by omega), List.getElem?_append_left (by omega), Nat.sub_zero]
  · rw [if_neg (by omega), Array.getElem?_eq_none (by omega), List.getElem?_eq_none (by rw [List.length_append, hkl]; simp; omega)]
theorem plain_next {w w1 w2 w3 w4 : World} {t1 t2 : TypeId} {c1 c2 : Array Value} (hw : Below w.heap.size w w3) (h1 : BlkIs w2 w.heap.size t1 c1) (h2 : BlkIs w2 w1.heap.size t2 c2) (h1' : BlkIs w3 w.heap.size t1 c1) (h2' : BlkIs w3 w1.heap.size t2 c2) (hg : w3.grownBy w4 (some w2.heap.size)) :
    Below w.heap.size w w4 ∧ BlkIs w4 w.heap.size t1 c1 ∧ BlkIs w4 w1.heap.size t2 c2 ∧ w.heap.size < w2.heap.size ∧ w1.heap.size < w2.heap.size := by
  have a1 := BlkIs.lt h1
  have a2 := BlkIs.lt h2
  exact ⟨hw.grown hg hw.size (fun k hk => by injection hk with hk; omega), BlkIs.grown h1' hg (fun e => by injection e with e; omega), BlkIs.grown h2' hg (fun e => by injection e with e; omega), a1, a2⟩
theorem plain_end {w w1 w2 w4 w5 : World} {t1 : TypeId} {c1 : Array Value} {ky vl : List Nat} {A2 : Option Addr} {c2 : Nat} {old : List Value} (h01 : w.heap.size ≤ w1.heap.size) (hb : Below w4.heap.size w4 w5) (hq : Below w.heap.size w w4 ∧ BlkIs w4 w.heap.size t1 c1 ∧ BlkIs w4 w1.heap.size 93 old.toArray ∧ w.heap.size < w2.heap.size ∧ w1.heap.size < w2.heap.size)
    (h4 : BlkIs w4 w2.heap.size 93 (chS ky false (.slice none 0 0)).toArray) (hk : ky.length = 32) (hr : RB w5 A2 vl.length vl) (hle : vl.length ≤ c2) (hcm : c2 ≤ maxLen) (hnil : A2 = none → c2 = 0) (hlo : ∀ ad, A2 = some ad → w4.heap.size ≤ ad.block ∧ ad.block < w5.heap.size) :
    w5.cell? ⟨w2.heap.size, 33, none⟩ = some (.slice none 0 0) ∧ w5.frozen? ⟨w2.heap.size, 33, none⟩ = false ∧ BlkIs (w5.setCell ⟨w2.heap.size, 33, none⟩ (.slice A2 vl.length c2)) w2.heap.size 93 (chS ky false (.slice A2 vl.length c2)).toArray ∧
    BlkIs (w5.setCell ⟨w2.heap.size, 33, none⟩ (.slice A2 vl.length c2)) w1.heap.size 93 old.toArray ∧
    ∀ w6, (w5.setCell ⟨w2.heap.size, 33, none⟩ (.slice A2 vl.length c2)).grownBy w6 (some w1.heap.size) → RB w6 A2 vl.length vl ∧ vl.length ≤ c2 ∧ c2 ≤ maxLen ∧ (A2 = none → c2 = 0) ∧ (∀ ad, A2 = some ad → w.heap.size ≤ ad.block) ∧ Below w.heap.size w w6 := by
  have h5 := BlkIs.below h4 hb
  have hl4 := BlkIs.lt h4
  have hbel : Below w.heap.size w w5 := hq.1.trans (hb.mono hq.1.size)
  refine ⟨?_, BlkIs.frozen h5 33, chs_setval h5 hk _, BlkIs.far (BlkIs.below hq.2.2.1 hb) (by show _ ≠ w2.heap.size; omega) _, fun w6 hg => ⟨?_, hle, hcm, hnil, fun ad e => ?_, ?_⟩⟩
  · rw [BlkIs.cell h5, List.getElem?_toArray, chS, List.getElem?_append_right (by simp [bvs, hk])]
    simp [bvs, hk]
  · have h6 : RB (w5.setCell ⟨w2.heap.size, 33, none⟩ (.slice A2 vl.length c2)) A2 vl.length vl := hr.grownBy (grown_setCell w5 (g := w2.heap.size) 33 _) fun _ ad e he => by
      have := (hlo ad e).1
      injection he with he
      omega
    refine h6.grownBy hg fun _ ad e he => ?_
    have := (hlo ad e).1
    injection he with he
    omega
  · have := (hlo ad e).1
    have := hq.1.size
    omega
  · have h7 : Below w.heap.size w (w5.setCell ⟨w2.heap.size, 33, none⟩ (.slice A2 vl.length c2)) := hbel.setCell (p := ⟨w2.heap.size, 33, none⟩) (by show _ ≤ w2.heap.size; omega) _
    exact h7.grown hg h7.size fun k hk => by injection hk with hk; omega
/-- A change handed back: the value lies in new memory. -/
def ChRet (x : Chg) (w : World) (e : Ending) (w' : World) : Prop := ∃ A C, e = .returned (.agg (chC x A C).toArray) ∧ RB w' A x.val.length x.val ∧ x.val.length ≤ C ∧ C ≤ maxLen ∧ (A = none → C = 0) ∧ (∀ ad, A = some ad → w.heap.size ≤ ad.block) ∧ Below w.heap.size w w'
set_option maxRecDepth 100000 in
set_option maxHeartbeats 1600000 in
theorem plain_any (x : Chg) (A : Option Addr) (C : Nat) (w : World) (hk : x.key.length = 32) (hr : RB w A x.val.length x.val) (hl : x.val.length ≤ 140737488355328) :
    Calls Tryd.prog 68 #[.agg (chC x A C).toArray] w (ChRet (plainC x) w) := by
  obtain ⟨ky, dl, vl⟩ := x
  have HR := Lib.hid hr
  have HK := Lib.hid hk
  have hsz : (Tryd.prog.info? 31).map (·.size) = some (bvs ky).length := by rw [size_key]; simp [bvs, HK.out]
  clear hr hk
  go_enter Tryd.func68, Tryd.ntmps68
  cases dl
  · go_wp2_with (first
      | ((with_reducible refine stopAt (o := ⟨some 1, _, _, _, _, _⟩) ?_); refine boxNew (o := ⟨some 1, _, _, _, _, _⟩) (by rfl) 93 (.tmp 0) rfl _ rfl ?_; intro w1 HA1 HW1 HS1)
      | ((with_reducible refine stopAt (o := ⟨some 2, _, _, _, _, _⟩) ?_); refine allocNew (o := ⟨some 2, _, _, _, _, _⟩) (by rfl) 93 rfl _ _ info_chS ?_; intro w2 HA2 HW2 HS2; have HA1' := Lib.hid (BlkIs.below HA1.out HW2.out); have HW := Lib.hid (HW1.out.trans (HW2.out.mono HW1.out.size)); have b32 := ch_del (BlkIs.range HA1'.out) HK.out; rw [Nat.zero_add] at b32)
      | ((with_reducible refine stopAt (o := ⟨some 5, _, _, _, _, _⟩) ?_); refine loadRange (o := ⟨some 5, _, _, _, _, _⟩) (by rfl) 31 (.tmp 4) rfl w.heap.size 0 _ rfl (ch_key (BlkIs.range HA1'.out)) row_key hsz ?_)
      | ((with_reducible refine stopAt (o := ⟨some 8, _, _, _, _, _⟩) ?_); refine buildAt (o := ⟨some 8, _, _, _, _, _⟩) (by rfl) 93 #[(0, .tmp 5), (1, .tmp 7)] rfl [(0, .agg (bvs ky).toArray), (1, .bool false)] (by simp [go_sem]) _ (built_ch2 HK.out) ?_)
      | ((with_reducible refine stopAt (o := ⟨some 3, _, _, _, _, _⟩) ?_); refine allocNew (o := ⟨some 3, _, _, _, _, _⟩) (by rfl) 93 rfl _ _ info_chS ?_; intro w3 HA3 HW3 HS3; have HW' := Lib.hid (HW.out.trans (HW3.out.mono HW.out.size)); have HA1'' := Lib.hid (BlkIs.below HA1'.out HW3.out); have HA2' := Lib.hid (BlkIs.below HA2.out HW3.out))
      | ((with_reducible refine stopAt (o := ⟨none, .store _ (.tmp 3) _, _, _, _, _⟩) ?_); refine storeV (o := ⟨none, _, _, _, _, _⟩) (by rfl) 93 (.tmp 3) (.tmp 8) rfl w2.heap.size _ _ 93 rfl rfl HA3.out (by rw [size_chg, chS_length _ _ HK.out]) (by rw [chS_length _ _ HK.out, chS_length _ _ (zs_length 32)]) (chS_one rfl) ?_; intro w4 HA4 HG4 HS4; have HQ := Lib.hid (plain_next HW'.out HA1'.out HA2.out HA1''.out HA2'.out HG4.out); have b32' := ch_del (BlkIs.range HQ.out.2.1) HK.out; have b33' := ch_val (BlkIs.range HQ.out.2.1) HK.out; rw [Nat.zero_add] at b32' b33'; clear HG4 HA3 HW3 HS3 HA1' HA1'' HA2' HA2 HW1 HW2 HW HW' HA1 b32))
    refine (bytes_any A vl.length C vl w4 (HR.out.below HQ.out.1) hl).mono ?_
    rintro e w5 ⟨v, rfl, ho, hb⟩
    obtain ⟨A2, c2, rfl, hr2, hlo2, hnil2, hle2⟩ := ho.form
    have hcm2 := own_max ho
    have HF := Lib.hid (plain_end (by have := HS1.out; omega) hb HQ.out HA4.out HK.out hr2 hle2 hcm2 hnil2 hlo2)
    have c33 := HF.out.1
    have f33 := HF.out.2.1
    clear ho hb hr2 hlo2 hnil2 hle2 hcm2 HQ HA4 b32' b33'
    go_wp2_with (first
      | ((with_reducible refine stopAt (o := ⟨some 16, _, _, _, _, _⟩) ?_); refine loadRange (o := ⟨some 16, _, _, _, _, _⟩) (by rfl) 93 (.tmp 3) rfl w2.heap.size 0 _ rfl (BlkIs.range HF.out.2.2.1) row_chg (by rw [size_chg, chS_length _ _ HK.out]) ?_)
      | ((with_reducible refine stopAt (o := ⟨none, .store _ (.tmp 2) _, _, _, _, _⟩) ?_); refine storeV (o := ⟨none, _, _, _, _, _⟩) (by rfl) 93 (.tmp 2) (.tmp 16) rfl w1.heap.size _ _ 93 rfl rfl HF.out.2.2.2.1 (by rw [size_chg, chS_length _ _ HK.out]) (by rw [chS_length _ _ HK.out, chS_length _ _ (zs_length 32)]) (chS_one rfl) ?_; intro w6 HA6 HG6 HS6))
    refine cells_ret (g := w1.heap.size) rfl rfl HA6.out row_chg (by rw [size_chg, chS_length _ _ HK.out]) rfl ?_
    obtain ⟨h1, h2, h3, h4, h5, h6⟩ := HF.out.2.2.2.2 _ HG6.out
    exact ⟨A2, c2, rfl, h1, h2, h3, h4, h5, h6⟩
  · go_wp2_with (first
      | ((with_reducible refine stopAt (o := ⟨some 1, _, _, _, _, _⟩) ?_); refine boxNew (o := ⟨some 1, _, _, _, _, _⟩) (by rfl) 93 (.tmp 0) rfl _ rfl ?_; intro w1 HA1 HW1 HS1)
      | ((with_reducible refine stopAt (o := ⟨some 2, _, _, _, _, _⟩) ?_); refine allocNew (o := ⟨some 2, _, _, _, _, _⟩) (by rfl) 93 rfl _ _ info_chS ?_; intro w2 HA2 HW2 HS2; have HA1' := Lib.hid (BlkIs.below HA1.out HW2.out); have HW := Lib.hid (HW1.out.trans (HW2.out.mono HW1.out.size)); have b32 := ch_del (BlkIs.range HA1'.out) HK.out; rw [Nat.zero_add] at b32)
      | ((with_reducible refine stopAt (o := ⟨some 5, _, _, _, _, _⟩) ?_); refine loadRange (o := ⟨some 5, _, _, _, _, _⟩) (by rfl) 31 (.tmp 4) rfl w.heap.size 0 _ rfl (ch_key (BlkIs.range HA1'.out)) row_key hsz ?_)
      | ((with_reducible refine stopAt (o := ⟨some 8, _, _, _, _, _⟩) ?_); refine buildAt (o := ⟨some 8, _, _, _, _, _⟩) (by rfl) 93 #[(0, .tmp 5), (1, .tmp 7)] rfl [(0, .agg (bvs ky).toArray), (1, .bool true)] (by simp [go_sem]) _ (built_ch2 HK.out) ?_)
      | ((with_reducible refine stopAt (o := ⟨some 3, _, _, _, _, _⟩) ?_); refine allocNew (o := ⟨some 3, _, _, _, _, _⟩) (by rfl) 93 rfl _ _ info_chS ?_; intro w3 HA3 HW3 HS3; have HW' := Lib.hid (HW.out.trans (HW3.out.mono HW.out.size)); have HA1'' := Lib.hid (BlkIs.below HA1'.out HW3.out); have HA2' := Lib.hid (BlkIs.below HA2.out HW3.out))
      | ((with_reducible refine stopAt (o := ⟨none, .store _ (.tmp 3) _, _, _, _, _⟩) ?_); refine storeV (o := ⟨none, _, _, _, _, _⟩) (by rfl) 93 (.tmp 3) (.tmp 8) rfl w2.heap.size _ _ 93 rfl rfl HA3.out (by rw [size_chg, chS_length _ _ HK.out]) (by rw [chS_length _ _ HK.out, chS_length _ _ (zs_length 32)]) (chS_one rfl) ?_; intro w4 HA4 HG4 HS4; have HQ := Lib.hid (plain_next HW'.out HA1'.out HA2.out HA1''.out HA2'.out HG4.out); have b32' := ch_del (BlkIs.range HQ.out.2.1) HK.out; have b33' := ch_val (BlkIs.range HQ.out.2.1) HK.out; rw [Nat.zero_add] at b32' b33'; clear HG4 HA3 HW3 HS3 HA1' HA1'' HA2' HA2 HW1 HW2 HW HW' HA1 b32)
      | ((with_reducible refine stopAt (o := ⟨some 16, _, _, _, _, _⟩) ?_); refine loadRange (o := ⟨some 16, _, _, _, _, _⟩) (by rfl) 93 (.tmp 3) rfl w2.heap.size 0 _ rfl (BlkIs.range HA4.out) row_chg (by rw [size_chg, chS_length _ _ HK.out]) ?_)
      | ((with_reducible refine stopAt (o := ⟨none, .store _ (.tmp 2) _, _, _, _, _⟩) ?_); refine storeV (o := ⟨none, _, _, _, _, _⟩) (by rfl) 93 (.tmp 2) (.tmp 16) rfl w1.heap.size _ _ 93 rfl rfl HQ.out.2.2.1 (by rw [size_chg, chS_length _ _ HK.out]) (by rw [chS_length _ _ HK.out, chS_length _ _ (zs_length 32)]) (chS_one rfl) ?_; intro w5 HA5 HG5 HS5))
    refine cells_ret (g := w1.heap.size) rfl rfl HA5.out row_chg (by rw [size_chg, chS_length _ _ HK.out]) rfl ?_
    refine ⟨none, 0, rfl, RB.nil _ _, Nat.le_refl _, Nat.zero_le _, (fun _ => rfl), (fun ad e => by cases e), ?_⟩
    exact HQ.out.1.grown HG5.out HQ.out.1.size (fun k hk => by injection hk with hk; have := HS1.out; omega)
theorem ChsAt.take {w : World} {A : Option Addr} {N h : Nat} {X : Nat → Chg} (hx : ChsAt w A N X) (hh : h ≤ N) : ChsAt w A h X := ⟨by have := hx.1; omega, fun k hk => hx.2 k (by omega)⟩
theorem ChsAt.drop {w : World} {A B : Option Addr} {N h : Nat} {X : Nat → Chg} (hx : ChsAt w A N X) (hh : h ≤ N) (hB : h < N → B = A.map (·.add (h * 34))) : ChsAt w B (N - h) (fun k => X (h + k)) := ⟨by have := hx.1; omega, fun k hk => by
  obtain ⟨b, o, Av, C, e, h2, h3, h4⟩ := hx.2 (h + k) (by omega)
  refine ⟨b, o + h * 34, Av, C, by rw [hB (by omega), e]; simp [add_lit], h2, ?_, h4⟩
  rw [show o + h * 34 + k * 34 = o + (h + k) * 34 by omega]
  exact h3⟩
def SortRet (N : Nat) (X : Nat → Chg) (w : World) (e : Ending) (w' : World) : Prop := ∃ Z, ChsRet N Z w e w' ∧ Sorted (lst Z N) ∧ (lst Z N).Perm ((lst X N).map plainC)
theorem map_lst (f : Chg → Chg) (X : Nat → Chg) (n : Nat) : (lst X n).map f = lst (fun k => f (X k)) n := by simp [lst]
theorem sorted_short {Z : Nat → Chg} {n : Nat} (h : n < 2) : Sorted (lst Z n) := by
  rcases n with _ | _ | n
  · simp [lst, Sorted]
  · simp [lst, Sorted]
  · omega
theorem sort_join {X Z1 Z2 : Nat → Chg} {h N : Nat} (hh : h ≤ N) (s1 : Sorted (lst Z1 h)) (s2 : Sorted (lst Z2 (N - h))) (p1 : (lst Z1 h).Perm ((lst X h).map plainC)) (p2 : (lst Z2 (N - h)).Perm ((lst (fun k => X (h + k)) (N - h)).map plainC)) :
    Sorted (lst (fnOf ((lst Z1 h).merge (lst Z2 (N - h)) leC)) N) ∧ (lst (fnOf ((lst Z1 h).merge (lst Z2 (N - h)) leC)) N).Perm ((lst X N).map plainC) := by
  have hl : ((lst Z1 h).merge (lst Z2 (N - h)) leC).length = N := by rw [merge_length, lst_length, lst_length]; omega
  have hf := lst_fnOf ((lst Z1 h).merge (lst Z2 (N - h)) leC)
  rw [hl] at hf
  rw [hf]
  refine ⟨sorted_merge s1 s2, (List.merge_perm_append (le := leC)).trans ?_⟩
  have h3 := lst_add X h (N - h)
  rw [show h + (N - h) = N by omega] at h3
  rw [h3, List.map_append]
  exact p1.append p2
theorem sliceFromC {P : Program} {w : World} {ops : Array Oper} {rest : List Oper} {o : Oper} {a : Act} {Q : Exit → Act → World → Prop} (hgd : o.guard = none) (t : TypeId) (x ix : Operand)
    (ho : o.op = .slice t x (some ix) none none) (ht : P.underlying t = some (.slice (P.elem t))) (hsz : (P.info? (P.elem t)).map (·.size) = some 34) (A : Option Addr) (m d k : Nat) (hx : a.eval x = .slice A m d) (hi : a.eval ix = .int .i64 (k : Int))
    (hk : k ≤ m) (hmd : m ≤ d)
    (h : ∀ B, Hid ((k < m → B = A.map (·.add (k * 34))) ∧ (∀ ad, B = some ad → ∃ ad', A = some ad' ∧ ad'.block = ad.block) ∧ (A = none → B = none) ∧ (B = none → A = none)) → wpList P ops Q rest (a.put o.dst (.slice B (m - k) (d - k))) w) : wpList P ops Q (o :: rest) a w := by
  refine wpList_plain hgd fun K hK => ?_
  have hs : (sizeOf (P.elem t)).run P w = .ok 34 w := by
    cases hq : P.info? (P.elem t) with
    | none => simp [hq] at hsz
    | some i =>
      have h1 : i.size = 34 := by simpa [hq] using hsz
      simp [sizeOf, typeInfo, hq, h1]
  have hrun : (Instr.sliceAt t (.slice A m d) (some (.int .i64 (k : Int))) none none).run P w = .ok (.slice (if d = k then A else A.map (·.add (k * 34))) (m - k) (d - k)) w := by
    rw [run_sliceAt_slice w t _ _ _ _ ht, run_slice_l w t A m d ht .i64 (k : Int) (by omega) (by omega), hs]
    simp only [Result.andThen_ok, sliced, Int.toNat_natCast]
  have h2 := h (if d = k then A else A.map (·.add (k * 34))) (show _ ∧ _ ∧ _ ∧ _ from ⟨fun hlt => if_neg (by omega), fun ad e => by
      split at e
      · exact ⟨ad, e, rfl⟩
      · rcases A with _ | b
        · cases e
        · injection e with e
          exact ⟨b, rfl, by rw [← e, block_add]⟩, (fun e => by subst e; split <;> rfl), fun e => by
      split at e
      · exact e
      · rcases A with _ | b
        · rfl
        · cases e⟩)
  unfold Oper.wp execOp
  simp only [ho, hx, hi, Option.map, Sem.run_bind, Sem.run_pure, hrun, Result.andThen_ok]
  exact hK _ _ h2
theorem box_next {w w2 w3 w4 : World} {v : Value} {n : Nat} {X : Nat → Chg} {Ad : Nat → Option Addr} {Cp : Nat → Nat} {A : Option Addr} {c : Nat} {vl : List Nat} (hb : Below w.heap.size w w2) (ho : ChsOwn w2 w.heap.size v n X Ad Cp) (hv : RB w2 A vl.length vl ∧ vl.length ≤ c ∧ c ≤ maxLen ∧ (A = none → c = 0))
    (h3 : Below w2.heap.size w2 w3) (hg : w3.grownBy w4 (some w2.heap.size)) : Below w.heap.size w w4 ∧ ChsOwn w4 w.heap.size v n X Ad Cp ∧ RB w4 A vl.length vl ∧ vl.length ≤ c ∧ c ≤ maxLen ∧ (A = none → c = 0) := by
  have far : Below w2.heap.size w2 w4 := h3.grown hg h3.size fun k hk => by injection hk with hk; omega
  exact ⟨hb.trans (far.mono hb.size), ho.later far, hv.1.below far, hv.2⟩
theorem ChsOwn.mono {w : World} {base base' n : Nat} {v : Value} {X : Nat → Chg} {Ad : Nat → Option Addr} {Cp : Nat → Nat} (h : ChsOwn w base v n X Ad Cp) (hb : base' ≤ base) : ChsOwn w base' v n X Ad Cp :=
  { h with
    own := by
      obtain ⟨hl, hv⟩ := h.own
      refine ⟨hl, ?_⟩
      rcases hv with h0 | ⟨g, cap, cur, e, hg, r⟩
      · exact .inl h0
      · exact .inr ⟨g, cap, cur, e, by omega, r⟩ }
theorem elem_chl : Tryd.prog.elem 33 = 93 := by kernel_rfl
set_option maxRecDepth 100000 in
set_option maxHeartbeats 1600000 in
theorem sorted_any (N : Nat) : ∀ (A : Option Addr) (c : Nat) (X : Nat → Chg) (w : World), ChsAt w A N X → N ≤ c → N * 64 ≤ 140737488355328 → (∀ k, k < N → (X k).val.length ≤ 140737488355328) →
    Calls Tryd.prog 47 #[.slice A N c] w (SortRet N X w) := by
  induction N using Nat.strongRecOn with
  | ind N ih =>
  intro A c X w hx hc hn hv
  have HX := Lib.hid hx
  have HV := Lib.hid hv
  have HI := Lib.hid ih
  clear hx hv ih
  go_enter Tryd.func47, Tryd.ntmps47
  by_cases h2 : N < 2
  · have h2' : (N : Int) < 2 := by omega
    go_wp2_with fail
    go_loopw [3, 4] (fun v i wr => ∃ k : Nat, k ≤ N ∧ i = .int .i64 k ∧ (∃ Z Ad Cp, Hid (ChsOwn wr w.heap.size v k Z Ad Cp) ∧ Hid (lst Z k = (lst X k).map plainC)) ∧ Hid (Below w.heap.size w wr)) (fun _ i _ => N - (intOf i).toNat)
    case atStart => exact ⟨0, by omega, rfl, ⟨fun _ => default, fun _ => none, fun _ => 0, ChsOwn.nil _ _ _ _ _, rfl⟩, Below.refl _ _⟩
    case round =>
      obtain ⟨k, hk, rfl, ⟨Z, Ad, Cp, HO, HZ⟩, HB⟩ := hrel
      obtain ⟨w1, rfl⟩ : ∃ w1, w1 = wr := ⟨_, rfl⟩
      by_cases hlt : k < N
      · have hlt' : (k : Int) < N := by omega
        obtain ⟨b, o, Av, Cv, rfl, hb, hr, hkB, hkl, hvr, hq⟩ := (HX.out.below HB.out).2 k hlt
        have HR := Lib.hid hr
        have HZn : Hid (lst (upd Z k (plainC (X k))) (k + 1) = (lst X (k + 1)).map plainC) := by show _ = _; rw [lst_upd, HZ.out, lst_succ, List.map_append]; rfl
        have hvl := HV.out k hlt
        have HK : Hid (IsB (X k).key ∧ (X k).key.length = 32) := ⟨hkB, hkl⟩
        have HVR := Lib.hid hvr
        clear hr hkB hkl hvr hq hb
        generalize X k = x at *
        go_wp2_with ((with_reducible refine stopAt (o := ⟨some 21, _, _, _, _, _⟩) ?_); refine loadRange (o := ⟨some 21, _, _, _, _, _⟩) (by rfl) 93 (.tmp 20) rfl b (o + k * 34) (chC x Av Cv) rfl HR.out row_chg (by rw [size_chg, chC_length HK.out.2]) ?_)
        refine (plain_any x Av Cv w1 HK.out.2 HVR.out hvl).mono ?_
        rintro e w2 ⟨A2, c2, rfl, hr2, hle2, hcm2, hnil2, hlo2, hb2⟩
        have HB2 := Lib.hid (HB.out.trans (hb2.mono HB.out.size))
        have HO2 := Lib.hid (HO.out.later hb2)
        have HKp : Hid (IsB (plainC x).key ∧ (plainC x).key.length = 32) := by rw [plainC_key]; exact HK.out
        have HAP : Hid (0 < (plainC x).val.length → ∀ ad, A2 = some ad → some ad.block ≠ u3.ownBlock) := fun _ ad e he => by
          have q1 := hlo2 ad e
          have q2 := (HO.out.own.lt _ he.symm).2
          omega
        have HV2 := Lib.hid (show RB w2 A2 (plainC x).val.length (plainC x).val ∧ (plainC x).val.length ≤ c2 ∧ c2 ≤ maxLen ∧ (A2 = none → c2 = 0) from ⟨hr2, hle2, hcm2, hnil2⟩)
        clear hr2 hle2 hcm2 hnil2 hlo2 hb2 HR HVR HK
        generalize plainC x = y at *
        go_wp2_with (first
          | ((with_reducible refine stopAt (o := ⟨some 5, _, _, _, _, _⟩) ?_); refine allocNew (o := ⟨some 5, _, _, _, _, _⟩) (by rfl) 93 rfl _ _ info_chS ?_; intro w3 HA3 HW3 HS3)
          | ((with_reducible refine stopAt (o := ⟨none, .store _ (.tmp 5) _, _, _, _, _⟩) ?_); refine storeV (o := ⟨none, _, _, _, _, _⟩) (by rfl) 93 (.tmp 5) (.tmp 22) rfl w2.heap.size _ _ 93 rfl rfl HA3.out (by rw [size_chg, chC_length HKp.out.2]) (by rw [chC_length HKp.out.2, chS_length _ _ (zs_length 32)]) chC_one ?_; intro w4 HA4 HG4 HS4; have HN := Lib.hid (box_next HB2.out HO2.out HV2.out HW3.out HG4.out); clear HA3 HW3 HG4 HV2 HO2)
          | ((with_reducible refine stopAt (o := ⟨some 24, _, _, _, _, _⟩) ?_); refine loadRange (o := ⟨some 24, _, _, _, _, _⟩) (by rfl) 93 (.tmp 5) rfl w2.heap.size 0 _ rfl (BlkIs.range HA4.out) row_chg (by rw [size_chg, chC_length HKp.out.2]) ?_)
          | ((with_reducible refine stopAt (o := ⟨some 25, _, _, _, _, _⟩) ?_); refine buildSlice1 (o := ⟨some 25, _, _, _, _, _⟩) rfl w4 33 93 _ 34 (.tmp 24) rfl und_chl info_chg (by decide) (by decide) (chC y A2 c2).toArray rfl (by rw [List.size_toArray, chC_length HKp.out.2]) ?_)
          | ((with_reducible refine stopAt (o := ⟨some 26, _, _, _, _, _⟩) ?_); refine append1C (o := ⟨some 26, _, _, _, _, _⟩) und_chl info_chg3 rfl w4 rfl (.tmp 23) (.tmp 25) rfl w.heap.size u3 k _ HN.out.2.1.own (chC y A2 c2) (chC_length HKp.out.2) chC_one rfl rfl (by omega) (by omega) HN.out.1.size ?_; intro v3 w5 ho3 hg3 hl3; have HO3 := Lib.hid (HN.out.2.1.more HKp.out HN.out.2.2 HAP.out ho3 hg3 hl3); have HB3 : Hid (Below w.heap.size w w5) := HN.out.1.grown hg3 HN.out.1.size HN.out.2.1.ge; clear ho3 hg3 hl3))
        go_roundw
        case rel => exact ⟨k + 1, by omega, by go_num, ⟨_, _, _, HO3.out, HZn.out⟩, HB3.out⟩
        case measure => simp [intOf]; omega
      · have hnlt : ¬ (k : Int) < N := by omega
        obtain rfl : k = N := by omega
        go_wp2_with fail
        go_ret
        exact ⟨Z, ⟨_, _, _, rfl, HO.out, HB.out⟩, sorted_short h2, by rw [HZ.out]⟩
  · have h2' : ¬ (N : Int) < 2 := by omega
    go_wp2_with fail
    rw [show (N : Int) / 2 = ((N / 2 : Nat) : Int) by omega]
    obtain ⟨h, hN⟩ : ∃ h, N / 2 = h := ⟨_, rfl⟩
    rw [hN]
    have h3 : h ≤ N := by omega
    have h4 : h < N := by omega
    have h5 : N - h < N := by omega
    clear hN
    refine (HI.out h h4 A c X w (HX.out.take h3) (by omega) (by omega) (fun k hk => HV.out k (by omega))).mono ?_
    rintro e w1 ⟨Z1, ⟨v1, Ad1, Cp1, rfl, ho1, hb1⟩, hs1, hp1⟩
    obtain ⟨A1, c1, rfl, hc1, _⟩ := ho1.form
    have HC1 := Lib.hid hc1
    have HB1 := Lib.hid hb1
    have HS1 := Lib.hid hs1
    have HP1 := Lib.hid hp1
    clear hc1 hb1 hs1 hp1 ho1
    go_wp2_with ((with_reducible refine stopAt (o := ⟨some 37, _, _, _, _, _⟩) ?_); refine sliceFromC (o := ⟨some 37, _, _, _, _, _⟩) rfl 33 (.tmp 35) (.tmp 36) rfl (by rw [elem_chl]; exact und_chl) (by rw [elem_chl]; exact size_chg) A N c h rfl rfl h3 hc ?_; intro B HBB)
    refine (HI.out (N - h) h5 B (c - h) (fun k => X (h + k)) w1 ((HX.out.below HB1.out).drop h3 HBB.out.1) (by omega) (by omega) (fun k hk => HV.out _ (by omega))).mono ?_
    rintro e w2 ⟨Z2, ⟨v2, Ad2, Cp2, rfl, ho2, hb2⟩, hs2, hp2⟩
    obtain ⟨A2, c2, rfl, hc2, _⟩ := ho2.form
    have HC2 := Lib.hid hc2
    have HC1' := Lib.hid (HC1.out.below hb2)
    have HB2 := Lib.hid (HB1.out.trans (hb2.mono HB1.out.size))
    have HJ := Lib.hid (sort_join h3 HS1.out hs2 HP1.out hp2)
    clear hc2 hb2 hs2 hp2 ho2
    go_wp2_with fail
    refine (merged_any A1 A2 h (N - h) c1 c2 Z1 Z2 w2 HC1'.out HC2.out (by omega)).mono ?_
    rintro e w3 ⟨v3, Ad3, Cp3, rfl, ho3, hb3⟩
    have HO3 := Lib.hid ho3
    have HB3 := Lib.hid (HB2.out.trans (hb3.mono HB2.out.size))
    have HS := Lib.hid HB2.out.size
    clear ho3 hb3
    go_wp2_with fail
    go_ret
    refine ⟨_, ⟨_, Ad3, Cp3, rfl, ?_, HB3.out⟩, HJ.out.1, HJ.out.2⟩
    have h6 := HO3.out.mono HS.out
    rwa [show h + (N - h) = N by omega] at h6
end Go.Proofs.YtfnlhfaihoojfaaDoor
