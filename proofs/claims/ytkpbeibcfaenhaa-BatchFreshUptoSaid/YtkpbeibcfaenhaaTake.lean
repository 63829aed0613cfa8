/- batch.take. -/
import Derived.Test.YtkpbeibcfaenhaaBuild
import Derived.Laws.ResultCell
namespace Go.Proofs.Ytkpbeibcfaenhaa
open Go.RowKit
/-- The number in two bytes. -/
def numN (r : List Nat) : Nat := r.getD 0 0 + 256 * r.getD 1 0
def takeE (xs : List Nat) : Nat :=
  if xs.length < 33 then 30 else if xs.getD 0 0 = 2 then 0 else if xs.getD 0 0 = 1 then
    (if xs.length < 35 then 30 else if 128 < numN (xs.drop 33) then 32 else if xs.length < 35 + numN (xs.drop 33) then 30 else 0) else 30
def takeC (xs : List Nat) : Chg := if xs.getD 0 0 = 2 then ⟨(xs.drop 1).take 32, true, []⟩ else ⟨(xs.drop 1).take 32, false, (xs.drop 35).take (numN (xs.drop 33))⟩
def takeR (xs : List Nat) : List Nat := if xs.getD 0 0 = 2 then xs.drop 33 else (xs.drop 35).drop (numN (xs.drop 33))
/-- The cells of a change, the value as it stands. -/
def chS (key : List Nat) (d : Bool) (v : Value) : List Value := bvs key ++ [.bool d, v]
theorem chS_length {key : List Nat} (d : Bool) (v : Value) (h : key.length = 32) : (chS key d v).length = 34 := by simp [chS, bvs, h]
theorem chS_del {key : List Nat} {d : Bool} {v : Value} (d' : Bool) (h : key.length = 32) : (chS key d v).set 32 (.bool d') = chS key d' v := by
  unfold chS
  rw [List.set_append_right _ _ (by simp [bvs, h])]
  simp [bvs, h]
theorem chS_val {key : List Nat} {d : Bool} {v : Value} (v' : Value) (h : key.length = 32) : (chS key d v).set 33 v' = chS key d v' := by
  unfold chS
  rw [List.set_append_right _ _ (by simp [bvs, h])]
  simp [bvs, h]
theorem chS_key {key : List Nat} {d : Bool} {v : Value} {key' : List Nat} (h : key.length = 32) (h' : key'.length = 32) : splice (chS key d v) 0 (bvs key') = chS key' d v := by
  unfold chS splice
  rw [List.take_zero, List.nil_append, Nat.zero_add, show (bvs key').length = (bvs key).length by simp [bvs, h, h'], List.drop_left]
theorem chS_one {key : List Nat} {d : Bool} {v : Value} (hv : v.oneCell' = true) : ∀ u ∈ chS key d v, u.oneCell' = true := fun u hu => by
  simp only [chS, bvs, List.mem_append, List.mem_map, List.mem_cons, List.not_mem_nil, or_false] at hu
  rcases hu with ⟨y, _, rfl⟩ | rfl | rfl
  · rfl
  · rfl
  · exact hv
theorem chs_setdel {w : World} {g : Nat} {t : TypeId} {key : List Nat} {d : Bool} {v : Value} (h : BlkIs w g t (chS key d v).toArray) (hk : key.length = 32) (d' : Bool) : BlkIs (w.setCell ⟨g, 32, none⟩ (.bool d')) g t (chS key d' v).toArray := by
  have h1 := BlkIs.stored h 32 (.bool d')
  rwa [List.setIfInBounds_toArray, chS_del d' hk] at h1
theorem chs_setval {w : World} {g : Nat} {t : TypeId} {key : List Nat} {d : Bool} {v : Value} (h : BlkIs w g t (chS key d v).toArray) (hk : key.length = 32) (v' : Value) : BlkIs (w.setCell ⟨g, 33, none⟩ v') g t (chS key d v').toArray := by
  have h1 := BlkIs.stored h 33 v'
  rwa [List.setIfInBounds_toArray, chS_val v' hk] at h1
theorem chS_zero : (zarr 32) ++ #[(.bool false : Value), .slice none 0 0] = (chS (zs 32) false (.slice none 0 0)).toArray := by simp [chS, zarr]
theorem info_chS : (Try.prog.info? 45).map (fun i => (i.zero, i.size)) = some (some (.agg (chS (zs 32) false (.slice none 0 0)).toArray), 34) := by rw [← chS_zero]; exact info_chg
theorem results_three {fn : Func} {p u q : Tmp} {ty : TypeId} (h : fn.results = #[.cell p ty, .tmp u, .tmp q]) (tmps : Array Value) (P : Program) (w : World) :
    (results fn tmps).run P w =
      ((asAddr (tmps.getD p undef)).run P w).andThen fun a w₁ => ((loadVar ty a).run P w₁).andThen fun v w₂ => .ok (.tuple #[v, tmps.getD u undef, tmps.getD q undef]) w₂ := by
  simp only [results, h]
  simp [Sem.run_bind, Result.andThen]
theorem chg_ret {fn : Func} {p u q : Tmp} {R : Ending → World → Prop} {x : Act} {w : World} {g : Nat} {cs : List Value} {v z : Value} (h : fn.results = #[.cell p 45, .tmp u, .tmp q]) (hp : x.tmps.getD p undef = .pointer (some ⟨g, 0, none⟩))
    (hb : BlkIs w g 45 cs.toArray) (hl : cs.length = 34) (hu : x.tmps.getD u undef = v) (hq : x.tmps.getD q undef = z) (hd : x.defers = []) (hR : R (.returned (.tuple #[.agg cs.toArray, v, z])) w) : bodyPost Try.prog fn R .ret x w := by
  refine bodyPost_ret (v := .tuple #[.agg cs.toArray, v, z]) ?_ hd hR
  obtain ⟨d, hu', hdr⟩ := row_of row_chg
  have h2 := run_loadVar_mid (P := Try.prog) w g 0 45 cs d (BlkIs.range hb) hu' hdr (by rw [size_chg, hl])
  rw [results_three h, hp, hu, hq]
  simp [asAddr, Result.andThen, h2]
theorem wpOp_storeV {P : Program} {ops : Array Oper} {Q : Exit → Act → World → Prop} {K : Act → World → Prop} {o : Oper} {a : Act} {w : World} (hw : Region.wanted o (yielded ops a.tmps) = true) (ty : TypeId) (x y : Operand) (ho : o.op = .store ty x y)
    (g : Nat) (cs old : List Value) (t : TypeId) (hx : a.eval x = .pointer (some ⟨g, 0, none⟩)) (hy : a.eval y = .agg cs.toArray) (hL : BlkIs w g t old.toArray) (hi : (P.info? ty).map (·.size) = some cs.length) (hl : old.length = cs.length)
    (h1 : ∀ v ∈ cs, v.oneCell' = true) (h : ∀ w', Hid (BlkIs w' g t cs.toArray) → Hid (w.grownBy w' (some g)) → K (a.put o.dst undef) w') :
    if Region.wanted o (yielded ops a.tmps) = true then o.wp P a w K Q else K (a.put o.dst undef) w := by
  rw [if_pos hw]
  refine wp_store_row ty x y ho g _ hx hy t _ hL (by rw [hi]; simp) (by simp [hl]) (by
    rw [Array.all_eq_true_iff_forall_mem]
    intro v hv
    exact h1 v (by simpa using hv)) (h _ ?_ (grown_setRow _))
  show _ = _
  exact setRow_heap w g _ _ t (0, 0) hL
theorem yields_sliceFrom {P : Program} {ops : Array Oper} {S : World → Prop} {o : Oper} {a : Act} (hw : Region.wanted o (yielded ops a.tmps) = true) (t : TypeId) (x ix : Operand)
    (ho : o.op = .slice t x (some ix) none none) (ht : P.underlying t = some (.slice (P.elem t))) (hsz : (P.info? (P.elem t)).map (·.size) = some 1) (A : Option Addr) (m d k : Nat) (hx : a.eval x = .slice A m d) (hi : a.eval ix = .int .i64 (k : Int))
    (hk : k ≤ m) : YieldsIf P ops S o (.slice (if d = k then A else A.map (·.add k)) (m - k) (d - k)) a :=
  .inl ⟨hw, fun w _ => by
    have hs : (sizeOf (P.elem t)).run P w = .ok 1 w := by
      cases hq : P.info? (P.elem t) with
      | none => simp [hq] at hsz
      | some i =>
        have h1 : i.size = 1 := by simpa [hq] using hsz
        simp [sizeOf, typeInfo, hq, h1]
    have hrun : (Instr.sliceAt t (.slice A m d) (some (.int .i64 (k : Int))) none none).run P w = .ok (.slice (if d = k then A else A.map (·.add k)) (m - k) (d - k)) w := by
      rw [run_sliceAt_slice w t _ _ _ _ ht, run_slice_l w t A m d ht .i64 (k : Int) (by omega) (by omega), hs]
      simp only [Result.andThen_ok, sliced, Int.toNat_natCast, Nat.mul_one]
    unfold execOp
    simp only [ho, hx, hi, Option.map, Sem.run_bind, Sem.run_pure, hrun, Result.andThen_ok]⟩
theorem chS_at32 {key : List Nat} {d : Bool} {v : Value} (h : key.length = 32) : (chS key d v)[32]? = some (.bool d) := by
  unfold chS
  rw [List.getElem?_append_right (by simp [bvs, h])]
  simp [bvs, h]
theorem chS_at33 {key : List Nat} {d : Bool} {v : Value} (h : key.length = 32) : (chS key d v)[33]? = some v := by
  unfold chS
  rw [List.getElem?_append_right (by simp [bvs, h])]
  simp [bvs, h]
theorem rb_cells' {w : World} {ad : Addr} {n : Nat} {xs : List Nat} (h : RB w (some ad) n xs) : ∀ j v, (bvs xs)[j]? = some v → w.cell? (ad.add j) = some v := fun j v hj => by
  simp only [bvs, List.getElem?_map, Option.map_eq_some_iff] at hj
  obtain ⟨x, hx, rfl⟩ := hj
  have hjl := (List.getElem?_eq_some_iff.1 hx).1
  obtain ⟨ad', e, _, hc⟩ := h.2.2 (by have := h.1; omega)
  injection e with e
  subst e
  exact hc j x hx
theorem or16 (x y : Nat) (hx : x < 256) (hy : y < 256) : bits .or .i64 (x : Int) ((y : Int) * 256) = ((x + 256 * y : Nat) : Int) := by
  show IntKind.i64.wrap ((BitVec.ofInt 64 (x : Int) ||| BitVec.ofInt 64 ((y : Int) * 256)).toNat : Int) = _
  have e : ((y : Int)) * 256 = ((256 * y : Nat) : Int) := by omega
  rw [e, BitVec.toNat_or, ofInt64 _ (by omega), ofInt64 _ (by omega), Nat.or_comm]
  have h := Nat.two_pow_add_eq_or_of_lt (show x < 2 ^ 8 by omega) y
  rw [show 256 * y ||| x = 2 ^ 8 * y + x from h.symm, IntKind.wrap_i64]
  omega
theorem own_max' {e : TypeId} {w : World} {base : Nat} {v : Value} {xs : List Nat} (h : Own e w base v xs) (A : Option Addr) (n c : Nat) (hv : v = .slice A n c) : c ≤ maxLen := by
  subst hv
  rcases h.1.2 with ⟨e1, _⟩ | ⟨g, cap, cur, e1, _, _, _, hm, _⟩
  · injection e1 with _ _ e3
    rw [e3]
    exact Nat.zero_le _
  · injection e1 with _ _ e3
    rw [e3]
    exact hm
def TakePost (A : Option Addr) (xs : List Nat) (w : World) (e : Ending) (w' : World) : Prop :=
  ∃ cs B m d, e = .returned (.tuple #[.agg cs.toArray, .slice B m d, .int .i64 (takeE xs : Nat)]) ∧ Below w.heap.size w w' ∧ cs.length = 34 ∧ (∀ v ∈ cs, v.oneCell' = true) ∧
    (takeE xs = 0 → ∃ Av Cv, cs = chC (takeC xs) Av Cv ∧ RB w' Av (takeC xs).val.length (takeC xs).val ∧ (takeC xs).val.length ≤ Cv ∧ Cv ≤ maxLen ∧ (Av = none → Cv = 0) ∧ (∀ ad, Av = some ad → w.heap.size ≤ ad.block) ∧
      RB w' B m (takeR xs) ∧ m ≤ d ∧ (B = none → d = 0) ∧ ∀ ad, B = some ad → ∃ ad', A = some ad' ∧ ad'.block = ad.block)
set_option maxRecDepth 100000 in
set_option maxHeartbeats 4000000 in
theorem take_short (A : Option Addr) (n c : Nat) (xs : List Nat) (w : World) (hx : RB w A n xs) (hl : n < 33) :
    Calls Try.prog 47 #[.slice A n c] w (TakePost A xs w) := by
  have HE : Hid (takeE xs = 30) := by show _ = _; unfold takeE; rw [if_pos (by rw [hx.1]; exact hl)]
  have hl' : (n : Int) < 33 := by omega
  clear hx
  go_enter Try.func47, Try.ntmps47
  go_wp2_with (first
    | ((with_reducible refine stopAt (o := ⟨some 2, _, _, _, _, _⟩) ?_); refine allocNew (o := ⟨some 2, _, _, _, _, _⟩) (by rfl) 45 rfl _ _ info_chS ?_; intro w1 HA1 HW1 HS1)
    | ((with_reducible refine stopAt (o := ⟨some 5, _, _, _, _, _⟩) ?_); refine allocNew (o := ⟨some 5, _, _, _, _, _⟩) (by rfl) 45 rfl _ _ info_chS ?_; intro w2 HA2 HW2 HS2; have HA1' := Lib.hid (BlkIs.below HA1.out HW2.out); have HW := Lib.hid (HW1.out.trans (HW2.out.mono HW1.out.size)))
    | ((with_reducible refine stopAt (o := ⟨some 22, _, _, _, _, _⟩) ?_); refine loadRange (o := ⟨some 22, _, _, _, _, _⟩) (by rfl) 45 (.tmp 5) rfl w1.heap.size 0 _ rfl (BlkIs.range HA2.out) row_chg (by rw [size_chg]; rfl) ?_)
    | ((with_reducible refine stopAt (o := ⟨none, .store _ (.tmp 2) _, _, _, _, _⟩) ?_); refine storeV (o := ⟨none, _, _, _, _, _⟩) (by rfl) 45 (.tmp 2) (.tmp 22) rfl w.heap.size _ _ 45 rfl rfl HA1'.out (by rw [size_chg]; rfl) rfl (chS_one rfl) ?_; intro w3 HA3 HG3 HS3))
  refine chg_ret (g := w.heap.size) rfl rfl HA3.out rfl rfl rfl rfl ?_
  exact ⟨_, _, _, _, by rw [HE.out]; rfl, HW.out.grown HG3.out HW.out.size (fun k hk => by injection hk with hk; omega), rfl, chS_one rfl, fun h => by rw [HE.out] at h; cases h⟩
set_option maxRecDepth 100000 in
set_option maxHeartbeats 4000000 in
theorem take_other (A : Option Addr) (n c : Nat) (xs : List Nat) (w : World) (hx : RB w A n xs) (hl : 33 ≤ n) (h1 : ¬ xs.getD 0 0 = 1) (h2 : ¬ xs.getD 0 0 = 2) :
    Calls Try.prog 47 #[.slice A n c] w (TakePost A xs w) := by
  have HE : Hid (takeE xs = 30) := by show _ = _; unfold takeE; rw [if_neg (by rw [hx.1]; omega), if_neg h2, if_neg h1]
  obtain ⟨ad, rfl, hb, hc0⟩ := hx.at_ (k := 0) (by omega)
  rw [show ad.add 0 = ad by simp [Addr.add]] at hc0
  have HC0 : Hid (∀ W, Below w.heap.size w W → W.cell? ad = some (.int .u8 ((xs.getD 0 0 : Nat) : Int))) := fun W hW => (hW.cell hb).trans hc0
  have hl' : ¬ (n : Int) < 33 := by omega
  have hn0 : (0 : Int) < n := by omega
  have e1 : (((xs.getD 0 0 : Nat) : Int) != 1) = true := by rw [bne_iff_ne]; omega
  have e2 : (((xs.getD 0 0 : Nat) : Int) != 2) = true := by rw [bne_iff_ne]; omega
  clear hx hc0 hb
  generalize xs.getD 0 0 = x0 at *
  go_enter Try.func47, Try.ntmps47
  go_wp2_with (first
    | ((with_reducible refine stopAt (o := ⟨some 2, _, _, _, _, _⟩) ?_); refine allocNew (o := ⟨some 2, _, _, _, _, _⟩) (by rfl) 45 rfl _ _ info_chS ?_; intro w1 HA1 HW1 HS1)
    | ((with_reducible refine stopAt (o := ⟨some 5, _, _, _, _, _⟩) ?_); refine allocNew (o := ⟨some 5, _, _, _, _, _⟩) (by rfl) 45 rfl _ _ info_chS ?_; intro w2 HA2 HW2 HS2; have HA1' := Lib.hid (BlkIs.below HA1.out HW2.out); have HW := Lib.hid (HW1.out.trans (HW2.out.mono HW1.out.size)); have c0 := HC0.out w2 HW.out)
    | ((with_reducible refine stopAt (o := ⟨some 22, _, _, _, _, _⟩) ?_); refine loadRange (o := ⟨some 22, _, _, _, _, _⟩) (by rfl) 45 (.tmp 5) rfl w1.heap.size 0 _ rfl (BlkIs.range HA2.out) row_chg (by rw [size_chg]; rfl) ?_)
    | ((with_reducible refine stopAt (o := ⟨none, .store _ (.tmp 2) _, _, _, _, _⟩) ?_); refine storeV (o := ⟨none, _, _, _, _, _⟩) (by rfl) 45 (.tmp 2) (.tmp 22) rfl w.heap.size _ _ 45 rfl rfl HA1'.out (by rw [size_chg]; rfl) rfl (chS_one rfl) ?_; intro w3 HA3 HG3 HS3))
  refine chg_ret (g := w.heap.size) rfl rfl HA3.out rfl rfl rfl rfl ?_
  exact ⟨_, _, _, _, by rw [HE.out]; rfl, HW.out.grown HG3.out HW.out.size (fun k hk => by injection hk with hk; omega), rfl, chS_one rfl, fun h => by rw [HE.out] at h; cases h⟩
set_option maxRecDepth 100000 in
set_option maxHeartbeats 4000000 in
theorem take_known (A : Option Addr) (n c : Nat) (xs : List Nat) (w : World) (hx : RB w A n xs) (hnc : n ≤ c) (hl : 33 ≤ n) (h12 : xs.getD 0 0 = 1 ∨ xs.getD 0 0 = 2) :
    Calls Try.prog 47 #[.slice A n c] w (TakePost A xs w) := by
  have HX := Lib.hid hx
  have HLX := Lib.hid hx.1
  obtain ⟨ad, rfl, hb, hc0⟩ := hx.at_ (k := 0) (by omega)
  rw [show ad.add 0 = ad by simp [Addr.add]] at hc0
  have HC0 : Hid (∀ W, Below w.heap.size w W → W.cell? ad = some (.int .u8 ((xs.getD 0 0 : Nat) : Int))) := fun W hW => (hW.cell hb).trans hc0
  have hl' : ¬ (n : Int) < 33 := by omega
  have hn0 : (0 : Int) < n := by omega
  clear hx hc0
  obtain ⟨dl, hdl⟩ : ∃ dl : Bool, dl = decide (xs.getD 0 0 = 2) := ⟨_, rfl⟩
  have HDL := Lib.hid hdl
  have H12 := Lib.hid h12
  have e2 : (((xs.getD 0 0 : Nat) : Int) == 2) = dl := by rw [hdl]; exact decide_eq_decide.2 (by omega)
  have e1 : (((xs.getD 0 0 : Nat) : Int) != 1) = dl := by
    rw [hdl]
    rcases h12 with h | h <;> rw [h] <;> rfl
  have e3 : (((xs.getD 0 0 : Nat) : Int) != 2) = !dl := by
    rw [hdl]
    rcases h12 with h | h <;> rw [h] <;> rfl
  clear hdl h12
  go_enter Try.func47, Try.ntmps47
  generalize hx0 : xs.getD 0 0 = x0 at *
  cases dl
  · go_wp2_with (first
      | ((with_reducible refine stopAt (o := ⟨some 2, _, _, _, _, _⟩) ?_); refine allocNew (o := ⟨some 2, _, _, _, _, _⟩) (by rfl) 45 rfl _ _ info_chS ?_; intro w1 HA1 HW1 HS1)
      | ((with_reducible refine stopAt (o := ⟨some 5, _, _, _, _, _⟩) ?_); refine allocNew (o := ⟨some 5, _, _, _, _, _⟩) (by rfl) 45 rfl _ _ info_chS ?_; intro w2 HA2 HW2 HS2; have HA1' := Lib.hid (BlkIs.below HA1.out HW2.out); have HW := Lib.hid (HW1.out.trans (HW2.out.mono HW1.out.size)); have c0 := HC0.out w2 HW.out; have b32 : w2.cell? ⟨w1.heap.size, 32, none⟩ = some (.bool false) := BlkIs.cell HA2.out 32; have f32 := BlkIs.frozen HA2.out 32))
    rename_i KK hKK
    have HKK := Lib.hid hKK
    clear hKK c0 b32 f32
    have hg12 : w.heap.size < w1.heap.size := by have := BlkIs.lt HA1.out; exact this
    have hn1 : (1 : Int) ≤ n := by omega
    have hc1 : ¬ c = 1 := by omega
    have hnc' : (n : Int) ≤ (c : Int) := by omega
    refine wp_region_held_drew (S := fun _ => True) (by kernel_rfl) trivial fun _ => ?_
    refine wpAnyH_take (i := 0) (oi := ⟨some 29, _, _, _, _, _⟩) rfl (by kernel_rfl) (by kernel_rfl) (by kernel_rfl) (fun _ _ _ h => h) (Or.inl ⟨by rfl, fun w hw => by (try dsimp only at hw); go_simp; with_reducible rfl⟩) (by assumption) ?_
    try simp only [Act.put, List.setIfInBounds_toArray, List.set_cons_zero, List.set_cons_succ]
    refine wpAnyH_take (i := 1) (oi := ⟨some 30, _, _, _, _, _⟩) rfl (by kernel_rfl) (by kernel_rfl) (by kernel_rfl) (fun _ _ _ h => h) (Or.inl ⟨by rfl, fun w hw => by (try dsimp only at hw); go_simp; with_reducible rfl⟩) (by assumption) ?_
    try simp only [Act.put, List.setIfInBounds_toArray, List.set_cons_zero, List.set_cons_succ]
    refine wpAnyH_take (i := 2) (oi := ⟨some 31, _, _, _, _, _⟩) rfl (by kernel_rfl) (by kernel_rfl) (by kernel_rfl) (fun _ _ _ h => h) (Or.inl ⟨by rfl, fun w hw => by (try dsimp only at hw); go_simp; with_reducible rfl⟩) (by assumption) ?_
    try simp only [Act.put, List.setIfInBounds_toArray, List.set_cons_zero, List.set_cons_succ]
    refine wpAnyH_take (i := 3) (oi := ⟨some 32, _, _, _, _, _⟩) rfl (by kernel_rfl) (by kernel_rfl) (by kernel_rfl) (fun _ _ _ h => h) (Or.inl ⟨by rfl, fun w hw => by (try dsimp only at hw); go_simp; with_reducible rfl⟩) (by assumption) ?_
    try simp only [Act.put, List.setIfInBounds_toArray, List.set_cons_zero, List.set_cons_succ]
    have HA3 : Hid (BlkIs (w2.setCell ⟨w1.heap.size, 32, none⟩ (.bool false)) w1.heap.size 45 (chS (zs 32) false (.slice none 0 0)).toArray) := chs_setdel HA2.out (zs_length 32) _
    have HA13 : Hid (BlkIs (w2.setCell ⟨w1.heap.size, 32, none⟩ (.bool false)) w.heap.size 45 (chS (zs 32) false (.slice none 0 0)).toArray) := BlkIs.far HA1'.out (by show w.heap.size ≠ w1.heap.size; omega) _
    have HW3 : Hid (Below w.heap.size w (w2.setCell ⟨w1.heap.size, 32, none⟩ (.bool false))) := HW.out.setCell (show w.heap.size ≤ w1.heap.size by omega) _
    generalize w2.setCell ⟨w1.heap.size, 32, none⟩ (.bool false) = w3 at *
    have HS3 : Hid (RB w3 (some ⟨ad.block, ad.off + 1, none⟩) 32 ((xs.drop 1).take 32)) := by
      have h1 := (HX.out.below HW3.out).drop (k := 1) (B := some ⟨ad.block, ad.off + 1, none⟩) (by omega) (fun _ => rfl)
      exact h1.take (by omega)
    obtain ⟨key, hkey⟩ : ∃ key, (xs.drop 1).take 32 = key := ⟨_, rfl⟩
    have HKY := Lib.hid hkey
    rw [hkey] at HS3
    clear hkey
    have HKl : Hid (key.length = 32 ∧ IsB key) := ⟨HS3.out.1, HS3.out.2.1⟩
    refine wpAnyH_ready (rs := [4]) (by kernel_rfl) (by simp) ?_
    refine AllReadyH.cons (o := ⟨some 33, _, _, _, _, _⟩) rfl (fun K hK => ?_) (AllReadyH.nil)
    refine step_copy_splice (o := ⟨some 33, _, _, _, _, _⟩) rfl (.tmp 30) (.tmp 32) 31 31 rfl 5 und_bytes byte_size (some ⟨w1.heap.size, 0, none⟩) (some ⟨ad.block, ad.off + 1, none⟩) 32 32 (n - 1) (c - 1) rfl rfl w1.heap.size 0 _ 45 HA3.out (bvs key) (by
      rw [show (bvs key).length = 32 by unfold bvs; rw [List.length_map, HKl.out.1]]
      exact (Nat.min_eq_right (by omega)).symm) (fun _ => ⟨rfl, _, rfl, rb_cells' HS3.out⟩) (by rw [show (bvs key).length = 32 by unfold bvs; rw [List.length_map, HKl.out.1], chS_length _ _ (zs_length 32)]; omega) (bvs_oneCell _) w1.heap.size w3 (drewN_below (Below.refl _ _) 1) (Nat.le_refl _) ?_
    intro w4 hg4 hb4
    have HA4 : Hid (BlkIs w4 w1.heap.size 45 (chS key false (.slice none 0 0)).toArray) := by
      have h1 := hg4.out
      rwa [chS_key (zs_length 32) HKl.out.1] at h1
    have HA14 : Hid (BlkIs w4 w.heap.size 45 (chS (zs 32) false (.slice none 0 0)).toArray) := BlkIs.belowB HA13.out hb4 (by omega)
    have HW4 : Hid (Below w.heap.size w w4) := HW3.out.trans (hb4.mono (by omega))
    refine hK.out _ _ trivial (fun _ => ?_)
    clear hK hg4 hb4 HA3 HA13 HW3 HS3 HA1' HA1 HW1 HS1 HA2 HW2 HS2 HW
    refine wpAnyH_done (by kernel_rfl) ?_ _
    change KK _ _
    refine HKK.out _ _ ?_
    have b4 : w4.cell? ⟨w1.heap.size, 32, none⟩ = some (.bool false) := (BlkIs.cell HA4.out 32).trans (by rw [List.getElem?_toArray, chS_at32 HKl.out.1])
    (try simp only [Act.put, List.setIfInBounds_toArray, List.set_cons_zero, List.set_cons_succ])
    have hx1 : xs.getD 0 0 = 1 := by
      have h := HDL.out
      have h' := H12.out
      rw [hx0]
      have h2 : ¬ x0 = 2 := by simpa using h.symm
      omega
    have hx2 : ¬ xs.getD 0 0 = 2 := by omega
    have HEV : Hid (takeE xs = if n < 35 then 30 else if 128 < numN (xs.drop 33) then 32 else if n < 35 + numN (xs.drop 33) then 30 else 0) := by
      show _ = _
      unfold takeE
      rw [if_neg (by rw [HLX.out]; omega), if_neg hx2, if_pos hx1, HLX.out]
    have HC : Hid (takeC xs = ⟨key, false, (xs.drop 35).take (numN (xs.drop 33))⟩) := by show _ = _; unfold takeC; rw [if_neg hx2, HKY.out]
    have HRR : Hid (takeR xs = (xs.drop 35).drop (numN (xs.drop 33))) := by show _ = _; unfold takeR; rw [if_neg hx2]
    clear hx1 hx2
    by_cases h35 : n < 35
    · have HE : Hid (takeE xs = 30) := by show _ = _; rw [HEV.out, if_pos h35]
      have h35' : ((n - 33 : Nat) : Int) < 2 := by omega
      go_wp2_with (first
        | ((with_reducible refine stopAt (o := ⟨some 35, _, _, _, _, _⟩) ?_); refine sliceFrom (o := ⟨some 35, _, _, _, _, _⟩) (by rfl) 31 (.tmp 34) (.const (.int .i64 33)) rfl (by kernel_rfl) (by kernel_rfl) (some ad) n c 33 rfl rfl (by omega) hnc ?_; intro B1 HF1)
        | ((with_reducible refine stopAt (o := ⟨some 43, _, _, _, _, _⟩) ?_); refine loadRange (o := ⟨some 43, _, _, _, _, _⟩) (by rfl) 45 (.tmp 5) rfl w1.heap.size 0 _ rfl (BlkIs.range HA4.out) row_chg (by rw [size_chg, chS_length _ _ HKl.out.1]) ?_)
        | ((with_reducible refine stopAt (o := ⟨none, .store _ (.tmp 2) _, _, _, _, _⟩) ?_); refine storeV (o := ⟨none, _, _, _, _, _⟩) (by rfl) 45 (.tmp 2) (.tmp 43) rfl w.heap.size _ _ 45 rfl rfl HA14.out (by rw [size_chg, chS_length _ _ HKl.out.1]) (by rw [chS_length _ _ (zs_length 32), chS_length _ _ HKl.out.1]) (chS_one rfl) ?_; intro w9 HA9 HG9 HS9))
      refine chg_ret (g := w.heap.size) rfl rfl HA9.out (chS_length _ _ HKl.out.1) rfl rfl rfl ?_
      exact ⟨_, _, _, _, by rw [HE.out]; rfl, HW4.out.grown HG9.out HW4.out.size (fun k hk => by injection hk with hk; omega), chS_length _ _ HKl.out.1, chS_one rfl, fun h => by rw [HE.out] at h; cases h⟩
    · have h35' : ¬ ((n - 33 : Nat) : Int) < 2 := by omega
      have HX4 := Lib.hid ((HX.out.below HW4.out).drop (k := 33) (B := some ⟨ad.block, ad.off + 33, none⟩) (by omega) (fun _ => rfl))
      obtain ⟨ad0, e0, _, hc0⟩ := HX4.out.at_ (k := 0) (by omega)
      obtain ⟨ad1, e1', _, hc1⟩ := HX4.out.at_ (k := 1) (by omega)
      injection e0 with e0
      injection e1' with e1'
      subst e0 e1'
      rw [add_lit] at hc0 hc1
      rw [Nat.add_zero] at hc0
      have hc1b : w4.cell? ⟨ad.block, ad.off + 34, none⟩ = some (.int .u8 (((xs.drop 33).getD 1 0 : Nat) : Int)) := hc1
      have hy0 := HX4.out.lt (k := 0) (by omega)
      have hy1 := HX4.out.lt (k := 1) (by omega)
      have HNM : Hid (numN (xs.drop 33) = (xs.drop 33).getD 0 0 + 256 * (xs.drop 33).getD 1 0) := rfl
      have hor := or16 ((xs.drop 33).getD 0 0) ((xs.drop 33).getD 1 0) hy0 hy1
      generalize (xs.drop 33).getD 0 0 = y0 at *
      generalize (xs.drop 33).getD 1 0 = y1 at *
      have hn2 : (1 : Int) < ((n - 33 : Nat) : Int) := by omega
      have hn3 : (0 : Int) < ((n - 33 : Nat) : Int) := by omega
      have hn4 : 1 < n - 33 := by omega
      have hn5 : 0 < n - 33 := by omega
      go_wp2_with (first
        | ((with_reducible refine stopAt (o := ⟨some 35, _, _, _, _, _⟩) ?_); refine sliceFrom (o := ⟨some 35, _, _, _, _, _⟩) (by rfl) 31 (.tmp 34) (.const (.int .i64 33)) rfl (by kernel_rfl) (by kernel_rfl) (some ad) n c 33 rfl rfl (by omega) hnc ?_; intro B1 HF1; have hB1 : B1 = some ⟨ad.block, ad.off + 33, none⟩ := HF1.out.1 (by omega); subst hB1; clear HF1))
      go_quiet (fail)
      have HA5 : Hid (BlkIs (w4.drewN nq) w1.heap.size 45 (chS key false (.slice none 0 0)).toArray) := HA4.out
      have HA15 : Hid (BlkIs (w4.drewN nq) w.heap.size 45 (chS (zs 32) false (.slice none 0 0)).toArray) := HA14.out
      have HW5 : Hid (Below w.heap.size w (w4.drewN nq)) := drewN_below HW4.out nq
      generalize w4.drewN nq = w5 at *
      rw [HNM.out] at HEV HC HRR
      generalize hnum : y0 + 256 * y1 = num at *
      clear hc0 hc1 hc1b hor HA4 HA14 HW4 b4 hn2 hn3 hn4 hn5
      by_cases hbig : 128 < num
      · have HE : Hid (takeE xs = 32) := by show _ = _; rw [HEV.out, if_neg h35, if_pos hbig]
        have hbig' : (128 : Int) < (num : Int) := by omega
        go_wp2_with (first
          | ((with_reducible refine stopAt (o := ⟨some 57, _, _, _, _, _⟩) ?_); refine loadRange (o := ⟨some 57, _, _, _, _, _⟩) (by rfl) 45 (.tmp 5) rfl w1.heap.size 0 _ rfl (BlkIs.range HA5.out) row_chg (by rw [size_chg, chS_length _ _ HKl.out.1]) ?_)
          | ((with_reducible refine stopAt (o := ⟨none, .store _ (.tmp 2) _, _, _, _, _⟩) ?_); refine storeV (o := ⟨none, _, _, _, _, _⟩) (by rfl) 45 (.tmp 2) (.tmp 57) rfl w.heap.size _ _ 45 rfl rfl HA15.out (by rw [size_chg, chS_length _ _ HKl.out.1]) (by rw [chS_length _ _ (zs_length 32), chS_length _ _ HKl.out.1]) (chS_one rfl) ?_; intro w9 HA9 HG9 HS9))
        refine chg_ret (g := w.heap.size) rfl rfl HA9.out (chS_length _ _ HKl.out.1) rfl rfl rfl ?_
        exact ⟨_, _, _, _, by rw [HE.out]; rfl, HW5.out.grown HG9.out HW5.out.size (fun k hk => by injection hk with hk; omega), chS_length _ _ HKl.out.1, chS_one rfl, fun h => by rw [HE.out] at h; cases h⟩
      · have hbig' : ¬ (128 : Int) < (num : Int) := by omega
        by_cases hsh : n < 35 + num
        · have HE : Hid (takeE xs = 30) := by show _ = _; rw [HEV.out, if_neg h35, if_neg hbig, if_pos hsh]
          have hsh' : ((n - 33 - 2 : Nat) : Int) < (num : Int) := by omega
          go_wp2_with (first
            | ((with_reducible refine stopAt (o := ⟨some 60, _, _, _, _, _⟩) ?_); refine sliceFrom (o := ⟨some 60, _, _, _, _, _⟩) (by rfl) 31 (.tmp 59) (.const (.int .i64 2)) rfl (by kernel_rfl) (by kernel_rfl) (some ⟨ad.block, ad.off + 33, none⟩) (n - 33) (c - 33) 2 rfl rfl (by omega) (by omega) ?_; intro B2 HF2)
            | ((with_reducible refine stopAt (o := ⟨some 65, _, _, _, _, _⟩) ?_); refine loadRange (o := ⟨some 65, _, _, _, _, _⟩) (by rfl) 45 (.tmp 5) rfl w1.heap.size 0 _ rfl (BlkIs.range HA5.out) row_chg (by rw [size_chg, chS_length _ _ HKl.out.1]) ?_)
            | ((with_reducible refine stopAt (o := ⟨none, .store _ (.tmp 2) _, _, _, _, _⟩) ?_); refine storeV (o := ⟨none, _, _, _, _, _⟩) (by rfl) 45 (.tmp 2) (.tmp 65) rfl w.heap.size _ _ 45 rfl rfl HA15.out (by rw [size_chg, chS_length _ _ HKl.out.1]) (by rw [chS_length _ _ (zs_length 32), chS_length _ _ HKl.out.1]) (chS_one rfl) ?_; intro w9 HA9 HG9 HS9))
          refine chg_ret (g := w.heap.size) rfl rfl HA9.out (chS_length _ _ HKl.out.1) rfl rfl rfl ?_
          exact ⟨_, _, _, _, by rw [HE.out]; rfl, HW5.out.grown HG9.out HW5.out.size (fun k hk => by injection hk with hk; omega), chS_length _ _ HKl.out.1, chS_one rfl, fun h => by rw [HE.out] at h; cases h⟩
        · have HE : Hid (takeE xs = 0) := by show _ = _; rw [HEV.out, if_neg h35, if_neg hbig, if_neg hsh]
          have hsh' : ¬ ((n - 33 - 2 : Nat) : Int) < (num : Int) := by omega
          have hni : (y0 : Int) + 256 * (y1 : Int) = (num : Int) := by omega
          rw [hni]
          have hcap : (num : Int) ≤ ((c - 33 - 2 : Nat) : Int) := by omega
          have hcap2 : num ≤ c - 33 - 2 := by omega
          have hcap3 : num ≤ n - 33 - 2 := by omega
          obtain ⟨val, hval⟩ : ∃ val, (xs.drop 35).take num = val := ⟨_, rfl⟩
          have HVA := Lib.hid hval
          have hvl : val.length = num := by rw [← hval, List.length_take, List.length_drop, HLX.out]; omega
          have HVL := Lib.hid hvl
          clear hval hvl
          go_wp2_with (first
            | ((with_reducible refine stopAt (o := ⟨some 60, _, _, _, _, _⟩) ?_); refine sliceFrom (o := ⟨some 60, _, _, _, _, _⟩) (by rfl) 31 (.tmp 59) (.const (.int .i64 2)) rfl (by kernel_rfl) (by kernel_rfl) (some ⟨ad.block, ad.off + 33, none⟩) (n - 33) (c - 33) 2 rfl rfl (by omega) (by omega) ?_; intro B2 HF2; obtain ⟨ad2, hB2⟩ : ∃ ad2, B2 = some ad2 := (by cases hq : B2 with | none => exact absurd (HF2.out.2.2.2 hq) (by simp) | some a => exact ⟨a, rfl⟩); subst hB2; have HX6 : Hid (∀ W, Below w.heap.size w W → RB W (some ad2) (n - 33 - 2) (xs.drop 35)) := (fun W hW => by have h := ((HX.out.below hW).drop (k := 33) (B := some ⟨ad.block, ad.off + 33, none⟩) (by omega) (fun _ => rfl)).drop (k := 2) (by omega) HF2.out.1; rwa [List.drop_drop] at h); have HBL : Hid (ad2.block = ad.block) := (by obtain ⟨ad', e1, e2⟩ := HF2.out.2.1 ad2 rfl; injection e1 with e1; show _ = _; rw [← e2, ← e1]); clear HF2)
            | ((with_reducible refine stopAt (o := ⟨some 70, _, _, _, _, _⟩) ?_); refine appendRB und_bytes info_byte w5 rfl (.const (.slice none 0 0)) (.tmp 69) rfl w5.heap.size (.slice none 0 0) [] (Own.nil _ _ _) (some ad2) num (c - 33 - 2) val (by have h := (HX6.out w5 HW5.out).take (k := num) (by omega); rwa [HVA.out] at h) (fun e => by cases e) rfl rfl (by simp only [List.length_nil]; omega) (Nat.le_refl _) ?_; intro v6 w6 ho hg; rw [List.nil_append] at ho; have hdm := own_max' ho; obtain ⟨A6, d6, hv6, hr6, hlo6, hnil6, hle6⟩ := ho.form; have hd6 := hdm _ _ _ hv6; subst hv6; have HO6 := Lib.hid (show RB w6 A6 val.length val ∧ (∀ ad, A6 = some ad → w5.heap.size ≤ ad.block) ∧ (A6 = none → d6 = 0) ∧ val.length ≤ d6 ∧ d6 ≤ maxLen from ⟨hr6, (fun ad e => (hlo6 ad e).1), hnil6, hle6, hd6⟩); have HA6 : Hid (BlkIs w6 w1.heap.size 45 (chS key false (.slice none 0 0)).toArray) := BlkIs.grown HA5.out hg (fun e => by cases e); have HA16 : Hid (BlkIs w6 w.heap.size 45 (chS (zs 32) false (.slice none 0 0)).toArray) := BlkIs.grown HA15.out hg (fun e => by cases e); have HW6 : Hid (Below w.heap.size w w6) := HW5.out.grown hg HW5.out.size (fun k hk => by cases hk); have b33 : w6.cell? ⟨w1.heap.size, 33, none⟩ = some (.slice none 0 0) := (BlkIs.cell HA6.out 33).trans (by rw [List.getElem?_toArray, chS_at33 HKl.out.1]); have f33 := BlkIs.frozen HA6.out 33; clear ho hg hr6 hlo6 hnil6 hle6 hd6 hdm))
          rename_i KK hKK
          have HKK := Lib.hid hKK
          clear hKK b33 f33
          have hg5 : w1.heap.size < w5.heap.size := BlkIs.lt HA5.out
          have HA7 : Hid (BlkIs (w6.setCell ⟨w1.heap.size, 33, none⟩ (.slice A6 val.length d6)) w1.heap.size 45 (chS key false (.slice A6 val.length d6)).toArray) := chs_setval HA6.out HKl.out.1 _
          have HA17 : Hid (BlkIs (w6.setCell ⟨w1.heap.size, 33, none⟩ (.slice A6 val.length d6)) w.heap.size 45 (chS (zs 32) false (.slice none 0 0)).toArray) := BlkIs.far HA16.out (by show w.heap.size ≠ w1.heap.size; omega) _
          have HW7 : Hid (Below w.heap.size w (w6.setCell ⟨w1.heap.size, 33, none⟩ (.slice A6 val.length d6))) := HW6.out.setCell (show w.heap.size ≤ w1.heap.size by omega) _
          have HO7 : Hid (RB (w6.setCell ⟨w1.heap.size, 33, none⟩ (.slice A6 val.length d6)) A6 val.length val) := HO6.out.1.grownBy (grown_setCell w6 (g := w1.heap.size) 33 _) (fun _ ad e he => by
            have h1 := HO6.out.2.1 ad e
            injection he with he
            omega)
          generalize (w6.setCell ⟨w1.heap.size, 33, none⟩ (.slice A6 val.length d6)) = w7 at *
          have hu7 := Try.underlying45
          have hsz7 : (Try.prog.info? 45).map (·.size) = some (chS key false (.slice A6 val.length d6)).length := by rw [size_chg, chS_length _ _ HKl.out.1]
          refine wp_region_held_drew (S := fun w' => w'.rangeAt w1.heap.size 0 (chS key false (.slice A6 val.length d6))) (by kernel_rfl) (BlkIs.range HA7.out) fun hH => ?_
          refine wpAnyH_take (i := 0) (oi := ⟨some 72, _, _, _, _, _⟩) rfl (by kernel_rfl) (by kernel_rfl) (by kernel_rfl) (fun _ _ _ h => h) (yieldsIf_load_mid (by rfl) _ _ rfl _ _ rfl _ _ (fun w hw => by (try dsimp only at hw); go_split_ands; assumption) (by assumption) rfl (by assumption)) (by assumption) ?_
          try simp only [Act.put, List.setIfInBounds_toArray, List.set_cons_zero, List.set_cons_succ]
          refine wpAnyH_take (i := 1) (oi := ⟨some 73, _, _, _, _, _⟩) rfl (by kernel_rfl) (by kernel_rfl) (by kernel_rfl) (fun _ _ _ h => h) (Or.inl ⟨by rfl, fun w hw => by (try dsimp only at hw); go_simp; with_reducible rfl⟩) (by assumption) ?_
          try simp only [Act.put, List.setIfInBounds_toArray, List.set_cons_zero, List.set_cons_succ]
          refine wpAnyH_take (i := 2) (oi := ⟨some 74, _, _, _, _, _⟩) rfl (by kernel_rfl) (by kernel_rfl) (by kernel_rfl) (fun _ _ _ h => h) (Or.inl ⟨by rfl, fun w hw => by (try dsimp only at hw); go_simp; with_reducible rfl⟩) (by assumption) ?_
          try simp only [Act.put, List.setIfInBounds_toArray, List.set_cons_zero, List.set_cons_succ]
          refine wpAnyH_take (i := 3) (oi := ⟨some 75, _, _, _, _, _⟩) rfl (by kernel_rfl) (by kernel_rfl) (by kernel_rfl) (fun _ _ _ h => h) (yields_sliceFrom (by rfl) 31 (.tmp 73) (.tmp 74) rfl (by kernel_rfl) (by kernel_rfl) (some ad2) (n - 33 - 2) (c - 33 - 2) num rfl rfl hcap3) (by assumption) ?_
          (try simp only [Act.put, List.setIfInBounds_toArray, List.set_cons_zero, List.set_cons_succ])
          generalize hB3 : (if c - 33 - 2 = num then some ad2 else Option.map (fun x => x.add num) (some ad2)) = B3
          have HB3 : Hid ((num < n - 33 - 2 → B3 = (some ad2).map (·.add num)) ∧ (¬ B3 = none) ∧ ∀ ad', B3 = some ad' → ad'.block = ad.block) := ⟨fun hlt => by rw [← hB3]; exact if_neg (by omega), (by rw [← hB3]; intro e; split at e <;> cases e), fun ad' e => by
            rw [← hB3] at e
            split at e
            · injection e with e; rw [← e, HBL.out]
            · injection e with e; rw [← e, block_add, HBL.out]⟩
          clear hB3
          refine wpAnyH_ready (rs := [4]) (by kernel_rfl) (by simp) ?_
          refine AllReadyH.cons (o := ⟨none, .store _ (.tmp 2) _, _, _, _, _⟩) rfl (fun K hK => ?_) (AllReadyH.nil)
          refine wpOp_storeV (o := ⟨none, .store _ (.tmp 2) _, _, _, _, _⟩) ?hw 45 (.tmp 2) (.tmp 72) rfl w.heap.size (chS key false (.slice A6 val.length d6)) _ 45 ?hx ?hy (BlkIs.drew HA17.out) hsz7 (by rw [chS_length _ _ (zs_length 32), chS_length _ _ HKl.out.1]) (chS_one rfl) ?hh
          case hw => kernel_rfl
          case hx => rfl
          case hy => rfl
          intro w8 HA8 HG8
          have HR8 := Lib.hid (BlkIs.range (BlkIs.grown (BlkIs.drew HA7.out) HG8.out (by intro e; injection e with e; omega)))
          refine hK.out _ _ HR8.out (fun hH2 => ?_)
          clear hK hH
          refine wpAnyH_take (i := 5) (oi := ⟨some 3, _, _, _, _, _⟩) rfl (by kernel_rfl) (by kernel_rfl) (by kernel_rfl) (fun _ _ _ h => h) (Or.inl ⟨by rfl, fun w hw => by (try dsimp only at hw); go_simp; with_reducible rfl⟩) (by assumption) ?_
          try simp only [Act.put, List.setIfInBounds_toArray, List.set_cons_zero, List.set_cons_succ]
          refine wpAnyH_take (i := 6) (oi := ⟨some 4, _, _, _, _, _⟩) rfl (by kernel_rfl) (by kernel_rfl) (by kernel_rfl) (fun _ _ _ h => h) (Or.inl ⟨by rfl, fun w hw => by (try dsimp only at hw); go_simp; with_reducible rfl⟩) (by assumption) ?_
          try simp only [Act.put, List.setIfInBounds_toArray, List.set_cons_zero, List.set_cons_succ]
          refine wpAnyH_done (by kernel_rfl) ?_ _
          change KK _ _
          refine HKK.out _ _ ?_
          clear hH2 hu7 hsz7
          go_wp2_with fail
          refine chg_ret (g := w.heap.size) rfl rfl HA8.out (chS_length _ _ HKl.out.1) rfl rfl rfl ?_
          have HW8 : Below w.heap.size w w8 := (drewN_below HW7.out 1).grown HG8.out HW7.out.size (fun k hk => by injection hk with hk; omega)
          have hO8 : RB w8 A6 val.length val := (HO7.out.below (drewN_below (Below.refl _ _) 1)).grownBy HG8.out (fun _ ad e he => by
            have h1 := HO6.out.2.1 ad e
            injection he with he
            omega)
          refine ⟨_, _, _, _, by rw [HE.out]; rfl, HW8, chS_length _ _ HKl.out.1, chS_one rfl, fun _ => ⟨A6, d6, ?_⟩⟩
          rw [HC.out, HRR.out, HVA.out]
          exact ⟨rfl, hO8, HO6.out.2.2.2.1, HO6.out.2.2.2.2, HO6.out.2.2.1, (fun ad e => by have := HO6.out.2.1 ad e; have := HW5.out.size; omega),
            (HX6.out w8 HW8).drop hcap3 HB3.out.1, by omega, (fun e => absurd e HB3.out.2.1), fun ad' e => ⟨ad, rfl, (HB3.out.2.2 ad' e).symm⟩⟩
  · go_wp2_with (first
      | ((with_reducible refine stopAt (o := ⟨some 2, _, _, _, _, _⟩) ?_); refine allocNew (o := ⟨some 2, _, _, _, _, _⟩) (by rfl) 45 rfl _ _ info_chS ?_; intro w1 HA1 HW1 HS1)
      | ((with_reducible refine stopAt (o := ⟨some 5, _, _, _, _, _⟩) ?_); refine allocNew (o := ⟨some 5, _, _, _, _, _⟩) (by rfl) 45 rfl _ _ info_chS ?_; intro w2 HA2 HW2 HS2; have HA1' := Lib.hid (BlkIs.below HA1.out HW2.out); have HW := Lib.hid (HW1.out.trans (HW2.out.mono HW1.out.size)); have c0 := HC0.out w2 HW.out; have b32 : w2.cell? ⟨w1.heap.size, 32, none⟩ = some (.bool false) := BlkIs.cell HA2.out 32; have f32 := BlkIs.frozen HA2.out 32))
    rename_i KK hKK
    have HKK := Lib.hid hKK
    clear hKK c0 b32 f32
    have hg12 : w.heap.size < w1.heap.size := by have := BlkIs.lt HA1.out; exact this
    have hn1 : (1 : Int) ≤ n := by omega
    have hc1 : ¬ c = 1 := by omega
    have hnc' : (n : Int) ≤ (c : Int) := by omega
    refine wp_region_held_drew (S := fun _ => True) (by kernel_rfl) trivial fun _ => ?_
    refine wpAnyH_take (i := 0) (oi := ⟨some 29, _, _, _, _, _⟩) rfl (by kernel_rfl) (by kernel_rfl) (by kernel_rfl) (fun _ _ _ h => h) (Or.inl ⟨by rfl, fun w hw => by (try dsimp only at hw); go_simp; with_reducible rfl⟩) (by assumption) ?_
    try simp only [Act.put, List.setIfInBounds_toArray, List.set_cons_zero, List.set_cons_succ]
    refine wpAnyH_take (i := 1) (oi := ⟨some 30, _, _, _, _, _⟩) rfl (by kernel_rfl) (by kernel_rfl) (by kernel_rfl) (fun _ _ _ h => h) (Or.inl ⟨by rfl, fun w hw => by (try dsimp only at hw); go_simp; with_reducible rfl⟩) (by assumption) ?_
    try simp only [Act.put, List.setIfInBounds_toArray, List.set_cons_zero, List.set_cons_succ]
    refine wpAnyH_take (i := 2) (oi := ⟨some 31, _, _, _, _, _⟩) rfl (by kernel_rfl) (by kernel_rfl) (by kernel_rfl) (fun _ _ _ h => h) (Or.inl ⟨by rfl, fun w hw => by (try dsimp only at hw); go_simp; with_reducible rfl⟩) (by assumption) ?_
    try simp only [Act.put, List.setIfInBounds_toArray, List.set_cons_zero, List.set_cons_succ]
    refine wpAnyH_take (i := 3) (oi := ⟨some 32, _, _, _, _, _⟩) rfl (by kernel_rfl) (by kernel_rfl) (by kernel_rfl) (fun _ _ _ h => h) (Or.inl ⟨by rfl, fun w hw => by (try dsimp only at hw); go_simp; with_reducible rfl⟩) (by assumption) ?_
    try simp only [Act.put, List.setIfInBounds_toArray, List.set_cons_zero, List.set_cons_succ]
    have HA3 : Hid (BlkIs (w2.setCell ⟨w1.heap.size, 32, none⟩ (.bool true)) w1.heap.size 45 (chS (zs 32) true (.slice none 0 0)).toArray) := chs_setdel HA2.out (zs_length 32) _
    have HA13 : Hid (BlkIs (w2.setCell ⟨w1.heap.size, 32, none⟩ (.bool true)) w.heap.size 45 (chS (zs 32) false (.slice none 0 0)).toArray) := BlkIs.far HA1'.out (by show w.heap.size ≠ w1.heap.size; omega) _
    have HW3 : Hid (Below w.heap.size w (w2.setCell ⟨w1.heap.size, 32, none⟩ (.bool true))) := HW.out.setCell (show w.heap.size ≤ w1.heap.size by omega) _
    generalize w2.setCell ⟨w1.heap.size, 32, none⟩ (.bool true) = w3 at *
    have HS3 : Hid (RB w3 (some ⟨ad.block, ad.off + 1, none⟩) 32 ((xs.drop 1).take 32)) := by
      have h1 := (HX.out.below HW3.out).drop (k := 1) (B := some ⟨ad.block, ad.off + 1, none⟩) (by omega) (fun _ => rfl)
      exact h1.take (by omega)
    obtain ⟨key, hkey⟩ : ∃ key, (xs.drop 1).take 32 = key := ⟨_, rfl⟩
    have HKY := Lib.hid hkey
    rw [hkey] at HS3
    clear hkey
    have HKl : Hid (key.length = 32 ∧ IsB key) := ⟨HS3.out.1, HS3.out.2.1⟩
    refine wpAnyH_ready (rs := [4]) (by kernel_rfl) (by simp) ?_
    refine AllReadyH.cons (o := ⟨some 33, _, _, _, _, _⟩) rfl (fun K hK => ?_) (AllReadyH.nil)
    refine step_copy_splice (o := ⟨some 33, _, _, _, _, _⟩) rfl (.tmp 30) (.tmp 32) 31 31 rfl 5 und_bytes byte_size (some ⟨w1.heap.size, 0, none⟩) (some ⟨ad.block, ad.off + 1, none⟩) 32 32 (n - 1) (c - 1) rfl rfl w1.heap.size 0 _ 45 HA3.out (bvs key) (by
      rw [show (bvs key).length = 32 by unfold bvs; rw [List.length_map, HKl.out.1]]
      exact (Nat.min_eq_right (by omega)).symm) (fun _ => ⟨rfl, _, rfl, rb_cells' HS3.out⟩) (by rw [show (bvs key).length = 32 by unfold bvs; rw [List.length_map, HKl.out.1], chS_length _ _ (zs_length 32)]; omega) (bvs_oneCell _) w1.heap.size w3 (drewN_below (Below.refl _ _) 1) (Nat.le_refl _) ?_
    intro w4 hg4 hb4
    have HA4 : Hid (BlkIs w4 w1.heap.size 45 (chS key true (.slice none 0 0)).toArray) := by
      have h1 := hg4.out
      rwa [chS_key (zs_length 32) HKl.out.1] at h1
    have HA14 : Hid (BlkIs w4 w.heap.size 45 (chS (zs 32) false (.slice none 0 0)).toArray) := BlkIs.belowB HA13.out hb4 (by omega)
    have HW4 : Hid (Below w.heap.size w w4) := HW3.out.trans (hb4.mono (by omega))
    refine hK.out _ _ trivial (fun _ => ?_)
    clear hK hg4 hb4 HA3 HA13 HW3 HS3 HA1' HA1 HW1 HS1 HA2 HW2 HS2 HW
    refine wpAnyH_done (by kernel_rfl) ?_ _
    change KK _ _
    refine HKK.out _ _ ?_
    have b4 : w4.cell? ⟨w1.heap.size, 32, none⟩ = some (.bool true) := (BlkIs.cell HA4.out 32).trans (by rw [List.getElem?_toArray, chS_at32 HKl.out.1])
    (try simp only [Act.put, List.setIfInBounds_toArray, List.set_cons_zero, List.set_cons_succ])
    go_wp2_with (first
      | ((with_reducible refine stopAt (o := ⟨some 35, _, _, _, _, _⟩) ?_); refine sliceFrom (o := ⟨some 35, _, _, _, _, _⟩) (by rfl) 31 (.tmp 34) (.const (.int .i64 33)) rfl (by kernel_rfl) (by kernel_rfl) (some ad) n c 33 rfl rfl (by omega) hnc ?_; intro B1 HF1)
      | ((with_reducible refine stopAt (o := ⟨some 38, _, _, _, _, _⟩) ?_); refine loadRange (o := ⟨some 38, _, _, _, _, _⟩) (by rfl) 45 (.tmp 5) rfl w1.heap.size 0 _ rfl (BlkIs.range HA4.out) row_chg (by rw [size_chg, chS_length _ _ HKl.out.1]) ?_)
      | ((with_reducible refine stopAt (o := ⟨none, .store _ (.tmp 2) _, _, _, _, _⟩) ?_); refine storeV (o := ⟨none, _, _, _, _, _⟩) (by rfl) 45 (.tmp 2) (.tmp 38) rfl w.heap.size _ _ 45 rfl rfl HA14.out (by rw [size_chg, chS_length _ _ HKl.out.1]) (by rw [chS_length _ _ (zs_length 32), chS_length _ _ HKl.out.1]) (chS_one rfl) ?_; intro w5 HA5 HG5 HS5))
    refine chg_ret (g := w.heap.size) rfl rfl HA5.out (chS_length _ _ HKl.out.1) rfl rfl rfl ?_
    have hx2 : xs.getD 0 0 = 2 := by
      have h := HDL.out
      rw [hx0]
      simpa using h.symm
    have hE : takeE xs = 0 := by unfold takeE; rw [if_neg (by rw [HLX.out]; omega), if_pos hx2]
    have hC : takeC xs = ⟨key, true, []⟩ := by unfold takeC; rw [if_pos hx2, HKY.out]
    have hR : takeR xs = xs.drop 33 := by unfold takeR; rw [if_pos hx2]
    have HW5 : Below w.heap.size w w5 := HW4.out.grown HG5.out HW4.out.size (fun k hk => by injection hk with hk; omega)
    refine ⟨_, _, _, _, by rw [hE]; rfl, HW5, chS_length _ _ HKl.out.1, chS_one rfl, fun _ => ⟨none, 0, ?_⟩⟩
    rw [hC, hR]
    exact ⟨rfl, RB.nil _ _, Nat.le_refl _, by simp [maxLen], fun _ => rfl, (fun ad e => by cases e), (HX.out.below HW5).drop (by omega) HF1.out.1, by omega, (fun e => by have := HF1.out.2.2.2 e; cases this), HF1.out.2.1⟩
theorem take_any (A : Option Addr) (n c : Nat) (xs : List Nat) (w : World) (hx : RB w A n xs) (hnc : n ≤ c) :
    Calls Try.prog 47 #[.slice A n c] w (TakePost A xs w) := by
  by_cases h1 : n < 33
  · exact take_short A n c xs w hx h1
  · by_cases h2 : xs.getD 0 0 = 1
    · exact take_known A n c xs w hx hnc (by omega) (.inl h2)
    · by_cases h3 : xs.getD 0 0 = 2
      · exact take_known A n c xs w hx hnc (by omega) (.inr h3)
      · exact take_other A n c xs w hx (by omega) h2 h3
end Go.Proofs.Ytkpbeibcfaenhaa
