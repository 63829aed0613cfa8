/- ledgerlaw1.DigestPlays: what stands in memory while a step of kind 2 goes. -/
import Derived.Test.YtadhjgopekekgaaDoorPlaysA
import Derived.Laws.BytesArg
namespace Go.Proofs.YtadhjgopekekgaaDoor
open Go.RowKit
section
variable {P : Program}
/-- 'l = append(l, src...)' of bytes, in a region that draws its order. -/
theorem wpOp_appendRB {t e : TypeId} (ht : P.underlying t = some (.slice e)) (hinfo : (P.info? e).map (fun i => (i.zero, i.size, i.bytes)) = some (some (.int .u8 0), 1, 1))
    {ops : Array Oper} {Q : Exit → Act → World → Prop} {K : Act → World → Prop} {o : Oper} {a : Act} (hw : Region.wanted o (yielded ops a.tmps) = true) (w : World) (s x : Operand)
    (ho : o.op = .call { callee := .builtin .append, args := #[s, x], argTypes := #[t, t] })
    (base : Nat) (v : Value) (xs : List Nat) (hown : Own e w base v xs) (A : Option Addr) (m c : Nat) (ys : List Nat) (hr : RB w A m ys) (hA : A = none → c = 0)
    (hs : a.eval s = v) (hx : a.eval x = .slice A m c)
    (hlen : xs.length + m ≤ 140737488355328) (hbase : base ≤ w.heap.size)
    (h : ∀ v' w', Own e w' base v' (xs ++ ys) → w.grownBy w' v.ownBlock → Lies w v v' → K (a.put o.dst v') w') :
    if Region.wanted o (yielded ops a.tmps) = true then o.wp P a w K Q else K (a.put o.dst undef) w := by
  have hrun : ∃ v' w', (execOp a.eval o).run P w = .ok (.value v') w' ∧ Own e w' base v' (xs ++ ys) ∧ w.grownBy w' v.ownBlock ∧ Lies w v v' := by
    obtain ⟨i, hi, hz0, hz1, hz2⟩ := info_parts hinfo
    rcases A with _ | ad
    · obtain rfl := hA rfl
      have hm : m = 0 := by
        rcases Nat.eq_zero_or_pos m with h0 | h0
        · exact h0
        · obtain ⟨ad, e', _⟩ := hr.2.2 h0
          cases e'
      subst hm
      have hys : ys = [] := List.eq_nil_of_length_eq_zero hr.1
      subst hys
      have hq := run_append_owned_none (P := P) (w := w) base t o.type e i 1 ht hi v xs.length (bvs xs) hown.1
      refine ⟨v, w, ?_, by simpa using hown, World.grownBy.refl w _, Lies.refl w v⟩
      simp [execOp, ho, resolve, invoke, builtin, hs, hx, hq, Result.andThen]
    · obtain ⟨v', w', hq, h1, h2, _, h4⟩ := run_append_own_at (P := P) w base t o.type e i (.int .u8 0) 1 1 ht hi hz0 hz1 hz2 rfl (by decide) v xs.length (bvs xs) hown.1
        ad m c (bvs ys) (by simp [bvs, hr.1]) (fun j u hj => by
          simp only [bvs, List.getElem?_map, Option.map_eq_some_iff] at hj
          obtain ⟨x, hx, rfl⟩ := hj
          have hjm : j < ys.length := by
            rcases Nat.lt_or_ge j ys.length with h | h
            · exact h
            · rw [List.getElem?_eq_none h] at hx; cases hx
          obtain ⟨ad', e', _, hc⟩ := hr.2.2 (by have := hr.1; omega)
          injection e' with e'
          subst e'
          exact hc j x hx) (bvs_oneCell ys) (by unfold maxLen; omega) (by omega) hbase
      refine ⟨v', w', ?_, ⟨by rw [List.length_append, hr.1]; simpa [bvs] using h1, hown.2.app hr.2.1⟩, h2, ?_⟩
      · unfold execOp
        simp only [ho, resolve, invoke, builtin, Sem.run_bind, Sem.run_pure, Result.andThen_ok, List.map_toArray, List.map_cons, List.map_nil, hs, hx, hq]
      · intro k hk
        rcases h4 with h4 | h4
        · rw [h4] at hk
          exact .inl hk
        · rw [h4] at hk
          injection hk with hk
          exact .inr (by omega)
  obtain ⟨v', w', hr', h1, h2, h3⟩ := hrun
  rw [if_pos hw]
  unfold Oper.wp
  rw [hr']
  exact h v' w' h1 h2 h3
end
/-- The row, the step's own block, the list p in its block, and the copy of it. -/
structure Pl2 (w0 : World) (K : Nat → Nat) (r : Nat) (vh vt : Value) (held : Int) (n : Nat) (G : Nat → Nat) (T U : Nat → List Nat) (V : Nat → Value) (ob : Nat) (cs : Array Value) (pb : Nat) (ps : List Nat) (vw : Value) (qs : List Nat) (w : World) : Prop where
  row : RowInv w0 K r vh vt held n n G T U V w
  obk : BlkIs w ob 33 cs
  ko : K ob = 2 * n + 10
  pbk : BlkB w pb 5 ps
  kp : K pb = 2 * n + 11
  plo : w0.heap.size ≤ pb
  own : OwnU w w0.heap.size vw qs
  kw : ∀ k, vw.ownBlock = some k → K k = 2 * n + 12
section
variable {w0 w w1 w' : World} {K : Nat → Nat} {r n m : Nat} {vh vt : Value} {held : Int} {G : Nat → Nat} {T U : Nat → List Nat} {V : Nat → Value} {ob pb : Nat} {cs : Array Value} {ps qs : List Nat} {vw : Value}
theorem Pl2.later (h : Pl2 w0 K r vh vt held n G T U V ob cs pb ps vw qs w) (hb : Below w.heap.size w w') : Pl2 w0 K r vh vt held n G T U V ob cs pb ps vw qs w' :=
  { h with row := h.row.later hb, obk := BlkIs.below h.obk hb, pbk := BlkIs.below h.pbk hb, own := h.own.below hb }
theorem Pl2.putHash (h : Pl2 w0 K r vh vt held n G T U V ob cs pb ps vw qs w) {i : Nat} (hi : i < n) {ys : List Nat} (hh : HashIs w' (G i) ys) (hg : w.grownBy w' (some (G i))) : Pl2 w0 K r vh vt held n G (upd T i ys) U V ob cs pb ps vw qs w' := by
  have hr := tag1 (h.row.kg i hi)
  exact { h with
    row := h.row.putHash hi hh hg
    obk := BlkIs.grown h.obk hg (tag_ne1 h.ko hr (by omega))
    pbk := BlkIs.grown h.pbk hg (tag_ne1 h.kp hr (by omega))
    own := h.own.kept hg (tag_ne h.kw hr (by omega)) }
theorem Pl2.putText (h : Pl2 w0 K r vh vt held n G T U V ob cs pb ps vw qs w) {i g c : Nat} (hi : i < n) (hvt : vt = .slice (some ⟨g, 0, none⟩) n c) {v' : Value} {ys : List Nat}
    (ho : OwnU w1 w0.heap.size v' ys) (hg : w.grownBy w1 (V i).ownBlock) (hl : Lies w (V i) v') :
    Pl2 w0 (tagged w K (4 + 2 * i)) r vh vt held n G T (upd U i ys) (upd V i v') ob cs pb ps vw qs (w1.setCell ⟨g, i, none⟩ v') := by
  have hk2 : K g = 2 := h.row.kt g (by rw [hvt]; rfl)
  have hr := h.row.kv i hi
  have hr2 := tag1 hk2
  have hg2 := grown_setCell w1 (g := g) i v'
  exact {
    row := h.row.putText hi hvt ho hg hl
    obk := BlkIs.grown (BlkIs.grown h.obk hg (tag_ne1 h.ko hr (by omega))) hg2 (tag_ne1 h.ko hr2 (by omega))
    ko := (tagged_old (BlkIs.lt h.obk)).trans h.ko
    pbk := BlkIs.grown (BlkIs.grown h.pbk hg (tag_ne1 h.kp hr (by omega))) hg2 (tag_ne1 h.kp hr2 (by omega))
    kp := (tagged_old (BlkIs.lt h.pbk)).trans h.kp
    plo := h.plo
    own := (h.own.kept hg (tag_ne h.kw hr (by omega))).kept hg2 (tag_ne h.kw hr2 (by omega))
    kw := fun k hk => (tagged_old (h.own.lt k hk).2).trans (h.kw k hk) }
/-- A block beside the row takes other cells. -/
theorem RowInv.aside (h : RowInv w0 K r vh vt held n m G T U V w) {b t : Nat} (hb : w0.heap.size ≤ b) (hk : K b = t) (ht : 2 * n + 2 < t) (ht2 : 2 * m + 2 < t) (hg : w.grownBy w' (some b)) : RowInv w0 K r vh vt held n m G T U V w' := by
  have hr := tag1 hk
  exact { h with
    below := h.below.grown hg h.below.size (fun k e => by injection e with e; rw [← e]; exact hb)
    blk := h.blk.grown hg (tag_ne1 h.kr hr (by omega))
    oh := h.oh.kept hg (tag_ne h.kh hr (by omega))
    ot := h.ot.kept hg (tag_ne h.kt hr (by omega))
    hash := fun j hj => (h.hash j hj).grown hg (tag_ne1 (h.kg j hj) hr (by omega))
    text := fun j hj => (h.text j hj).kept hg (tag_ne (h.kv j hj) hr (by omega)) }
theorem Pl2.setP (h : Pl2 w0 K r vh vt held n G T U V ob cs pb ps vw qs w) (i x : Nat) : Pl2 w0 K r vh vt held n G T U V ob cs pb (ps.set i x) vw qs (w.setCell ⟨pb, i, none⟩ (.int .u8 (x : Int))) := by
  have hr := tag1 h.kp
  have hg := grown_setCell w (g := pb) i (.int .u8 (x : Int))
  exact { h with
    row := h.row.aside h.plo h.kp (by omega) (by omega) hg
    obk := BlkIs.grown h.obk hg (tag_ne1 h.ko hr (by omega))
    pbk := BlkB.set h.pbk i x
    own := h.own.kept hg (tag_ne h.kw hr (by omega)) }
/-- The copy is made. -/
theorem Pl2.setW (h : Pl2 w0 K r vh vt held n G T U V ob cs pb ps vw qs w) (hb : Below w.heap.size w w') {v' : Value} {ys : List Nat} (ho : OwnU w' w.heap.size v' ys) : Pl2 w0 (tagged w K (2 * n + 12)) r vh vt held n G T U V ob cs pb ps v' ys w' :=
  { row := (h.row.retag (2 * n + 12)).later hb
    obk := BlkIs.below h.obk hb
    ko := (tagged_old (BlkIs.lt h.obk)).trans h.ko
    pbk := BlkIs.below h.pbk hb
    kp := (tagged_old (BlkIs.lt h.pbk)).trans h.kp
    plo := h.plo
    own := ho.mono h.row.below.size
    kw := fun k hk => tagged_new (ho.lt k hk).1 }
/-- The beginning: the step's block and the list p are new. -/
theorem Pl2.begin_ (h : RowInv w0 K r vh vt held n n G T U V w) (ho : BlkIs w1 ob 33 cs) (hob : w.heap.size ≤ ob) (h1 : Below w.heap.size w w1) (hp : BlkB w' pb 5 ps) (hpb : w1.heap.size ≤ pb) (h2 : Below w1.heap.size w1 w') :
    Pl2 w0 (tagged w1 (tagged w K (2 * n + 10)) (2 * n + 11)) r vh vt held n G T U V ob cs pb ps (.slice none 0 0) [] w' :=
  { row := (((h.retag _).later h1).retag _).later h2
    obk := BlkIs.below ho h2
    ko := (tagged_old (BlkIs.lt ho)).trans (tagged_new hob)
    pbk := hp
    kp := tagged_new hpb
    plo := Nat.le_trans (Nat.le_trans h.below.size h1.size) hpb
    own := Own.nil _ _ _
    kw := fun k hk => by cases hk }
end
/-- Two lists of one content make one string. -/
theorem string_of {w : World} {b n c : Nat} {xs : List Nat} (hl : xs.length = n) (hc : ∀ j, j < n → w.cell? ⟨b, j, none⟩ = some (.int .u8 ((xs.getD j 0 : Nat) : Int))) :
    (convert 26 9 (.slice (some ⟨b, 0, none⟩) n c)).run Tryd.prog w = .ok (.string (strOfNums (xs.map Int.ofNat))) w := by
  refine run_convert_bytes_arg (P := Tryd.prog) w 26 5 (by kernel_rfl) (by kernel_rfl) b 0 n c (xs.map Int.ofNat) (by simp [hl]) (fun i hi => ?_) 9 (by kernel_rfl)
  rw [Nat.zero_add, hc i hi]
  congr 2
  simp only [List.getD, List.getElem?_map]
  cases xs[i]? <;> rfl
theorem rb_cells {w : World} {b n : Nat} {xs : List Nat} (h : RB w (some ⟨b, 0, none⟩) n xs) : ∀ j, j < n → w.cell? ⟨b, j, none⟩ = some (.int .u8 ((xs.getD j 0 : Nat) : Int)) := fun j hj => by
  obtain ⟨ad, e, _, hc⟩ := h.2.2 (by omega)
  injection e with e
  subst e
  have hl := h.1
  have := hc j (xs.getD j 0) (by simp [List.getD, List.getElem?_eq_getElem (show j < xs.length by omega)])
  rwa [add_lit, Nat.zero_add] at this
end Go.Proofs.YtadhjgopekekgaaDoor
