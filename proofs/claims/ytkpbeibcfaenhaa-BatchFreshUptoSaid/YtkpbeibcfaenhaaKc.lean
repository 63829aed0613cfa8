/- UntC, Apt, MarkB, ApartB (merged by merge_k.py) -/
import Derived.Test.YtkpbeibcfaenhaaKb
import Derived.Test.YtkpbeibcfaenhaaSameC
import Derived.Test.YtkpbeibcfaenhaaKa
/- ledgerlaw3.rows.untouched. (printed by gen_untc.py) -/
namespace Go.Proofs.Ytkpbeibcfaenhaa
open Go.RowKit
section
variable {w0 w : World} {gb : Nat} {v : Nat → Value} {KW LW : List Value} {R : Nat → Prop} {KL LL pd : List Ob} {E : World → Prop}
theorem PhI.headC (h : PhI w0 w gb v KW LW R KL LL pd E) : ∃ A c B d, w.cell? ⟨gb, 2, none⟩ = some (.slice A LL.length c) ∧ w.cell? ⟨gb, 3, none⟩ = some (.slice B LL.length d) ∧ v 2 = .slice A LL.length c ∧ v 3 = .slice B LL.length d := by
  obtain ⟨A, c, e0, _⟩ := rowV_form (h.heads.row 2 (by omega))
  obtain ⟨B, d, e1, _⟩ := rowV_form (h.heads.row 3 (by omega))
  have n0 : (xsK KL KW LL LW 2).length = LL.length := by simp [xsK]
  have n1 : (xsK KL KW LL LW 3).length = LL.length := by simp [xsK, h.lenC]
  rw [n0] at e0
  rw [n1] at e1
  exact ⟨A, c, B, d, by rw [← e0]; exact h.heads.at_.1.2.2.1, by rw [← e1]; exact h.heads.at_.1.2.2.2, e0, e1⟩
theorem PhI.readC (h : PhI w0 w gb v KW LW R KL LL pd E) {A B : Option Addr} {c d i : Nat} (e0 : v 2 = .slice A LL.length c) (e1 : v 3 = .slice B LL.length d) (hi : i < LL.length) :
    ∃ g0 g1 Ai ci Bi di m X, A = some ⟨g0, 0, none⟩ ∧ B = some ⟨g1, 0, none⟩ ∧ w.cell? ⟨g0, i, none⟩ = some (.slice Ai m ci) ∧ w.cell? ⟨g1, i, none⟩ = some (.slice Bi m di) ∧ ChsAt w Ai m X ∧ ChsAt w Bi m X := by
  have n0 : (xsK KL KW LL LW 2).length = LL.length := by simp [xsK]
  have n1 : (xsK KL KW LL LW 3).length = LL.length := by simp [xsK, h.lenC]
  obtain ⟨g0, c0, q0, _, r0⟩ := rowV_at (h.heads.row 2 (by omega)) (i := i) (by omega)
  obtain ⟨g1, c1, q1, _, r1⟩ := rowV_at (h.heads.row 3 (by omega)) (i := i) (by omega)
  rw [e0] at q0
  rw [e1] at q1
  have ho : LL[i]? = some LL[i] := List.getElem?_eq_getElem hi
  have hu : LW[i]? = some (LW[i]'(by rw [h.lenC]; exact hi)) := List.getElem?_eq_getElem (by rw [h.lenC]; exact hi)
  obtain ⟨X, _, hn, hd⟩ := h.eqC i _ _ ho hu
  obtain ⟨⟨Ai, ci, ea, ha⟩, ⟨Bi, di, eb, hb⟩⟩ := hd.now
  refine ⟨g0, g1, Ai, ci, Bi, di, _, X, (slice_inj q0).1, (slice_inj q1).1, ?_, ?_, ha, hb⟩
  · rw [r0]
    show (LL.map Ob.v)[i]? = _
    rw [List.getElem?_map, ho, Option.map_some, ea]
  · rw [r1]
    show LW[i]? = _
    rw [hu, eb]
end
set_option maxRecDepth 100000 in
set_option maxHeartbeats 1600000 in
theorem untouchedC_any (w0 w : World) (gb : Nat) (KL LL pd : List Ob) (E : World → Prop) (h : Ph w0 w gb KL LL pd E) (hkk : KL.length ≤ 1073741824) (hk : LL.length ≤ 1073741824) :
    Calls Try.prog 40 #[.pointer (some ⟨gb, 0, none⟩)] w fun e w' => e = .returned (.bool true) ∧ ∃ q, w' = w.drewN q := by
  obtain ⟨v, KW, LW, R, hp⟩ := h
  have HP := Lib.hid hp
  have HUB := Lib.hid (fun q => untouchedB_any w0 (w.drewN q) gb KL LL pd E ⟨v, KW, LW, R, hp.below (drewN_below (Below.refl _ _) q)⟩ hkk)
  obtain ⟨A, c, B, d, b0, b1, e0, e1⟩ := hp.headC
  have HR : Hid (∀ i, i < LL.length → ∃ g0 g1 Ai ci Bi di m X, A = some ⟨g0, 0, none⟩ ∧ B = some ⟨g1, 0, none⟩ ∧ w.cell? ⟨g0, i, none⟩ = some (.slice Ai m ci) ∧ w.cell? ⟨g1, i, none⟩ = some (.slice Bi m di) ∧ ChsAt w Ai m X ∧ ChsAt w Bi m X) := fun i hi => hp.readC e0 e1 hi
  clear hp e0 e1 HP
  obtain ⟨n, hn⟩ : ∃ n, LL.length = n := ⟨_, rfl⟩
  rw [hn] at b0 b1 HR hk
  clear hn
  go_enter Try.func40, Try.ntmps40
  go_wp2_with fail
  go_loopw [3] (fun i wr => ∃ k q : Nat, k ≤ n ∧ i = .int .i64 k ∧ wr = w.drewN q) (fun i _ => n - (intOf i).toNat)
  case atStart => exact ⟨0, 0, by omega, rfl, rfl⟩
  case round =>
    obtain ⟨k, q, hk', rfl, rfl⟩ := hrel
    by_cases hlt : k < n
    · have hlt' : (k : Int) < n := by omega
      obtain ⟨g0, g1, Ai, ci, Bi, di, m, X, rfl, rfl, r0, r1, ha, hb⟩ := HR.out k hlt
      have HA : Hid (∀ j, ChsAt (w.drewN j) Ai m X ∧ ChsAt (w.drewN j) Bi m X) := fun j => ⟨ha.below (drewN_below (Below.refl _ _) j), hb.below (drewN_below (Below.refl _ _) j)⟩
      have KS : Hid (∀ j, (w.drewN j).cell? ⟨gb, 2, none⟩ = some (.slice (some ⟨g0, 0, none⟩) n c) ∧ (w.drewN j).cell? ⟨gb, 3, none⟩ = some (.slice (some ⟨g1, 0, none⟩) n d) ∧ (w.drewN j).cell? ⟨g0, k, none⟩ = some (.slice Ai m ci) ∧ (w.drewN j).cell? ⟨g1, k, none⟩ = some (.slice Bi m di)) := fun j => ⟨b0, b1, r0, r1⟩
      clear ha hb r0 r1
      have c0 := (KS.out q).1
      go_wp2_with fail
      rename_i KK hKK
      have HKK := Lib.hid hKK
      clear hKK c0
      refine wp_region_held_drew (S := fun w' => w'.cell? ⟨gb, 2, none⟩ = some (.slice (some ⟨g0, 0, none⟩) n c) ∧ w'.cell? ⟨gb, 3, none⟩ = some (.slice (some ⟨g1, 0, none⟩) n d) ∧ w'.cell? ⟨g0, k, none⟩ = some (.slice Ai m ci) ∧ w'.cell? ⟨g1, k, none⟩ = some (.slice Bi m di)) (by kernel_rfl) (KS.out (q + 1)) fun hH => ?_
      refine wpAnyH_take (i := 0) (oi := ⟨some 13, _, _, _, _, _⟩) rfl (by kernel_rfl) (by kernel_rfl) (by kernel_rfl) (fun _ _ _ h => h) (Or.inl ⟨by rfl, fun w hw => by ((try dsimp only at hw); go_split_ands; go_simp; with_reducible rfl)⟩) (by assumption) ?_
      try simp only [Act.put, List.setIfInBounds_toArray, List.set_cons_zero, List.set_cons_succ]
      refine wpAnyH_take (i := 1) (oi := ⟨some 14, _, _, _, _, _⟩) rfl (by kernel_rfl) (by kernel_rfl) (by kernel_rfl) (fun _ _ _ h => h) (Or.inl ⟨by rfl, fun w hw => by ((try dsimp only at hw); go_split_ands; go_simp; with_reducible rfl)⟩) (by assumption) ?_
      try simp only [Act.put, List.setIfInBounds_toArray, List.set_cons_zero, List.set_cons_succ]
      refine wpAnyH_take (i := 2) (oi := ⟨some 15, _, _, _, _, _⟩) rfl (by kernel_rfl) (by kernel_rfl) (by kernel_rfl) (fun _ _ _ h => h) (Or.inl ⟨by rfl, fun w hw => by ((try dsimp only at hw); go_split_ands; go_simp; with_reducible rfl)⟩) (by assumption) ?_
      try simp only [Act.put, List.setIfInBounds_toArray, List.set_cons_zero, List.set_cons_succ]
      refine wpAnyH_take (i := 3) (oi := ⟨some 16, _, _, _, _, _⟩) rfl (by kernel_rfl) (by kernel_rfl) (by kernel_rfl) (fun _ _ _ h => h) (Or.inl ⟨by rfl, fun w hw => by ((try dsimp only at hw); go_split_ands; go_simp; with_reducible rfl)⟩) (by assumption) ?_
      try simp only [Act.put, List.setIfInBounds_toArray, List.set_cons_zero, List.set_cons_succ]
      refine wpAnyH_take (i := 4) (oi := ⟨some 17, _, _, _, _, _⟩) rfl (by kernel_rfl) (by kernel_rfl) (by kernel_rfl) (fun _ _ _ h => h) (Or.inl ⟨by rfl, fun w hw => by ((try dsimp only at hw); go_split_ands; go_simp; with_reducible rfl)⟩) (by assumption) ?_
      try simp only [Act.put, List.setIfInBounds_toArray, List.set_cons_zero, List.set_cons_succ]
      refine wpAnyH_take (i := 5) (oi := ⟨some 18, _, _, _, _, _⟩) rfl (by kernel_rfl) (by kernel_rfl) (by kernel_rfl) (fun _ _ _ h => h) (Or.inl ⟨by rfl, fun w hw => by ((try dsimp only at hw); go_split_ands; go_simp; with_reducible rfl)⟩) (by assumption) ?_
      try simp only [Act.put, List.setIfInBounds_toArray, List.set_cons_zero, List.set_cons_succ]
      refine wpAnyH_take (i := 6) (oi := ⟨some 19, _, _, _, _, _⟩) rfl (by kernel_rfl) (by kernel_rfl) (by kernel_rfl) (fun _ _ _ h => h) (Or.inl ⟨by rfl, fun w hw => by ((try dsimp only at hw); go_split_ands; go_simp; with_reducible rfl)⟩) (by assumption) ?_
      try simp only [Act.put, List.setIfInBounds_toArray, List.set_cons_zero, List.set_cons_succ]
      refine wpAnyH_take (i := 7) (oi := ⟨some 20, _, _, _, _, _⟩) rfl (by kernel_rfl) (by kernel_rfl) (by kernel_rfl) (fun _ _ _ h => h) (Or.inl ⟨by rfl, fun w hw => by ((try dsimp only at hw); go_split_ands; go_simp; with_reducible rfl)⟩) (by assumption) ?_
      try simp only [Act.put, List.setIfInBounds_toArray, List.set_cons_zero, List.set_cons_succ]
      refine wpAnyH_take (i := 8) (oi := ⟨some 21, _, _, _, _, _⟩) rfl (by kernel_rfl) (by kernel_rfl) (by kernel_rfl) (fun _ _ _ h => h) (Or.inl ⟨by rfl, fun w hw => by ((try dsimp only at hw); go_split_ands; go_simp; with_reducible rfl)⟩) (by assumption) ?_
      try simp only [Act.put, List.setIfInBounds_toArray, List.set_cons_zero, List.set_cons_succ]
      refine wpAnyH_take (i := 9) (oi := ⟨some 22, _, _, _, _, _⟩) rfl (by kernel_rfl) (by kernel_rfl) (by kernel_rfl) (fun _ _ _ h => h) (Or.inl ⟨by rfl, fun w hw => by ((try dsimp only at hw); go_split_ands; go_simp; with_reducible rfl)⟩) (by assumption) ?_
      try simp only [Act.put, List.setIfInBounds_toArray, List.set_cons_zero, List.set_cons_succ]
      refine wpAnyH_take (i := 10) (oi := ⟨some 23, _, _, _, _, _⟩) rfl (by kernel_rfl) (by kernel_rfl) (by kernel_rfl) (fun _ _ _ h => h) (Or.inl ⟨by rfl, fun w hw => by ((try dsimp only at hw); go_split_ands; go_simp; with_reducible rfl)⟩) (by assumption) ?_
      try simp only [Act.put, List.setIfInBounds_toArray, List.set_cons_zero, List.set_cons_succ]
      refine wpAnyH_take (i := 11) (oi := ⟨some 24, _, _, _, _, _⟩) rfl (by kernel_rfl) (by kernel_rfl) (by kernel_rfl) (fun _ _ _ h => h) (Or.inl ⟨by rfl, fun w hw => by ((try dsimp only at hw); go_split_ands; go_simp; with_reducible rfl)⟩) (by assumption) ?_
      try simp only [Act.put, List.setIfInBounds_toArray, List.set_cons_zero, List.set_cons_succ]
      refine wpAnyH_take (i := 12) (oi := ⟨some 25, _, _, _, _, _⟩) rfl (by kernel_rfl) (by kernel_rfl) (by kernel_rfl) (fun _ _ _ h => h) (Or.inl ⟨by rfl, fun w hw => by ((try dsimp only at hw); go_split_ands; go_simp; with_reducible rfl)⟩) (by assumption) ?_
      try simp only [Act.put, List.setIfInBounds_toArray, List.set_cons_zero, List.set_cons_succ]
      refine wpAnyH_take (i := 13) (oi := ⟨some 26, _, _, _, _, _⟩) rfl (by kernel_rfl) (by kernel_rfl) (by kernel_rfl) (fun _ _ _ h => h) (Or.inl ⟨by rfl, fun w hw => by ((try dsimp only at hw); go_split_ands; go_simp; with_reducible rfl)⟩) (by assumption) ?_
      try simp only [Act.put, List.setIfInBounds_toArray, List.set_cons_zero, List.set_cons_succ]
      refine wpAnyH_ready (rs := [14]) (by kernel_rfl) (by simp) ?_
      refine AllReadyH.cons rfl (fun K hK => ?_) (AllReadyH.nil)
      go_simp
      refine (sameC_true Ai Bi m ci di X X (w.drewN (q + 1)) (HA.out (q + 1)).1 (HA.out (q + 1)).2 (fun _ _ => rfl)).mono ?_
      rintro e w2 ⟨rfl, p, hp⟩
      obtain ⟨p', hp'⟩ : ∃ p', w2 = w.drewN p' := ⟨q + 1 + p, by rw [hp, World.drewN_drewN]⟩
      have HP := Lib.hid hp'
      clear hp hp'
      refine hK.out _ _ (by rw [HP.out]; exact KS.out p') (fun hH2 => ?_)
      clear hK hH
      refine wpAnyH_take (i := 15) (oi := ⟨some 28, _, _, _, _, _⟩) rfl (by kernel_rfl) (by kernel_rfl) (by kernel_rfl) (fun _ _ _ h => h) (Or.inl ⟨by rfl, fun w hw => by ((try dsimp only at hw); go_split_ands; go_simp; with_reducible rfl)⟩) (by assumption) ?_
      try simp only [Act.put, List.setIfInBounds_toArray, List.set_cons_zero, List.set_cons_succ]
      refine wpAnyH_done (by kernel_rfl) ?_ _
      change KK _ _
      refine HKK.out _ _ ?_
      clear HKK KK hH2
      go_wp2_with fail
      go_roundw
      case rel => exact ⟨k + 1, p', by omega, by go_num, HP.out⟩
      case measure => simp [intOf]; omega
    · have hnlt : ¬ (k : Int) < n := by omega
      have c0 : (w.drewN q).cell? ⟨gb, 2, none⟩ = some (.slice A n c) := b0
      have HB := Lib.hid (HUB.out q)
      clear HUB HR
      go_wp2_with fail
      refine HB.out.mono ?_
      rintro e w2 ⟨rfl, p, rfl⟩
      clear HB c0
      go_wp2_with fail
      go_ret
      exact ⟨rfl, q + p, rfl⟩
end Go.Proofs.Ytkpbeibcfaenhaa

/- Rows that lie apart from one another, written full of marks and grown. No function of the program is named here. -/
namespace Go.Proofs.Ytkpbeibcfaenhaa
open Go.RowKit
/-- No row of at most n has changed. -/
def Stay (e : TypeId) (s n : Nat) (w w' : World) : Prop := ∀ (base : Nat) (u : Value) (m : Nat) (zs : List Value), m ≤ n → w.ownsRow base e s u m zs → w'.ownsRow base e s u m zs
theorem Stay.below {e : TypeId} {s n : Nat} {w w' : World} (h : Below w.heap.size w w') : Stay e s n w w' := fun _ u _ _ _ hu => hu.kept (grown_of_below h none) (by cases u.ownBlock <;> simp)
theorem Stay.trans {e : TypeId} {s n : Nat} {a b c : World} (h : Stay e s n a b) (k : Stay e s n b c) : Stay e s n a c := fun base u m zs hm hu => k base u m zs hm (h base u m zs hm hu)
theorem stay_setRow {e : TypeId} {w : World} {g n s cap : Nat} {cur : Array Value} {news : List Value} (hg : w.heap[g]? = some (.cells cur e (0, 0))) (hs : cur.size = cap * s) (hl : n * s + news.length ≤ cap * s) :
    Stay e s n w (w.setRow g (cur.toList.take (n * s) ++ news ++ cur.toList.drop (n * s + news.length)).toArray) := by
  intro base u m zs hm hu
  refine ⟨hu.1, ?_⟩
  rcases hu.2 with h | ⟨g', cap', cur', rfl, h1, h2, h3, h4, h5, h6⟩
  · exact .inl h
  · refine .inr ?_
    by_cases hgg : g' = g
    · subst hgg
      rw [hg] at h2
      injection h2 with h2
      injection h2 with h2
      subst h2
      refine ⟨g', cap', _, rfl, h1, setRow_heap w g' cur _ e _ hg, h3, h4, ?_, ?_⟩
      · simp only [List.size_toArray, List.length_append, List.length_take, List.length_drop, Array.length_toList]
        omega
      · have hms : m * s ≤ n * s := Nat.mul_le_mul_right _ hm
        rw [← h6, List.append_assoc]
        have hle : m * s ≤ (cur.toList.take (n * s)).length := by rw [List.length_take, Array.length_toList]; omega
        show List.take (m * s) (List.toArray _).toList = _
        rw [List.take_append_of_le_length hle, List.take_take, Nat.min_eq_left hms]
    · exact ⟨g', cap', cur', rfl, h1, (setRow_other w g g' _ hgg).trans h2, h3, h4, h5, h6⟩
section
variable {P : Program}
theorem below_drew_alloc (w : World) (o : Obj) : Below w.heap.size w (w.drew.alloc o) := ((Below.refl w.heap.size w).drew).alloc (Nat.le_refl _) o
/-- 'l = append(l, c)' of one value: what is not longer stays as it is. -/
theorem appendS_run {t e : TypeId} {z : Value} {by_ sz : Nat} (ht : P.underlying t = some (.slice e)) (hinfo : (P.info? e).map (fun i => (i.zero, i.size, i.bytes)) = some (some z, sz, by_)) (hzs : z.cells.size = sz) (hsz : 0 < sz)
    {o : Oper} {a : Act} (w : World) (s x : Operand) (ho : o.op = .call { callee := .builtin .append, args := #[s, x], argTypes := #[t, t] })
    (base : Nat) (v : Value) (n : Nat) (xs : List Value) (hown : w.ownsRow base e sz v n xs) (cs : List Value) (hcl : cs.length = sz) (hone : ∀ u ∈ cs, u.oneCell' = true) (hs : a.eval s = v) (hx : a.eval x = .slice (some ⟨w.heap.size, 0, none⟩) 1 1)
    (hlen : (n + 1) * by_ ≤ 140737488355328) (hm : n + 1 ≤ 140737488355328) (hbase : base ≤ w.heap.size) :
    ∃ v' w', (execOp a.eval o).run P (w.alloc (.cells cs.toArray e)) = .ok (.value v') w' ∧ w'.ownsRow base e sz v' (n + 1) (xs ++ cs) ∧ w.grownBy w' v.ownBlock ∧ Lies w v v' ∧ Stay e sz n w w' := by
  obtain ⟨i, hi, hz, hs1, hby⟩ := info_parts hinfo
  have hcells : ∀ (j : Nat) (u : Value), cs[j]? = some u → (w.alloc (.cells cs.toArray e)).cell? ((⟨w.heap.size, 0, none⟩ : Addr).add j) = some u := fun j u hj => by
    rw [add_lit, cell_of_row _ _ _ _ _ _ (heap_alloc_new w _), Nat.zero_add, List.getElem?_toArray]
    exact hj
  have hown1 : (w.alloc (.cells cs.toArray e)).ownsRow base e sz v n xs := hown.alloc _
  have hW : Below w.heap.size w (w.alloc (.cells cs.toArray e)) := (Below.refl _ _).alloc (Nat.le_refl _) _
  obtain ⟨v', w', hr, h1, h2, _, h4⟩ := run_append_own_at (P := P) (w.alloc (.cells cs.toArray e)) base t o.type e i z sz by_ ht hi hz hs1 hby hzs hsz v n xs hown1
    ⟨w.heap.size, 0, none⟩ 1 1 cs (by omega) hcells hone (by unfold maxLen; omega) hlen (by simp; omega)
  have hstay : Stay e sz n (w.alloc (.cells cs.toArray e)) w' := by
    rcases hown1.2 with ⟨rfl, rfl⟩ | ⟨g, cap, cur, rfl, hbg, hg, hnc, hcm, hsize, htk⟩
    · have hr2 := run_append_nil (P := P) (w.alloc (.cells cs.toArray e)) t o.type e i z ht hi hz ⟨w.heap.size, 0, none⟩ 1 1 cs (by omega) hcells (by omega) (by omega) (by rw [hby]; omega)
      rw [hr] at hr2
      injection hr2 with _ hw
      rw [hw]
      exact Stay.below (below_drew_alloc _ _)
    · by_cases hroom : n + 1 ≤ cap
      · have hfit : n * sz + cs.length ≤ cap * sz := by
          have := Nat.mul_le_mul_right sz hroom
          rw [Nat.add_mul] at this
          omega
        have hr2 := run_append_room (P := P) (w.alloc (.cells cs.toArray e)) t o.type e i ht hi g n cap cur hg ⟨w.heap.size, 0, none⟩ 1 1 cs (by omega) hcells hone hroom (by rw [hs1]; omega)
        rw [hr] at hr2
        injection hr2 with _ hw
        rw [hw, hs1]
        exact stay_setRow hg hsize hfit
      · have holds : ∀ (q : Nat) (u : Value), xs[q]? = some u → (w.alloc (.cells cs.toArray e)).cell? ((⟨g, 0, none⟩ : Addr).add q) = some u := hown1.cells (g := g) rfl
        have hr2 := run_append_grow (P := P) (w.alloc (.cells cs.toArray e)) t o.type e i z ht hi hz ⟨g, 0, none⟩ n cap xs (by rw [hs1]; exact hown1.1) holds ⟨w.heap.size, 0, none⟩ 1 1 cs (by omega) hcells (by omega) (by omega) (growslice_fits (by omega) (by rw [hby]; omega))
        rw [hr] at hr2
        injection hr2 with _ hw
        rw [hw]
        exact Stay.below (below_drew_alloc _ _)
  refine ⟨v', w', ?_, h1, grown_trans (World.grownBy_alloc _ _ _) h2, ?_, (Stay.below hW).trans hstay⟩
  · unfold execOp
    simp only [ho, resolve, invoke, builtin, Sem.run_bind, Sem.run_pure, Result.andThen_ok, List.map_toArray, List.map_cons, List.map_nil, hs, hx, hr]
  · intro k hk
    rcases h4 with h4 | h4
    · rw [h4] at hk
      exact .inl hk
    · rw [h4] at hk
      injection hk with hk
      simp at hk
      exact .inr (by omega)
theorem appendS {t e : TypeId} {z : Value} {by_ sz : Nat} (ht : P.underlying t = some (.slice e)) (hinfo : (P.info? e).map (fun i => (i.zero, i.size, i.bytes)) = some (some z, sz, by_)) (hzs : z.cells.size = sz) (hsz : 0 < sz)
    {ops : Array Oper} {rest : List Oper} {o : Oper} {a : Act} {Q : Exit → Act → World → Prop} (w : World) (hgd : o.guard = none) (s x : Operand) (ho : o.op = .call { callee := .builtin .append, args := #[s, x], argTypes := #[t, t] })
    (base : Nat) (v : Value) (n : Nat) (xs : List Value) (hown : w.ownsRow base e sz v n xs) (cs : List Value) (ca : Array Value) (hca : ca = cs.toArray) (hcl : cs.length = sz) (hone : ∀ u ∈ cs, u.oneCell' = true) (hs : a.eval s = v) (hx : a.eval x = .slice (some ⟨w.heap.size, 0, none⟩) 1 1)
    (hlen : (n + 1) * by_ ≤ 140737488355328) (hm : n + 1 ≤ 140737488355328) (hbase : base ≤ w.heap.size)
    (h : ∀ v' w', w'.ownsRow base e sz v' (n + 1) (xs ++ cs) → w.grownBy w' v.ownBlock → Lies w v v' → Stay e sz n w w' → wpList P ops Q rest (a.put o.dst v') w') :
    wpList P ops Q (o :: rest) a (w.alloc (.cells ca e)) := by
  subst hca
  obtain ⟨v', w', hr, h1, h2, h3, h4⟩ := appendS_run (o := o) ht hinfo hzs hsz w s x ho base v n xs hown cs hcl hone hs hx hlen hm hbase
  refine wpList_plain hgd fun K hK => ?_
  unfold Oper.wp
  rw [hr]
  exact hK _ _ (h v' w' h1 h2 h3 h4)
end
theorem Far.row {w : World} {U : Nat → Prop} {base : Nat} {e : TypeId} {size n : Nat} {v : Value} {xs : List Value} (h : w.ownsRow base e size v n xs) (hn : ∀ k, v.ownBlock = some k → ¬ U k) : Far U w fun w => w.ownsRow base e size v n xs := fun _ ht => ht.row h hn
/-- A block of one of the rows. -/
def BlkOf (L : List Value) (B : Nat) : Prop := ∃ (i : Nat) (v : Value), L[i]? = some v ∧ v.ownBlock = some B
def OwnAll (w : World) (base : Nat) (e : TypeId) (s : Nat) (L : List Value) (ns : Nat → Nat) (ct : Nat → List Value) : Prop := ∀ (i : Nat) (v : Value), L[i]? = some v → w.ownsRow base e s v (ns i) (ct i)
def AptAll (L : List Value) : Prop := ∀ (i j : Nat) (v u : Value), i ≠ j → L[i]? = some v → L[j]? = some u → Apart v u
/-- The list of rows, behind the cell 'fo' of the block gb. -/
structure Spn (w : World) (gb fo : Nat) (A : Option Addr) (c : Nat) (L : List Value) : Prop where
  head : w.cell? ⟨gb, fo, none⟩ = some (.slice A L.length c)
  lt : gb < w.heap.size
  ng : ¬ BlkOf L gb
  at_ : ∀ i, i < L.length → ∃ g, A = some ⟨g, 0, none⟩ ∧ g < w.heap.size ∧ ¬ BlkOf L g ∧ w.cell? ⟨g, i, none⟩ = L[i]?
theorem Spn.touch {w w' : World} {gb fo : Nat} {A : Option Addr} {c : Nat} {L : List Value} (h : Spn w gb fo A c L) (ht : Touch (BlkOf L) w w') : Spn w' gb fo A c L :=
  ⟨(ht.cell (p := ⟨gb, fo, none⟩) h.lt h.ng).trans h.head, Nat.lt_of_lt_of_le h.lt ht.size, h.ng, fun i hi => by
    obtain ⟨g, h1, h2, h3, h4⟩ := h.at_ i hi
    exact ⟨g, h1, Nat.lt_of_lt_of_le h2 ht.size, h3, (ht.cell (p := ⟨g, i, none⟩) h2 h3).trans h4⟩⟩
section
variable (M : Nat → Nat → List Value)
/-- The first n marks of the i-th row. -/
def ml (i : Nat) : Nat → List Value
  | 0 => []
  | n + 1 => ml i n ++ M i n
/-- k marks are written. -/
def mixed (s i : Nat) (cs : List Value) (k : Nat) : List Value := ml M i k ++ cs.drop (k * s)
end
section
variable {M : Nat → Nat → List Value} {s : Nat}
theorem ml_length (hM : ∀ i k, (M i k).length = s) (i n : Nat) : (ml M i n).length = n * s := by
  induction n with
  | zero => simp [ml]
  | succ n ih => rw [ml, List.length_append, ih, hM, Nat.add_mul, Nat.one_mul]
theorem mixed_zero (i : Nat) (cs : List Value) : mixed M s i cs 0 = cs := by simp [mixed, ml]
theorem mixed_end (i n : Nat) (cs : List Value) (h : cs.length = n * s) : mixed M s i cs n = ml M i n := by unfold mixed; rw [List.drop_of_length_le (by omega), List.append_nil]
theorem mixed_length (hM : ∀ i k, (M i k).length = s) {i n k : Nat} {cs : List Value} (h : cs.length = n * s) (hk : k ≤ n) : (mixed M s i cs k).length = n * s := by
  unfold mixed
  rw [List.length_append, ml_length hM, List.length_drop, h]
  have := Nat.mul_le_mul_right s hk
  omega
theorem mixed_next (hM : ∀ i k, (M i k).length = s) {i k : Nat} {cs : List Value} : splice (mixed M s i cs k) (k * s) (M i k) = mixed M s i cs (k + 1) := by
  have hl := ml_length hM i k
  unfold splice mixed
  rw [List.take_left' hl, hM, List.drop_append, hl, List.drop_of_length_le (by rw [hl]; omega), List.nil_append, List.drop_drop, ml]
  rw [show k * s + (k * s + s - k * s) = (k + 1) * s by rw [Nat.add_mul]; omega, List.append_assoc]
/-- What the rows hold when k marks of the i-th are written. -/
def Fk (M : Nat → Nat → List Value) (s : Nat) (ns : Nat → Nat) (ct : Nat → List Value) (i k : Nat) (j : Nat) : List Value := if j < i then ml M j (ns j) else if j = i then mixed M s i (ct i) k else ct j
section
variable {w w' : World} {base : Nat} {e : TypeId} {L : List Value} {ns : Nat → Nat} {ct : Nat → List Value} {i k : Nat}
theorem Fk_start (h : OwnAll w base e s L ns ct) : OwnAll w base e s L ns (Fk M s ns ct 0 0) := fun j v hj => by
  have h1 := h j v hj
  unfold Fk
  rw [if_neg (by omega)]
  split
  · rename_i h2
    subst h2
    rw [mixed_zero]
    exact h1
  · exact h1
theorem Fk_row (h : OwnAll w base e s L ns (Fk M s ns ct i k)) {v : Value} (hv : L[i]? = some v) : w.ownsRow base e s v (ns i) (mixed M s i (ct i) k) := by
  have h1 := h i v hv
  unfold Fk at h1
  rwa [if_neg (by omega), if_pos rfl] at h1
theorem Fk_step (h : OwnAll w base e s L ns (Fk M s ns ct i k)) (ha : AptAll L) {v : Value} (hv : L[i]? = some v) (ht : Touch (fun B => v.ownBlock = some B) w w') {k' : Nat} (hr : w'.ownsRow base e s v (ns i) (mixed M s i (ct i) k')) : OwnAll w' base e s L ns (Fk M s ns ct i k') := fun j u hu => by
  by_cases e : j = i
  · subst e
    rw [hv] at hu
    injection hu with hu
    subst hu
    unfold Fk
    rw [if_neg (by omega), if_pos rfl]
    exact hr
  · have h1 := ht.row (h j u hu) fun B hB hB' => ha j i u v e hu hv B hB hB'
    unfold Fk at h1 ⊢
    rwa [if_neg e] at h1 ⊢
theorem Fk_next (h : OwnAll w base e s L ns (Fk M s ns ct i (ns i))) (hc : (ct i).length = ns i * s) : OwnAll w base e s L ns (Fk M s ns ct (i + 1) 0) := fun j u hu => by
  have h1 := h j u hu
  unfold Fk at h1 ⊢
  by_cases e1 : j < i
  · rw [if_pos e1] at h1
    rwa [if_pos (by omega)]
  · by_cases e2 : j = i
    · subst e2
      rw [if_neg e1, if_pos rfl] at h1
      rw [if_pos (by omega)]
      rwa [mixed_end _ _ _ hc] at h1
    · rw [if_neg e1, if_neg e2] at h1
      rw [if_neg (by omega)]
      split
      · rename_i e3
        subst e3
        rw [mixed_zero]
        exact h1
      · exact h1
end
/-- The blocks that the growing may still change. -/
def Ug (gv : Value) (L : List Value) (i : Nat) (B : Nat) : Prop := gv.ownBlock = some B ∨ ∃ (j : Nat) (v : Value), i ≤ j ∧ L[j]? = some v ∧ v.ownBlock = some B
/-- i rows are grown. -/
structure Gs (w1 y : World) (base : Nat) (e : TypeId) (s : Nat) (M : Nat → Nat → List Value) (T : TypeId) (L : List Value) (ns : Nat → Nat) (i : Nat) (gv : Value) (Gl : List Value) : Prop where
  touch : Touch (BlkOf L) w1 y
  row : y.ownsRow w1.heap.size T 1 gv Gl.length Gl
  len : Gl.length = i
  own : ∀ (j : Nat) (v : Value), i ≤ j → L[j]? = some v → y.ownsRow base e s v (ns j) (ml M j (ns j))
  done : Far (Ug gv L i) y fun y => ∀ (j : Nat) (v u : Value), j < i → L[j]? = some v → Gl[j]? = some u → y.ownsRow base e s v (ns j) (ml M j (ns j)) ∧ y.ownsRow base e s u (ns j + 300) (ml M j (ns j + 300))
  low : ∀ B, BlkOf L B → B < w1.heap.size
section
variable {w1 y z z' : World} {base : Nat} {e T : TypeId} {L : List Value} {ns : Nat → Nat} {i : Nat} {gv gv' g v : Value} {Gl : List Value}
theorem Gs.start (h : OwnAll w1 base e s L ns fun j => ml M j (ns j)) : Gs w1 w1 base e s M T L ns 0 (.slice none 0 0) [] :=
  ⟨Touch.refl _ _, World.ownsRow_nil _ _ _ _, rfl, fun j v _ hv => h j v hv, fun _ _ j v u hj => by omega, fun B ⟨j, v, hv, hB⟩ => ((h j v hv).lt B hB).2⟩
theorem Gs.next (h : Gs w1 y base e s M T L ns i gv Gl) (ha : AptAll L) (hv : L[i]? = some v) (hz : Touch (fun B => v.ownBlock = some B) y z) (hzv : z.ownsRow base e s v (ns i) (ml M i (ns i))) (hzg : z.ownsRow base e s g (ns i + 300) (ml M i (ns i + 300)))
    (hzl : ∀ B, g.ownBlock = some B → v.ownBlock = some B ∨ y.heap.size ≤ B) (hr : z'.ownsRow w1.heap.size T 1 gv' (Gl ++ [g]).length (Gl ++ [g])) (hg : z.grownBy z' gv.ownBlock) (hl : Lies z gv gv') : Gs w1 z' base e s M T L ns (i + 1) gv' (Gl ++ [g]) := by
  have hvb : ∀ B, v.ownBlock = some B → B < w1.heap.size := fun B hB => h.low B ⟨i, v, hv, hB⟩
  have hgb : ∀ B, gv.ownBlock = some B → w1.heap.size ≤ B ∧ B < y.heap.size := fun B hB => h.row.lt B hB
  have s1 := h.touch.size
  have s2 := hz.size
  have s3 := hg.size
  have hgt := Touch.grown hg
  have hall : Touch (Ug gv L i) y z' := (hz.mono fun k _ hk => .inr ⟨i, v, Nat.le_refl _, hv, hk⟩).trans (hgt.mono fun k _ hk => .inl hk.symm)
  have hsub : ∀ k, k < y.heap.size → Ug gv' L (i + 1) k → Ug gv L i k := fun k hk hu => by
    rcases hu with hu | ⟨j, u, hj, hu, hB⟩
    · rcases hl k hu with h1 | h1
      · exact .inl h1
      · omega
    · exact .inr ⟨j, u, by omega, hu, hB⟩
  have hnv : ∀ B, v.ownBlock = some B → ¬ Ug gv' L (i + 1) B := fun B hB hu => by
    have h0 := hvb B hB
    rcases hu with hu | ⟨j, u, hj, hu, hB'⟩
    · rcases hl B hu with h1 | h1
      · have := (hgb B h1).1; omega
      · omega
    · exact ha i j v u (by omega) hv hu B hB hB'
  have hng : ∀ B, g.ownBlock = some B → ¬ Ug gv' L (i + 1) B := fun B hB hu => by
    rcases hzl B hB with h1 | h1
    · exact hnv B h1 hu
    · rcases hu with hu | ⟨j, u, hj, hu, hB'⟩
      · rcases hl B hu with h2 | h2
        · have := (hgb B h2).2; omega
        · have := (hzg.lt B hB).2; omega
      · have := h.low B ⟨j, u, hu, hB'⟩; omega
  have kv : z'.ownsRow base e s v (ns i) (ml M i (ns i)) := hgt.row hzv fun k hk hk' => by have := hvb k hk; have := (hgb k hk'.symm).1; omega
  have kg : z'.ownsRow base e s g (ns i + 300) (ml M i (ns i + 300)) := hgt.row hzg fun k hk hk' => by
    rcases hzl k hk with h1 | h1
    · have := hvb k h1; have := (hgb k hk'.symm).1; omega
    · have := (hgb k hk'.symm).2; omega
  refine ⟨?_, hr, by rw [List.length_append, h.len]; rfl, fun j u hj hu => ?_, fun w' ht j u q hj hu hq => ?_, h.low⟩
  · refine (h.touch.trans (hz.mono fun k _ hk => ⟨i, v, hv, hk⟩)).then_ hgt fun k hk hk' => ?_
    have := (hgb k hk'.symm).1
    omega
  · refine hgt.row (hz.row (h.own j u (by omega) hu) fun k hk hk' => ha i j v u (by omega) hv hu k hk' hk) fun k hk hk' => ?_
    have := h.low k ⟨j, u, hu, hk⟩
    have := (hgb k hk'.symm).1
    omega
  · by_cases e1 : j < i
    · rw [List.getElem?_append_left (by rw [h.len]; exact e1)] at hq
      exact ((h.done.step hall hsub) w' ht) j u q e1 hu hq
    · have e2 : j = i := by omega
      subst e2
      rw [hv] at hu
      injection hu with hu
      rw [List.getElem?_append_right (by rw [h.len]; exact Nat.le_refl _), h.len, Nat.sub_self] at hq
      have hq' : g = q := by simpa using hq
      subst hu hq'
      exact ⟨ht.row kv hnv, ht.row kg hng⟩
/-- The row that grows, k marks further. -/
structure Gk (y z : World) (base : Nat) (e : TypeId) (s : Nat) (M : Nat → Nat → List Value) (i n : Nat) (v : Value) (k : Nat) (g : Value) : Prop where
  own : z.ownsRow base e s g (n + k) (ml M i (n + k))
  old : z.ownsRow base e s v n (ml M i n)
  touch : Touch (fun B => v.ownBlock = some B) y z
  lies : ∀ B, g.ownBlock = some B → v.ownBlock = some B ∨ y.heap.size ≤ B
theorem Gk.start {n : Nat} (h : y.ownsRow base e s v n (ml M i n)) : Gk y y base e s M i n v 0 v := ⟨h, h, Touch.refl _ _, fun _ hB => .inl hB⟩
theorem Gk.below {n k : Nat} (h : Gk y z base e s M i n v k g) (hb : Below z.heap.size z z') : Gk y z' base e s M i n v k g :=
  ⟨h.own.kept (grown_of_below hb none) (by cases g.ownBlock <;> simp), h.old.kept (grown_of_below hb none) (by cases v.ownBlock <;> simp), h.touch.trans (Touch.ofBelow hb), h.lies⟩
theorem Gk.next {n k : Nat} {g' : Value} (h : Gk y z base e s M i n v k g) (ho : z'.ownsRow base e s g' (n + k + 1) (ml M i (n + k) ++ M i (n + k))) (hg : z.grownBy z' g.ownBlock) (hl : Lies z g g') (hs : Stay e s (n + k) z z') : Gk y z' base e s M i n v (k + 1) g' := by
  have s1 := h.touch.size
  refine ⟨ho, hs _ _ _ _ (Nat.le_add_right _ _) h.old, h.touch.then_ (Touch.grown hg) fun B hB hB' => ?_, fun B hB => ?_⟩
  · rcases h.lies B hB'.symm with h1 | h1
    · exact h1
    · omega
  · rcases hl B hB with h1 | h1
    · exact h.lies B h1
    · exact .inr (by omega)
end
end
end Go.Proofs.Ytkpbeibcfaenhaa

/- ledgerlaw3.mark, marked. -/
namespace Go.Proofs.Ytkpbeibcfaenhaa
open Go.RowKit
def mkN (i k : Nat) : Nat := (37 * i + 11 * k + 91 * (i / 256) + 5 * (k / 256)) % 256
theorem mkN_lt (i k : Nat) : mkN i k < 256 := Nat.mod_lt _ (by omega)
set_option maxHeartbeats 800000 in
theorem mark_any (i k : Nat) (w : World) (hi : i ≤ 1073741824) (hk : k ≤ 2147483648) :
    Calls Try.prog 63 #[.int .i64 i, .int .i64 k] w fun e w' => e = .returned (.int .u8 (mkN i k : Nat)) ∧ w' = w := by
  go_enter Try.func63, Try.ntmps63
  go_wp2_with fail
  go_ret
  exact ⟨ret_int (by unfold mkN; omega), rfl⟩
def mks (i n : Nat) : List Nat := (List.range n).map (mkN i)
theorem mks_length (i n : Nat) : (mks i n).length = n := by simp [mks]
theorem mks_isB (i n : Nat) : IsB (mks i n) := fun x hx => by
  obtain ⟨k, _, rfl⟩ := List.mem_map.1 hx
  exact mkN_lt i k
theorem mks_get {i n k : Nat} (h : k < n) : (mks i n).getD k 0 = mkN i k := by simp [mks, List.getD, h]
/-- The mark as a row's cells. -/
def mB (i k : Nat) : List Value := [.int .u8 (mkN i k : Nat)]
theorem mB_length (i k : Nat) : (mB i k).length = 1 := rfl
theorem ml_mks (i n : Nat) : ml mB i n = bvs (mks i n) := by
  induction n with
  | zero => rfl
  | succ n ih =>
    rw [ml, ih]
    simp [mks, List.range_succ, bvs, mB, bv]
set_option maxRecDepth 100000 in
set_option maxHeartbeats 1600000 in
theorem marked_any (A : Option Addr) (N c : Nat) (ns : Nat → Nat) (w : World) (hL : ∀ i, i < N → ∃ g Ai ci, A = some ⟨g, 0, none⟩ ∧ w.cell? ⟨g, i, none⟩ = some (.slice Ai (ns i) ci) ∧ RB w Ai (ns i) (mks i (ns i))) (hn : N ≤ 1073741824) (hs : ∀ i, i < N → ns i ≤ 2147483648) :
    Calls Try.prog 64 #[.slice A N c] w fun e w' => e = .returned (.bool true) ∧ ∃ q, w' = w.drewN q := by
  have HL := Lib.hid hL
  have HS := Lib.hid hs
  clear hL hs
  go_enter Try.func64, Try.ntmps64
  go_wp2_with fail
  go_loopw [3] (fun i wr => ∃ j q : Nat, j ≤ N ∧ i = .int .i64 j ∧ wr = w.drewN q) (fun i _ => N - (intOf i).toNat)
  case atStart => exact ⟨0, 0, by omega, rfl, rfl⟩
  case round =>
    obtain ⟨j, q, hj, rfl, rfl⟩ := hrel
    by_cases hlt : j < N
    · have hlt' : (j : Int) < N := by omega
      obtain ⟨g, Ai, ci, rfl, r0, hr⟩ := HL.out j hlt
      have hnj := HS.out j hlt
      have HR := Lib.hid hr
      have R0 := Lib.hid r0
      obtain ⟨n, hn'⟩ : ∃ n, ns j = n := ⟨_, rfl⟩
      rw [hn'] at HR R0 hnj
      clear hr r0 hn'
      obtain ⟨w1, hw1⟩ : ∃ w1, w1 = w.drewN q := ⟨_, rfl⟩
      have HW1 := Lib.hid hw1
      rw [← hw1]
      clear hw1
      go_wp2_with fail
      go_loopw [4] (fun i wr => ∃ k p : Nat, k ≤ n ∧ i = .int .i64 k ∧ wr = w.drewN p) (fun i _ => n - (intOf i).toNat)
      case atStart => exact ⟨0, q, by omega, rfl, HW1.out⟩
      case round =>
        clear HW1
        obtain ⟨k, p, hk, rfl, rfl⟩ := hrel
        have c0 : (w.drewN p).cell? ⟨g, j, none⟩ = some (.slice Ai n ci) := R0.out
        by_cases hlk : k < n
        · have hlk' : (k : Int) < n := by omega
          obtain ⟨ad, rfl, hb, hc⟩ := HR.out.at_ hlk
          rw [mks_get hlk] at hc
          have HC := Lib.hid (fun q => (show (w.drewN q).cell? ⟨g, j, none⟩ = some (.slice (some ad) n ci) ∧ (w.drewN q).cell? (ad.add k) = some (.int .u8 (mkN j k : Nat)) from ⟨R0.out, hc⟩))
          have HM := Lib.hid (mark_any j k (w.drewN (p + 1)) (by omega) (by omega))
          clear hb hc
          generalize mkN j k = z at *
          go_wp2_with fail
          rename_i KK hKK
          have HKK := Lib.hid hKK
          clear hKK c0
          refine wp_region_held_drew (S := fun w' => w'.cell? ⟨g, j, none⟩ = some (.slice (some ad) n ci) ∧ w'.cell? (ad.add k) = some (.int .u8 (z : Nat))) (by kernel_rfl) (HC.out (p + 1)) fun hH => ?_
          refine wpAnyH_take (i := 0) (oi := ⟨some 20, _, _, _, _, _⟩) rfl (by kernel_rfl) (by kernel_rfl) (by kernel_rfl) (fun _ _ _ h => h) (Or.inl ⟨by rfl, fun w hw => by ((try dsimp only at hw); go_split_ands; go_simp; with_reducible rfl)⟩) (by assumption) ?_
          try simp only [Act.put, List.setIfInBounds_toArray, List.set_cons_zero, List.set_cons_succ]
          refine wpAnyH_take (i := 1) (oi := ⟨some 21, _, _, _, _, _⟩) rfl (by kernel_rfl) (by kernel_rfl) (by kernel_rfl) (fun _ _ _ h => h) (Or.inl ⟨by rfl, fun w hw => by ((try dsimp only at hw); go_split_ands; go_simp; with_reducible rfl)⟩) (by assumption) ?_
          try simp only [Act.put, List.setIfInBounds_toArray, List.set_cons_zero, List.set_cons_succ]
          refine wpAnyH_take (i := 2) (oi := ⟨some 22, _, _, _, _, _⟩) rfl (by kernel_rfl) (by kernel_rfl) (by kernel_rfl) (fun _ _ _ h => h) (Or.inl ⟨by rfl, fun w hw => by ((try dsimp only at hw); go_split_ands; go_simp; with_reducible rfl)⟩) (by assumption) ?_
          try simp only [Act.put, List.setIfInBounds_toArray, List.set_cons_zero, List.set_cons_succ]
          refine wpAnyH_take (i := 3) (oi := ⟨some 23, _, _, _, _, _⟩) rfl (by kernel_rfl) (by kernel_rfl) (by kernel_rfl) (fun _ _ _ h => h) (Or.inl ⟨by rfl, fun w hw => by ((try dsimp only at hw); go_split_ands; go_simp; with_reducible rfl)⟩) (by assumption) ?_
          try simp only [Act.put, List.setIfInBounds_toArray, List.set_cons_zero, List.set_cons_succ]
          refine wpAnyH_take (i := 4) (oi := ⟨some 24, _, _, _, _, _⟩) rfl (by kernel_rfl) (by kernel_rfl) (by kernel_rfl) (fun _ _ _ h => h) (Or.inl ⟨by rfl, fun w hw => by ((try dsimp only at hw); go_split_ands; go_simp; with_reducible rfl)⟩) (by assumption) ?_
          try simp only [Act.put, List.setIfInBounds_toArray, List.set_cons_zero, List.set_cons_succ]
          refine wpAnyH_take (i := 5) (oi := ⟨some 25, _, _, _, _, _⟩) rfl (by kernel_rfl) (by kernel_rfl) (by kernel_rfl) (fun _ _ _ h => h) (Or.inl ⟨by rfl, fun w hw => by ((try dsimp only at hw); go_split_ands; go_simp; with_reducible rfl)⟩) (by assumption) ?_
          try simp only [Act.put, List.setIfInBounds_toArray, List.set_cons_zero, List.set_cons_succ]
          refine wpAnyH_take (i := 6) (oi := ⟨some 26, _, _, _, _, _⟩) rfl (by kernel_rfl) (by kernel_rfl) (by kernel_rfl) (fun _ _ _ h => h) (Or.inl ⟨by rfl, fun w hw => by ((try dsimp only at hw); go_split_ands; go_simp; with_reducible rfl)⟩) (by assumption) ?_
          try simp only [Act.put, List.setIfInBounds_toArray, List.set_cons_zero, List.set_cons_succ]
          refine wpAnyH_take (i := 7) (oi := ⟨some 27, _, _, _, _, _⟩) rfl (by kernel_rfl) (by kernel_rfl) (by kernel_rfl) (fun _ _ _ h => h) (Or.inl ⟨by rfl, fun w hw => by ((try dsimp only at hw); go_split_ands; go_simp; with_reducible rfl)⟩) (by assumption) ?_
          try simp only [Act.put, List.setIfInBounds_toArray, List.set_cons_zero, List.set_cons_succ]
          refine wpAnyH_take (i := 8) (oi := ⟨some 28, _, _, _, _, _⟩) rfl (by kernel_rfl) (by kernel_rfl) (by kernel_rfl) (fun _ _ _ h => h) (Or.inl ⟨by rfl, fun w hw => by ((try dsimp only at hw); go_split_ands; go_simp; with_reducible rfl)⟩) (by assumption) ?_
          try simp only [Act.put, List.setIfInBounds_toArray, List.set_cons_zero, List.set_cons_succ]
          refine wpAnyH_ready (rs := [9]) (by kernel_rfl) (by simp) ?_
          refine AllReadyH.cons rfl (fun K hK => ?_) (AllReadyH.nil)
          go_simp
          refine HM.out.mono ?_
          rintro e w2 ⟨rfl, rfl⟩
          refine hK.out _ _ (HC.out (p + 1)) (fun hH2 => ?_)
          clear hK hH
          refine wpAnyH_take (i := 10) (oi := ⟨some 30, _, _, _, _, _⟩) rfl (by kernel_rfl) (by kernel_rfl) (by kernel_rfl) (fun _ _ _ h => h) (Or.inl ⟨by rfl, fun w hw => by ((try dsimp only at hw); go_split_ands; go_simp; with_reducible rfl)⟩) (by assumption) ?_
          try simp only [Act.put, List.setIfInBounds_toArray, List.set_cons_zero, List.set_cons_succ]
          refine wpAnyH_done (by kernel_rfl) ?_ _
          change KK _ _
          refine HKK.out _ _ ?_
          clear HKK KK hH2
          go_wp2_with fail
          go_roundw
          case rel => exact ⟨k + 1, p + 1, by omega, by go_num, rfl⟩
          case measure => simp [intOf]; omega
        · have hnlk : ¬ (k : Int) < n := by omega
          go_wp2_with fail
          go_roundw
          case rel => exact ⟨j + 1, p, by omega, by go_num, rfl⟩
          case measure => simp [intOf]; omega
    · have hnlt : ¬ (j : Int) < N := by omega
      go_wp2_with fail
      go_ret
      exact ⟨rfl, q, rfl⟩
end Go.Proofs.Ytkpbeibcfaenhaa

/- ledgerlaw3.keeper.apart. -/
namespace Go.Proofs.Ytkpbeibcfaenhaa
open Go.RowKit
theorem splice_one {α : Type} {cs : List α} {k : Nat} {u : α} (h : k < cs.length) : splice cs k [u] = cs.set k u := by
  unfold splice
  rw [List.set_eq_take_append_cons_drop, if_pos h]
  simp
theorem readyB {w : World} {base gb fo c : Nat} {A : Option Addr} {L : List Value} {ns : Nat → Nat} (hs : Spn w gb fo A c L) (ho : OwnAll w base 5 1 L ns fun j => ml mB j (ns j)) :
    ∀ i, i < L.length → ∃ g Ai ci, A = some ⟨g, 0, none⟩ ∧ w.cell? ⟨g, i, none⟩ = some (.slice Ai (ns i) ci) ∧ RB w Ai (ns i) (mks i (ns i)) := fun i hi => by
  obtain ⟨g, h1, _, _, h4⟩ := hs.at_ i hi
  have hv : L[i]? = some L[i] := List.getElem?_eq_getElem hi
  have h5 := ho i _ hv
  simp only [ml_mks] at h5
  have h6 : OwnU w base L[i] (mks i (ns i)) := ⟨by rw [mks_length]; exact h5, mks_isB _ _⟩
  obtain ⟨Ai, ci, e, hr, _⟩ := h6.form
  rw [mks_length] at e hr
  exact ⟨g, Ai, ci, h1, by rw [h4, hv, e], hr⟩
theorem readyG {w : World} {base M0 : Nat} {T : TypeId} {gv : Value} {L Gl : List Value} {ns : Nat → Nat} {N : Nat} (hN : L.length = N) (hG : Gl.length = N) (hr : w.ownsRow M0 T 1 gv Gl.length Gl)
    (hd : ∀ (j : Nat) (v u : Value), j < N → L[j]? = some v → Gl[j]? = some u → w.ownsRow base 5 1 v (ns j) (ml mB j (ns j)) ∧ w.ownsRow base 5 1 u (ns j + 300) (ml mB j (ns j + 300))) :
    ∃ A c, gv = .slice A N c ∧ ∀ i, i < N → ∃ g Ai ci, A = some ⟨g, 0, none⟩ ∧ w.cell? ⟨g, i, none⟩ = some (.slice Ai (ns i + 300) ci) ∧ RB w Ai (ns i + 300) (mks i (ns i + 300)) := by
  obtain ⟨A, c, e, _⟩ := rowV_form hr
  rw [hG] at e
  refine ⟨A, c, e, fun i hi => ?_⟩
  obtain ⟨g, c', e', _, h4⟩ := rowV_at hr (i := i) (by omega)
  have hv : L[i]? = some (L[i]'(by omega)) := List.getElem?_eq_getElem (by omega)
  have hu : Gl[i]? = some (Gl[i]'(by omega)) := List.getElem?_eq_getElem (by omega)
  have h5 := (hd i _ _ hi hv hu).2
  simp only [ml_mks] at h5
  have h6 : OwnU w base (Gl[i]'(by omega)) (mks i (ns i + 300)) := ⟨by rw [mks_length]; exact h5, mks_isB _ _⟩
  obtain ⟨Ai, ci, e6, hr6, _⟩ := h6.form
  rw [mks_length] at e6 hr6
  rw [e] at e'
  exact ⟨g, Ai, ci, (slice_inj e').1, by rw [h4, hu, e6], hr6⟩
theorem storeB {w : World} {base g n c j k : Nat} {cs : List Value} (h : w.ownsRow base 5 1 (.slice (some ⟨g, 0, none⟩) n c) n (mixed mB 1 j cs k)) (hk : k < n) :
    (∃ x, w.cell? ⟨g, k, none⟩ = some x) ∧ w.frozen? ⟨g, k, none⟩ = false ∧ (w.setCell ⟨g, k, none⟩ (.int .u8 (mkN j k : Nat))).ownsRow base 5 1 (.slice (some ⟨g, 0, none⟩) n c) n (mixed mB 1 j cs (k + 1)) ∧
      Touch (fun B => (Value.slice (some ⟨g, 0, none⟩) n c).ownBlock = some B) w (w.setCell ⟨g, k, none⟩ (.int .u8 (mkN j k : Nat))) := by
  have hl : (mixed mB 1 j cs k).length = n * 1 := h.1
  refine ⟨⟨_, (World.ownsRow.cellAt h k (by omega)).trans (List.getElem?_eq_getElem (by omega))⟩, World.ownsRow.frozenAt h k, ?_, ?_⟩
  · have h1 := (World.ownsRow.stored h k (.int .u8 (mkN j k : Nat))).1
    have h2 : splice (mixed mB 1 j cs k) (k * 1) (mB j k) = mixed mB 1 j cs (k + 1) := mixed_next mB_length
    rw [Nat.mul_one, show mB j k = [.int .u8 (mkN j k : Nat)] from rfl, splice_one (by omega)] at h2
    rwa [h2] at h1
  · exact (Touch.grown (grown_setCell w (g := g) k (.int .u8 (mkN j k : Nat)))).mono fun q _ hq => hq.symm
def ApPost (L : List Value) (w : World) (e : Ending) (w' : World) : Prop := e = .returned (.bool true) ∧ Touch (BlkOf L) w w'
set_option maxRecDepth 100000 in
set_option maxHeartbeats 4000000 in
theorem apartB_any (base gb c : Nat) (A : Option Addr) (L : List Value) (ns : Nat → Nat) (ct : Nat → List Value) (w : World) (hs : Spn w gb 0 A c L) (ho : OwnAll w base 5 1 L ns ct) (ha : AptAll L) (hn : L.length ≤ 1073741824) (hm : ∀ i, i < L.length → ns i ≤ 1073741824) (hb : base ≤ w.heap.size) :
    Calls Try.prog 55 #[.pointer (some ⟨gb, 0, none⟩)] w (ApPost L w) := by
  obtain ⟨N, hN⟩ : ∃ N, L.length = N := ⟨_, rfl⟩
  have HN := Lib.hid hN
  have HS := Lib.hid hs
  have HA := Lib.hid ha
  have HM : Hid (∀ i, i < N → ns i ≤ 1073741824) := by rw [← hN]; exact hm
  have HO0 : Hid (OwnAll w base 5 1 L ns (Fk mB 1 ns ct 0 0)) := Fk_start ho
  have HC : Hid (∀ i, i < N → (ct i).length = ns i * 1) := fun i hi => (ho i _ (List.getElem?_eq_getElem (by omega))).1
  have HR : Hid (∀ W, Touch (BlkOf L) w W → W.cell? ⟨gb, 0, none⟩ = some (.slice A N c)) := fun W hW => by rw [← hN]; exact (hs.touch hW).head
  rw [hN] at hn
  clear hs ho ha hm hN
  go_enter Try.func55, Try.ntmps55
  go_wp2_with fail
  go_loopw [3] (fun i wr => ∃ j : Nat, j ≤ N ∧ i = .int .i64 j ∧ Hid (OwnAll wr base 5 1 L ns (Fk mB 1 ns ct j 0)) ∧ Hid (Touch (BlkOf L) w wr)) (fun i _ => N - (intOf i).toNat)
  case atStart => exact ⟨0, by omega, rfl, HO0.out, Touch.refl _ _⟩
  case round =>
    clear HO0
    obtain ⟨j, hj, rfl, HO, HT⟩ := hrel
    obtain ⟨w1, rfl⟩ : ∃ w1, w1 = wr := ⟨_, rfl⟩
    have c0 := HR.out w1 HT.out
    by_cases hlt : j < N
    · have hlt' : (j : Int) < N := by omega
      have hjL : j < L.length := by rw [HN.out]; exact hlt
      obtain ⟨g0, rfl, hg0, hng0, hc0⟩ := HS.out.at_ j hjL
      obtain ⟨v, hv⟩ : ∃ v, L[j]? = some v := ⟨_, List.getElem?_eq_getElem hjL⟩
      have HV := Lib.hid hv
      obtain ⟨Av, cv, ev, _⟩ := rowV_form (Fk_row HO.out hv)
      have HEV := Lib.hid ev
      have HCt := Lib.hid (HC.out j hlt)
      have hnj := HM.out j hlt
      obtain ⟨n, hn'⟩ : ∃ n, ns j = n := ⟨_, rfl⟩
      have HNJ := Lib.hid hn'
      rw [hn'] at HEV HCt hnj
      rw [hv, HEV.out] at hc0
      have HR0 : Hid (∀ W, Touch (BlkOf L) w W → W.cell? ⟨g0, j, none⟩ = some (.slice Av n cv)) := fun W hW => (hW.cell (p := ⟨g0, j, none⟩) hg0 hng0).trans hc0
      have HNE : Hid (∀ W, Touch (BlkOf L) w W → ∀ u, (Value.slice Av n cv).ownBlock = some u → u ≠ gb ∧ u ≠ g0) := fun W hW u hu => ⟨fun e => HS.out.ng (by rw [← e]; exact ⟨j, v, hv, by rw [HEV.out]; exact hu⟩), fun e => hng0 (by rw [← e]; exact ⟨j, v, hv, by rw [HEV.out]; exact hu⟩)⟩
      clear hv ev hn' hc0 hjL hng0 hg0
      go_wp2_with fail
      go_loopw [4] (fun i wr => ∃ k : Nat, k ≤ n ∧ i = .int .i64 k ∧ Hid (OwnAll wr base 5 1 L ns (Fk mB 1 ns ct j k)) ∧ Hid (Touch (BlkOf L) w wr)) (fun i _ => n - (intOf i).toNat)
      case atStart => exact ⟨0, by omega, rfl, HO.out, HT.out⟩
      case round =>
        clear HO HT c0
        obtain ⟨k, hk, rfl, HO, HT⟩ := hrel
        obtain ⟨w2, rfl⟩ : ∃ w2, w2 = wr := ⟨_, rfl⟩
        have c0 := HR.out w2 HT.out
        have r0 := HR0.out w2 HT.out
        by_cases hlk : k < n
        · have hlk' : (k : Int) < n := by omega
          have hrow := Fk_row HO.out HV.out
          rw [HNJ.out, HEV.out] at hrow
          obtain ⟨gi, rfl⟩ : ∃ gi, Av = some ⟨gi, 0, none⟩ := by
            rcases hrow.2 with ⟨_, h0⟩ | ⟨g, _, _, e1, _⟩
            · omega
            · exact ⟨g, by injection e1⟩
          have HD2 : Hid (OwnAll w2.drew base 5 1 L ns (Fk mB 1 ns ct j k)) := HO.out
          have HT2 : Hid (Touch (BlkOf L) w w2.drew) := HT.out.trans (Touch.ofBelow (drewN_below (Below.refl _ _) 1))
          have hrow2 : w2.drew.ownsRow base 5 1 (.slice (some ⟨gi, 0, none⟩) n cv) n (mixed mB 1 j (ct j) k) := hrow
          have HST := Lib.hid (storeB hrow2 hlk)
          have c02 : w2.drew.cell? ⟨gb, 0, none⟩ = some (.slice (some ⟨g0, 0, none⟩) N c) := c0
          have r02 : w2.drew.cell? ⟨g0, j, none⟩ = some (.slice (some ⟨gi, 0, none⟩) n cv) := r0
          clear hrow hrow2 HO HT
          go_wp2_with fail
          rename_i KK hKK
          have HKK := Lib.hid hKK
          clear hKK c0 r0
          refine wp_region_upTo (S := fun w' => w'.cell? ⟨gb, 0, none⟩ = some (.slice (some ⟨g0, 0, none⟩) N c) ∧ w'.cell? ⟨g0, j, none⟩ = some (.slice (some ⟨gi, 0, none⟩) n cv)) 12 (by kernel_rfl) ⟨c02, r02⟩ fun hH => ?_
          generalize w2.drew = w3 at *
          refine wpAnyU_take (i := 0) (oi := ⟨some 30, _, _, _, _, _⟩) [1, 2, 3, 5, 6, 11, 12] rfl (by kernel_rfl) (by kernel_rfl) (by kernel_rfl) (fun _ _ _ h => h) (by kernel_rfl) (by kernel_rfl) (by kernel_rfl) (Or.inl ⟨by rfl, fun w hw => by ((try dsimp only at hw); go_split_ands; go_simp; with_reducible rfl)⟩) (by assumption) ?_
          try simp only [Act.put, List.setIfInBounds_toArray, List.set_cons_zero, List.set_cons_succ]
          refine wpAnyU_take (i := 1) (oi := ⟨some 31, _, _, _, _, _⟩) [2, 3, 5, 6, 11, 12] rfl (by kernel_rfl) (by kernel_rfl) (by kernel_rfl) (fun _ _ _ h => h) (by kernel_rfl) (by kernel_rfl) (by kernel_rfl) (Or.inl ⟨by rfl, fun w hw => by ((try dsimp only at hw); go_split_ands; go_simp; with_reducible rfl)⟩) (by assumption) ?_
          try simp only [Act.put, List.setIfInBounds_toArray, List.set_cons_zero, List.set_cons_succ]
          refine wpAnyU_take (i := 2) (oi := ⟨some 32, _, _, _, _, _⟩) [3, 5, 6, 11, 12] rfl (by kernel_rfl) (by kernel_rfl) (by kernel_rfl) (fun _ _ _ h => h) (by kernel_rfl) (by kernel_rfl) (by kernel_rfl) (Or.inl ⟨by rfl, fun w hw => by ((try dsimp only at hw); go_split_ands; go_simp; with_reducible rfl)⟩) (by assumption) ?_
          try simp only [Act.put, List.setIfInBounds_toArray, List.set_cons_zero, List.set_cons_succ]
          refine wpAnyU_take (i := 3) (oi := ⟨some 33, _, _, _, _, _⟩) [5, 6, 11, 12] rfl (by kernel_rfl) (by kernel_rfl) (by kernel_rfl) (fun _ _ _ h => h) (by kernel_rfl) (by kernel_rfl) (by kernel_rfl) (Or.inl ⟨by rfl, fun w hw => by ((try dsimp only at hw); go_split_ands; go_simp; with_reducible rfl)⟩) (by assumption) ?_
          try simp only [Act.put, List.setIfInBounds_toArray, List.set_cons_zero, List.set_cons_succ]
          refine wpAnyU_take (i := 4) (oi := ⟨some 34, _, _, _, _, _⟩) [5, 6, 11, 12] rfl (by kernel_rfl) (by kernel_rfl) (by kernel_rfl) (fun _ _ _ h => h) (by kernel_rfl) (by kernel_rfl) (by kernel_rfl) (Or.inl ⟨by rfl, fun w hw => by ((try dsimp only at hw); go_split_ands; go_simp; with_reducible rfl)⟩) (by assumption) ?_
          try simp only [Act.put, List.setIfInBounds_toArray, List.set_cons_zero, List.set_cons_succ]
          refine wpAnyU_take (i := 5) (oi := ⟨some 35, _, _, _, _, _⟩) [6, 11, 12] rfl (by kernel_rfl) (by kernel_rfl) (by kernel_rfl) (fun _ _ _ h => h) (by kernel_rfl) (by kernel_rfl) (by kernel_rfl) (Or.inl ⟨by rfl, fun w hw => by ((try dsimp only at hw); go_split_ands; go_simp; with_reducible rfl)⟩) (by assumption) ?_
          try simp only [Act.put, List.setIfInBounds_toArray, List.set_cons_zero, List.set_cons_succ]
          refine wpAnyU_take (i := 6) (oi := ⟨some 36, _, _, _, _, _⟩) [11, 12] rfl (by kernel_rfl) (by kernel_rfl) (by kernel_rfl) (fun _ _ _ h => h) (by kernel_rfl) (by kernel_rfl) (by kernel_rfl) (Or.inl ⟨by rfl, fun w hw => by ((try dsimp only at hw); go_split_ands; go_simp; with_reducible rfl)⟩) (by assumption) ?_
          try simp only [Act.put, List.setIfInBounds_toArray, List.set_cons_zero, List.set_cons_succ]
          refine wpAnyU_take (i := 7) (oi := ⟨some 37, _, _, _, _, _⟩) [11, 12] rfl (by kernel_rfl) (by kernel_rfl) (by kernel_rfl) (fun _ _ _ h => h) (by kernel_rfl) (by kernel_rfl) (by kernel_rfl) (Or.inl ⟨by rfl, fun w hw => by ((try dsimp only at hw); go_split_ands; go_simp; with_reducible rfl)⟩) (by assumption) ?_
          try simp only [Act.put, List.setIfInBounds_toArray, List.set_cons_zero, List.set_cons_succ]
          refine wpAnyU_take (i := 8) (oi := ⟨some 38, _, _, _, _, _⟩) [10, 11, 12] rfl (by kernel_rfl) (by kernel_rfl) (by kernel_rfl) (fun _ _ _ h => h) (by kernel_rfl) (by kernel_rfl) (by kernel_rfl) (Or.inl ⟨by rfl, fun w hw => by ((try dsimp only at hw); go_split_ands; go_simp; with_reducible rfl)⟩) (by assumption) ?_
          try simp only [Act.put, List.setIfInBounds_toArray, List.set_cons_zero, List.set_cons_succ]
          refine wpAnyU_take (i := 9) (oi := ⟨some 39, _, _, _, _, _⟩) [10, 11, 12] rfl (by kernel_rfl) (by kernel_rfl) (by kernel_rfl) (fun _ _ _ h => h) (by kernel_rfl) (by kernel_rfl) (by kernel_rfl) (Or.inl ⟨by rfl, fun w hw => by ((try dsimp only at hw); go_split_ands; go_simp; with_reducible rfl)⟩) (by assumption) ?_
          try simp only [Act.put, List.setIfInBounds_toArray, List.set_cons_zero, List.set_cons_succ]
          refine wpAnyU_one (i := 10) (by kernel_rfl) rfl (fun K hK => ?_)
          go_simp
          refine (mark_any j k w3 (by omega) (by omega)).mono ?_
          rintro e w4 ⟨rfl, rfl⟩
          refine hK.out _ _ (fun _ => ⟨c02, r02⟩) ?_
          clear hK
          refine wpAnyU_take (i := 11) (oi := ⟨some 41, _, _, _, _, _⟩) [12] rfl (by kernel_rfl) (by kernel_rfl) (by kernel_rfl) (fun _ _ _ h => h) (by kernel_rfl) (by kernel_rfl) (by kernel_rfl) (Or.inl ⟨by rfl, fun w hw => by ((try dsimp only at hw); go_split_ands; go_simp; with_reducible rfl)⟩) (by assumption) ?_
          try simp only [Act.put, List.setIfInBounds_toArray, List.set_cons_zero, List.set_cons_succ]
          obtain ⟨⟨x, bx⟩, fx, _⟩ := HST.out
          have HST2 := Lib.hid HST.out.2.2
          clear HST
          refine wpAnyU_one (i := 12) (by kernel_rfl) rfl (fun K hK => ?_)
          go_simp
          refine hK.out _ _ (fun h => by cases h) ?_
          refine wpAnyU_done (by kernel_rfl) ?_ _
          clear hK bx fx hH c02 r02
          change KK _ _
          refine HKK.out _ _ ?_
          clear HKK KK
          have HO5 : Hid (OwnAll (w4.setCell ⟨gi, k, none⟩ (.int .u8 (mkN j k : Nat))) base 5 1 L ns (Fk mB 1 ns ct j (k + 1))) := Fk_step HD2.out HA.out HV.out (by rw [HEV.out]; exact HST2.out.2) (by rw [HNJ.out, HEV.out]; exact HST2.out.1)
          have HT5 : Hid (Touch (BlkOf L) w (w4.setCell ⟨gi, k, none⟩ (.int .u8 (mkN j k : Nat)))) := HT2.out.trans (HST2.out.2.mono fun B _ hB => ⟨j, v, HV.out, by rw [HEV.out]; exact hB⟩)
          clear HST2 HD2 HT2
          generalize w4.setCell ⟨gi, k, none⟩ (.int .u8 (mkN j k : Nat)) = w5 at *
          go_wp2_with fail
          go_roundw
          case rel => exact ⟨k + 1, by omega, by go_num, HO5.out, HT5.out⟩
          case measure => simp [intOf]; omega
        · have hnlk : ¬ (k : Int) < n := by omega
          have HO5 : Hid (OwnAll w2 base 5 1 L ns (Fk mB 1 ns ct (j + 1) 0)) := Fk_next (by rw [HNJ.out]; have h := HO.out; rwa [show k = n by omega] at h) (by rw [HNJ.out]; exact HCt.out)
          go_wp2_with fail
          go_roundw
          case rel => exact ⟨j + 1, by omega, by go_num, HO5.out, HT.out⟩
          case measure => simp [intOf]; omega
    · have hnlt : ¬ (j : Int) < N := by omega
      obtain rfl : j = N := by omega
      have HW : Hid (OwnAll w1 base 5 1 L ns fun i => ml mB i (ns i)) := fun i v hv => by
        have h := HO.out i v hv
        have hi := (List.getElem?_eq_some_iff.1 hv).1
        unfold Fk at h
        rwa [if_pos (by have := HN.out; omega)] at h
      have HS1 := Lib.hid (HS.out.touch HT.out)
      clear HO HC
      have HRd := Lib.hid (readyB HS1.out HW.out)
      rw [HN.out] at HRd
      go_wp2_with fail
      refine (marked_any A j c ns w1 HRd.out hn (fun i hi => by have := HM.out i hi; omega)).mono ?_
      rintro e w2 ⟨rfl, q, hq⟩
      have HB2 : Hid (Below w1.heap.size w1 w2) := by rw [hq]; exact drewN_below (Below.refl _ _) q
      have HT2 : Hid (Touch (BlkOf L) w w2) := HT.out.trans (Touch.ofBelow HB2.out)
      have HS2 := Lib.hid (HS.out.touch HT2.out)
      have HG0 : Hid (Gs w2 w2 base 5 1 mB 31 L ns 0 (.slice none 0 0) []) := Gs.start fun i v hv => (HW.out i v hv).kept (grown_of_below HB2.out none) (by cases v.ownBlock <;> simp)
      clear hq HB2 HS1 HW HRd c0 HT
      go_wp2_with fail
      go_loopw [5, 6] (fun gv i wr => ∃ (m : Nat) (Gl : List Value) (Ag : Option Addr) (cg : Nat), m ≤ j ∧ i = .int .i64 m ∧ gv = .slice Ag m cg ∧ Hid (Gs w2 wr base 5 1 mB 31 L ns m (.slice Ag m cg) Gl)) (fun _ i _ => j - (intOf i).toNat)
      case atStart => exact ⟨0, [], none, 0, by omega, rfl, rfl, HG0.out⟩
      case round =>
        clear HG0
        obtain ⟨m, Gl, Ag, cg, hm, rfl, rfl, HG⟩ := hrel
        obtain ⟨y, rfl⟩ : ∃ y, y = wr := ⟨_, rfl⟩
        have HTy : Hid (Touch (BlkOf L) w y) := HT2.out.trans HG.out.touch
        have c0 := HR.out y HTy.out
        by_cases hlm : m < j
        · have hlm' : (m : Int) < j := by omega
          have hmL : m < L.length := by rw [HN.out]; exact hlm
          obtain ⟨g0, rfl, hg0, hng0, hc0⟩ := (HS.out.touch HTy.out).at_ m hmL
          obtain ⟨v, hv⟩ : ∃ v, L[m]? = some v := ⟨_, List.getElem?_eq_getElem hmL⟩
          have HV := Lib.hid hv
          obtain ⟨Av, cv, ev, _⟩ := rowV_form (HG.out.own m v (Nat.le_refl _) hv)
          have HK0 := Lib.hid (Gk.start (HG.out.own m v (Nat.le_refl _) hv))
          have HEV := Lib.hid ev
          have hnj := HM.out m hlm
          rw [hv, ev] at hc0
          rw [ev] at HK0 HV
          obtain ⟨n, hn'⟩ : ∃ n, ns m = n := ⟨_, rfl⟩
          have HNJ := Lib.hid hn'
          rw [hn'] at HK0 hnj hc0 HV
          clear hv ev hn' hmL hng0 hg0 HEV v
          have hby : base ≤ y.heap.size := Nat.le_trans hb HTy.out.size
          go_wp2_with fail
          go_loopw [7, 8] (fun g kk wr => ∃ (k : Nat) (Ak : Option Addr) (ck : Nat), k ≤ 300 ∧ kk = .int .i64 k ∧ g = .slice Ak (n + k) ck ∧ Hid (Gk y wr base 5 1 mB m n (.slice Av n cv) k (.slice Ak (n + k) ck))) (fun _ kk _ => 300 - (intOf kk).toNat)
          case atStart => exact ⟨0, Av, cv, by omega, rfl, rfl, HK0.out⟩
          case round =>
            clear HK0 hc0 c0
            obtain ⟨k, Ak, ck, hk, rfl, rfl, HK⟩ := hrel
            obtain ⟨z, rfl⟩ : ∃ z, z = wr := ⟨_, rfl⟩
            have hbz : base ≤ z.heap.size := Nat.le_trans hby HK.out.touch.size
            obtain ⟨p, hp⟩ : ∃ p, n + k = p := ⟨_, rfl⟩
            have HPK := Lib.hid hp
            have hp2 : p ≤ 1073742124 := by omega
            rw [hp]
            have hown := HK.out.own
            rw [hp] at hown
            have HOW := Lib.hid hown
            clear hp hown
            by_cases hlk : k < 300
            · have hlk' : (k : Int) < 300 := by omega
              go_wp2_with fail
              refine (mark_any m p z (by omega) (by omega)).mono ?_
              rintro e z1 ⟨rfl, rfl⟩
              go_wp2_with ((with_reducible refine stopAt (o := ⟨some 74, _, _, _, _, _⟩) ?_); refine appendS (o := ⟨some 74, _, _, _, _, _⟩) und_bytes info_byte rfl (by decide) z1 rfl (.tmp 68) (.tmp 73) rfl base _ p _ HOW.out (mB m p) _ rfl rfl (fun u hu => by rw [List.mem_singleton.1 hu]; rfl) rfl rfl (by omega) (by omega) hbz ?_; intro g' z2 ho2 hg2 hl2 hs2; obtain ⟨Ak', ck', eg', _⟩ := rowV_form ho2; have HK2 := Lib.hid (show _ ∧ _ ∧ _ ∧ _ from ⟨ho2, hg2, hl2, hs2⟩); clear ho2 hg2 hl2 hs2; subst eg')
              have HKn : Hid (Gk y z2 base 5 1 mB m n (.slice Av n cv) (k + 1) (.slice Ak' (p + 1) ck')) := by
                have e1 := HPK.out
                subst e1
                exact HK.out.next HK2.out.1 HK2.out.2.1 HK2.out.2.2.1 HK2.out.2.2.2
              have hpe : p + 1 = n + (k + 1) := by have := HPK.out; omega
              rw [hpe] at HKn
              clear HK2 HK HOW
              go_roundw
              case rel => exact ⟨k + 1, Ak', ck', by omega, by go_num, by rw [hpe], HKn.out⟩
              case measure => simp [intOf]; omega
            · have hnlk : ¬ (k : Int) < 300 := by omega
              obtain rfl : k = 300 := by omega
              have HKe : Hid (Gk y z base 5 1 mB m n (.slice Av n cv) 300 (.slice Ak p ck)) := by
                have h := HK.out
                rwa [HPK.out] at h
              have hrowz : z.ownsRow w2.heap.size 31 1 (.slice Ag m cg) Gl.length Gl := HKe.out.touch.row HG.out.row fun B hB hB' => by
                have h1 := (HG.out.row.lt B hB).1
                have h2 := HG.out.low B ⟨m, _, HV.out, hB'⟩
                omega
              have HRZ := Lib.hid hrowz
              have hgl : Gl.length ≤ 1073741824 := by rw [HG.out.len]; omega
              have hbz2 : w2.heap.size ≤ z.heap.size := Nat.le_trans HG.out.touch.size HKe.out.touch.size
              have hgl2 : (Gl ++ [Value.slice Ak p ck]).length = m + 1 := by rw [List.length_append, HG.out.len]; rfl
              have HGL2 := Lib.hid hgl2
              clear hrowz HK HOW hgl2
              go_wp2_with ((with_reducible refine stopAt (o := ⟨some 78, _, _, _, _, _⟩) ?_); refine appendV (o := ⟨some 78, _, _, _, _, _⟩) und_rows info_bytes z rfl (.tmp 75) (.tmp 77) rfl w2.heap.size _ Gl HRZ.out _ rfl rfl rfl hgl hbz2 ?_; intro gv' z2 hr2 hg2 hl2; obtain ⟨Ag', cg', eg', _⟩ := rowV_form hr2; rw [HGL2.out] at eg'; subst eg'; have HK2 := Lib.hid (show _ ∧ _ ∧ _ from ⟨hr2, hg2, hl2⟩); clear hr2 hg2 hl2)
              have HGn := Lib.hid (HG.out.next HA.out HV.out HKe.out.touch (by rw [HNJ.out]; exact HKe.out.old) (by rw [HNJ.out, HPK.out]; exact (HPK.out ▸ HKe.out.own)) HKe.out.lies HK2.out.1 HK2.out.2.1 HK2.out.2.2)
              clear HK2 HG HKe HRZ
              go_roundw
              case rel => exact ⟨m + 1, _, Ag', cg', by omega, by go_num, rfl, HGn.out⟩
              case measure => simp [intOf]; omega
        · have hnlm : ¬ (m : Int) < j := by omega
          obtain rfl : m = j := by omega
          have HSy := Lib.hid (HS.out.touch HTy.out)
          have hdn := HG.out.done.now
          have HRd := Lib.hid (readyB (base := base) HSy.out (ns := ns) (fun i v hv => by
            have hi := (List.getElem?_eq_some_iff.1 hv).1
            have hi2 : i < Gl.length := by rw [HG.out.len]; have := HN.out; omega
            exact (hdn i v _ (by have := HN.out; omega) hv (List.getElem?_eq_getElem hi2)).1))
          rw [HN.out] at HRd
          obtain ⟨Ag', cg', eg', hrg⟩ := readyG HN.out HG.out.len HG.out.row hdn
          obtain ⟨e1, _, e3⟩ := slice_inj eg'
          subst e1 e3
          have HRg := Lib.hid hrg
          clear hdn hrg eg' HG HSy
          go_wp2_with fail
          refine (marked_any A m c ns y HRd.out hn (fun i hi => by have := HM.out i hi; omega)).mono ?_
          rintro e w3 ⟨rfl, q, hq⟩
          have HB3 : Hid (Below y.heap.size y w3) := by rw [hq]; exact drewN_below (Below.refl _ _) q
          have HT3 : Hid (Touch (BlkOf L) w w3) := HTy.out.trans (Touch.ofBelow HB3.out)
          have HRg3 : Hid (∀ i, i < m → ∃ g Ai ci, Ag = some ⟨g, 0, none⟩ ∧ w3.cell? ⟨g, i, none⟩ = some (.slice Ai (ns i + 300) ci) ∧ RB w3 Ai (ns i + 300) (mks i (ns i + 300))) := by rw [hq]; exact HRg.out
          clear hq HB3 HRg HRd c0
          go_wp2_with fail
          refine (marked_any Ag m cg (fun i => ns i + 300) w3 HRg3.out hn (fun i hi => by have := HM.out i hi; show ns i + 300 ≤ _; omega)).mono ?_
          rintro e w4 ⟨rfl, q, hq⟩
          have HT4 : Hid (Touch (BlkOf L) w w4) := HT3.out.trans (Touch.ofBelow (by rw [hq]; exact drewN_below (Below.refl _ _) q))
          clear hq
          go_wp2_with fail
          go_ret
          exact ⟨rfl, HT4.out⟩
end Go.Proofs.Ytkpbeibcfaenhaa
