/- Lists of one mark that grow out of one another. No program is named here. -/
import Derived.Test.YtbjbpgbpefkbhaaDoorApp
namespace Go.Proofs.YtbjbpgbpefkbhaaDoor
open Go.RowKit
/-- n marks. -/
def mk (n m : Nat) : List Nat := List.replicate n m
theorem mk_length (n m : Nat) : (mk n m).length = n := by simp [mk]
theorem mk_isB {n m : Nat} (h : m < 256) : IsB (mk n m) := fun x hx => by
  have := List.eq_of_mem_replicate hx
  omega
theorem mk_app (n j m : Nat) : mk n m ++ mk j m = mk (n + j) m := by simp [mk, List.replicate_append_replicate]
theorem mk_bvs (n m : Nat) : bvs (mk n m) = List.replicate n (bv m) := by simp [bvs, mk]
/-- What is full of the mark m stays so. -/
def Full (m : Nat) (e : TypeId) (w w' : World) : Prop := ∀ (base : Nat) (u : Value) (k : Nat), Own e w base u (mk k m) → Own e w' base u (mk k m)
theorem Full.refl (m : Nat) (e : TypeId) (w : World) : Full m e w w := fun _ _ _ h => h
theorem Full.trans {m : Nat} {e : TypeId} {a b c : World} (h : Full m e a b) (k : Full m e b c) : Full m e a c := fun base u n hu => k base u n (h base u n hu)
theorem Full.below {m : Nat} {e : TypeId} {w w' : World} (h : Below w.heap.size w w') : Full m e w w' := fun _ _ _ hu => hu.below h
theorem below_drew_alloc (w : World) (o : Obj) : Below w.heap.size w (w.drew.alloc o) := ((Below.refl w.heap.size w).drew).alloc (Nat.le_refl _) o
theorem take_mark {cur : List Value} {k n j : Nat} {v : Value} (h : cur.take k = List.replicate k v) (hn : cur.take n = List.replicate n v) :
    (cur.take n ++ (List.replicate j v ++ cur.drop (n + j))).take k = List.replicate k v := by
  apply List.ext_getElem?
  intro i
  rw [List.getElem?_take, List.getElem?_replicate]
  split
  · rename_i hi
    rw [hn]
    by_cases h1 : i < n
    · rw [List.getElem?_append_left (by simpa using h1), List.getElem?_replicate, if_pos h1]
    · rw [List.getElem?_append_right (by simpa using h1), List.length_replicate]
      by_cases h2 : i - n < j
      · rw [List.getElem?_append_left (by simpa using h2), List.getElem?_replicate, if_pos h2]
      · rw [List.getElem?_append_right (by simpa using h2), List.length_replicate, List.getElem?_drop]
        have h3 : (cur.take k)[i]? = some v := by rw [h, List.getElem?_replicate, if_pos hi]
        rw [List.getElem?_take, if_pos hi] at h3
        rw [show n + j + (i - n - j) = i by omega]
        exact h3
  · rfl
/-- A row written by marks: what was full of it stays so. -/
theorem full_setRow {m : Nat} {e : TypeId} {w : World} {g n j cap : Nat} {cur : Array Value} (hg : w.heap[g]? = some (.cells cur e (0, 0))) (hn : cur.toList.take n = List.replicate n (bv m)) (hs : cur.size = cap) (hj : n + j ≤ cap) :
    Full m e w (w.setRow g (cur.toList.take n ++ List.replicate j (bv m) ++ cur.toList.drop (n + j)).toArray) := by
  intro base u k hu
  refine ⟨⟨hu.1.1, ?_⟩, hu.2⟩
  rcases hu.1.2 with h | ⟨g', cap', cur', rfl, h1, h2, h3, h4, h5, h6⟩
  · exact .inl h
  · refine .inr ?_
    by_cases hgg : g' = g
    · subst hgg
      rw [hg] at h2
      injection h2 with h2
      injection h2 with h2
      subst h2
      refine ⟨g', cap', _, rfl, h1, setRow_heap w g' cur _ e _ hg, h3, h4, ?_, ?_⟩
      · simp only [List.size_toArray, List.length_append, List.length_take, List.length_drop, List.length_replicate, Array.length_toList]
        omega
      · rw [mk_length, mk_bvs, Nat.mul_one] at *
        rw [List.append_assoc]
        exact take_mark h6 hn
    · exact ⟨g', cap', cur', rfl, h1, (setRow_other w g g' _ hgg).trans h2, h3, h4, h5, h6⟩
section
variable {P : Program}
/-- 'append(l, m, ..)': j marks behind n of them. -/
theorem appendMark {t e : TypeId} (ht : P.underlying t = some (.slice e)) (hinfo : (P.info? e).map (fun i => (i.zero, i.size, i.bytes)) = some (some (.int .u8 0), 1, 1))
    {ops : Array Oper} {rest : List Oper} {o : Oper} {a : Act} {Q : Exit → Act → World → Prop} (w : World) (hgd : o.guard = none) (s x : Operand)
    (ho : o.op = .call { callee := .builtin .append, args := #[s, x], argTypes := #[t, t] })
    (base : Nat) (v : Value) (n m j : Nat) (hown : Own e w base v (mk n m)) (hm : m < 256) (cs : Array Value) (hcs : cs = (bvs (mk j m)).toArray) (hs : a.eval s = v) (hx : a.eval x = .slice (some ⟨w.heap.size, 0, none⟩) j j)
    (hj : 0 < j) (hlen : n + j ≤ 140737488355328) (hbase : base ≤ w.heap.size)
    (h : ∀ v' w', Own e w' base v' (mk (n + j) m) → w.grownBy w' v.ownBlock → Lies w v v' → Full m e w w' → wpList P ops Q rest (a.put o.dst v') w') :
    wpList P ops Q (o :: rest) a (w.alloc (.cells cs e)) := by
  obtain ⟨i, hi, hz0, hz1, hz2⟩ := info_parts hinfo
  subst hcs
  refine wpList_plain hgd fun K hK => ?_
  have hW : Below w.heap.size w (w.alloc (.cells (bvs (mk j m)).toArray e)) := (Below.refl _ _).alloc (Nat.le_refl _) _
  have hown1 : (w.alloc (.cells (bvs (mk j m)).toArray e)).ownsRow base e 1 v n (bvs (mk n m)) := by
    have h1 := (hown.below hW).1
    rwa [mk_length] at h1
  have hnews : ∀ (q : Nat) (u : Value), (bvs (mk j m))[q]? = some u → (w.alloc (.cells (bvs (mk j m)).toArray e)).cell? ((⟨w.heap.size, 0, none⟩ : Addr).add q) = some u := fun q u hq => by
    rw [add_lit, Nat.zero_add, BlkIs.cell (BlkIs.new w e (bvs (mk j m)).toArray), List.getElem?_toArray]
    exact hq
  have hl : (bvs (mk j m)).length = j * 1 := by simp [bvs, mk]
  have h1c : ∀ u ∈ bvs (mk j m), u.oneCell' = true := bvs_oneCell _
  have hb63 : n + j ≤ maxLen := by unfold maxLen; omega
  obtain ⟨v', w', hr, q1, q2, _, q4⟩ := run_append_own_at (P := P) (w.alloc (.cells (bvs (mk j m)).toArray e)) base t o.type e i (.int .u8 0) 1 1 ht hi hz0 hz1 hz2 rfl (by decide) v n _ hown1 ⟨w.heap.size, 0, none⟩ j j _ hl hnews h1c hb63 (by omega) (by simp; omega)
  have hfull : Full m e (w.alloc (.cells (bvs (mk j m)).toArray e)) w' := by
    rcases hown1.2 with ⟨rfl, rfl⟩ | ⟨g, cap, cur, rfl, hbg, hg, hnc, hcm, hsz, htk⟩
    · have hr2 := run_append_nil (P := P) (w.alloc (.cells (bvs (mk j m)).toArray e)) t o.type e i (.int .u8 0) ht hi hz0 ⟨w.heap.size, 0, none⟩ j j _ (by rw [hz1]; exact hl) hnews hj (by omega) (by rw [hz2]; omega)
      rw [hr] at hr2
      injection hr2 with _ hw
      rw [hw]
      exact Full.below (below_drew_alloc _ _)
    · by_cases hroom : n + j ≤ cap
      · have hr2 := run_append_room (P := P) (w.alloc (.cells (bvs (mk j m)).toArray e)) t o.type e i ht hi g n cap cur hg ⟨w.heap.size, 0, none⟩ j j _ (by rw [hz1]; exact hl) hnews h1c hroom (by rw [hz1, hl]; omega)
        rw [hr] at hr2
        injection hr2 with _ hw
        rw [hw, hz1, hl, mk_bvs, Nat.mul_one, Nat.mul_one]
        rw [mk_bvs, Nat.mul_one] at htk
        rw [mk_bvs] at hg
        exact full_setRow hg htk (by omega) hroom
      · have holds : ∀ (q : Nat) (u : Value), (bvs (mk n m))[q]? = some u → (w.alloc (.cells (bvs (mk j m)).toArray e)).cell? ((⟨g, 0, none⟩ : Addr).add q) = some u := hown1.cells (g := g) rfl
        have hr2 := run_append_grow (P := P) (w.alloc (.cells (bvs (mk j m)).toArray e)) t o.type e i (.int .u8 0) ht hi hz0 ⟨g, 0, none⟩ n cap _ (by rw [hz1]; exact hown1.1) holds ⟨w.heap.size, 0, none⟩ j j _ (by rw [hz1]; exact hl) hnews (by omega) (by omega) (growslice_fits (by omega) (by rw [hz2]; omega))
        rw [hr] at hr2
        injection hr2 with _ hw
        rw [hw]
        exact Full.below (below_drew_alloc _ _)
  unfold Oper.wp execOp
  simp only [ho, resolve, invoke, builtin, Sem.run_bind, Sem.run_pure, Result.andThen_ok, List.map_toArray, List.map_cons, List.map_nil, hs, hx, hr]
  refine hK _ _ (h v' w' ⟨?_, mk_isB hm⟩ (grown_trans (World.grownBy_alloc _ _ _) q2) ?_ (Full.trans (Full.below hW) hfull))
  · rw [mk_length]
    have q3 : bvs (mk n m) ++ bvs (mk j m) = bvs (mk (n + j) m) := by rw [← mk_app, bvs, bvs, bvs, List.map_append]
    rwa [q3] at q1
  · intro k hk
    rcases q4 with q4 | q4
    · rw [q4] at hk
      exact .inl hk
    · rw [q4] at hk
      injection hk with hk
      simp at hk
      exact .inr (by omega)
end
end Go.Proofs.YtbjbpgbpefkbhaaDoor
