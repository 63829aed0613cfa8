/- digest.Hasher.Write. -/
import Derived.Test.YtfnlhfaihoojfaaDoorStep
import Derived.Test.YtfnlhfaihoojfaaDoorArr
namespace Go.Proofs.YtfnlhfaihoojfaaDoor
open Go.RowKit
/-- The hasher at g has taken the text xs. -/
def HashIs (w : World) (g : Nat) (xs : List Nat) : Prop :=
  ∃ rest, IsB rest ∧ IsB xs ∧ rest.take (xs.length % 64) = xs.drop (64 * (xs.length / 64)) ∧ HBlk w g (stAt xs (xs.length / 64)).list rest (xs.length % 64) (xs.length % 18446744073709551616)
theorem HashIs.keep {w w' : World} {g : Nat} {xs : List Nat} (H : HashIs w g xs) (hb : w'.heap[g]? = w.heap[g]?) : HashIs w' g xs := by
  obtain ⟨r, h1, h2, h3, h4⟩ := H
  exact ⟨r, h1, h2, h3, h4.keep hb⟩
theorem HashIs.lt {w : World} {g : Nat} {xs : List Nat} (H : HashIs w g xs) : g < w.heap.size := by
  obtain ⟨r, h1, h2, h3, h4⟩ := H
  exact h4.lt
theorem HashIs.isB {w : World} {g : Nat} {xs : List Nat} (H : HashIs w g xs) : IsB xs := by
  obtain ⟨r, h1, h2, h3, h4⟩ := H
  exact h2
theorem HashIs.below {w w' : World} {g : Nat} {xs : List Nat} (H : HashIs w g xs) (hb : Below w.heap.size w w') : HashIs w' g xs := H.keep (hb.block g H.lt)
theorem HashIs.belowB {B : Nat} {w w' : World} {g : Nat} {xs : List Nat} (H : HashIs w g xs) (hb : Below B w w') (hg : g < B) : HashIs w' g xs := H.keep (hb.block g hg)
theorem HashIs.grown {w w' : World} {g : Nat} {xs : List Nat} {row : Option Nat} (H : HashIs w g xs) (hb : w.grownBy w' row) (hg : some g ≠ row) : HashIs w' g xs := H.keep (hb.block g H.lt hg)
theorem RB.grownBy {w w' : World} {A : Option Addr} {n : Nat} {xs : List Nat} {row : Option Nat} (h : RB w A n xs) (hg : w.grownBy w' row) (hA : 0 < n → ∀ ad, A = some ad → some ad.block ≠ row) : RB w' A n xs := by
  refine ⟨h.1, h.2.1, fun hn => ?_⟩
  obtain ⟨ad, e, hb, hc⟩ := h.2.2 hn
  refine ⟨ad, e, Nat.lt_of_lt_of_le hb hg.size, fun j x hj => ?_⟩
  rw [World.cell?_of_block (w := w) (a := ad.add j) (by rw [block_add]; exact hg.block _ hb (hA hn ad e))]
  exact hc j x hj
theorem grown_setRow {w : World} {g : Nat} (cs : Array Value) : w.grownBy (w.setRow g cs) (some g) :=
  ⟨rfl, rfl, rfl, by simp [World.setRow], fun k _ hne => setRow_other w g k cs (fun e => hne (by rw [e]))⟩
theorem hcells_splice (L rest : List Nat) (h t o : Nat) (xs : List Nat) (hL : L.length = 8) (hr : rest.length = 64) (hfit : o + xs.length ≤ 64) :
    (hcells L rest h t).take (8 + o) ++ (bvs xs ++ (hcells L rest h t).drop (8 + o + xs.length)) = hcells L (splice rest o xs) h t := by
  have hu : (uvs L).length = 8 := by rw [uvs_length, hL]
  have hb : (bvs rest).length = 64 := by simp [bvs, hr]
  unfold hcells splice
  rw [show 8 + o + xs.length = (uvs L).length + (o + xs.length) by omega, show 8 + o = (uvs L).length + o by omega, List.take_length_add_append, List.drop_length_add_append,
    List.take_append_of_le_length (by omega), List.drop_append_of_le_length (by omega)]
  simp [bvs, List.map_take, List.map_drop, List.append_assoc]
/-- 'copy(h.rest[o:], p)'. -/
theorem copyH {P : Program} {w : World} {ops : Array Oper} {rst : List Oper} {op : Oper} {a : Act} {Q : Exit → Act → World → Prop} (hgd : op.guard = none) (d s : Operand) (dT sT : TypeId)
    (ho : op.op = .call { callee := .builtin .copy, args := #[d, s], argTypes := #[dT, sT] }) (elem : TypeId) (hu : P.underlying dT = some (.slice elem)) (hsz : (P.info? elem).map (·.size) = some 1)
    (sp : Option Addr) (g o q dLen dCap sLen sCap : Nat) (hd : a.eval d = .slice (some ⟨g, q, none⟩) dLen dCap) (hs : a.eval s = .slice sp sLen sCap) (hq : q = 8 + o)
    (L rest : List Nat) (h t : Nat) (H : HBlk w g L rest h t) (m : Nat) (xs : List Nat) (hx : RB w sp m xs) (hm : m = Nat.min sLen dLen) (hfit : o + m ≤ 64)
    (k : ∀ w', Hid (HBlk w' g L (splice rest o xs) h t) → w.grownBy w' (some g) → wpList P ops Q rst (a.put op.dst (goInt m)) w') : wpList P ops Q (op :: rst) a w := by
  subst hq
  have hl : (bvs xs).length = m := by simp [bvs, hx.1]
  have hsp : (splice rest o xs).length = 64 := by rw [length_splice _ _ _ (by rw [hx.1, H.2.2]; omega), H.2.2]
  by_cases h0 : m = 0
  · subst h0
    obtain rfl : xs = [] := List.eq_nil_of_length_eq_zero hx.1
    refine wpList_copy_nothing hgd d s dT sT ho elem hu hsz _ sp dLen dCap sLen sCap hd hs hm.symm ?_
    refine k w ?_ (World.grownBy.refl w _)
    rw [splice_nil]
    exact H
  · obtain ⟨ad, rfl, _, hc⟩ := hx.2.2 (by omega)
    refine wpList_copy_own hgd d s dT sT ho elem hu hsz g (8 + o) dLen dCap ad sLen sCap hd hs _ _ H.1 (bvs xs) (by rw [hl]; exact hm) ?_ ?_ (bvs_oneCell xs) ?_
    · intro j v hj
      simp only [bvs, List.getElem?_map, Option.map_eq_some_iff] at hj
      obtain ⟨y, hy, rfl⟩ := hj
      exact hc j y hy
    · rw [hl]
      simp only [hcells, List.size_toArray, List.length_append, uvs_length, H.2.1, bvs, List.length_map, H.2.2]
      simp; omega
    · rw [hl]
      refine k _ ⟨?_, H.2.1, hsp⟩ (grown_setRow _)
      have e := hcells_splice L rest h t o xs H.2.1 H.2.2 (by rw [hx.1]; exact hfit)
      show (w.setRow g _).heap[g]? = _
      rw [setRow_heap _ _ _ _ _ _ H.1, List.toList_toArray, ← hx.1, e]
/-- A part of a slice. -/
theorem sliced_form {B B' : Option Addr} {m d k : Nat} (hB : B' = if d = k then B else B.map (·.add k)) (hmd : m ≤ d) : (k < m → B' = B.map (·.add k)) ∧ ∀ ad, B' = some ad → ∃ ad', B = some ad' ∧ ad'.block = ad.block := by
  subst hB
  refine ⟨fun h => if_neg (by omega), fun ad h => ?_⟩
  split at h
  · exact ⟨ad, h, rfl⟩
  · rcases B with _ | b
    · cases h
    · injection h with h
      exact ⟨b, rfl, by rw [← h, block_add]⟩
theorem sliced64 {B B' : Option Addr} {m d : Nat} (hB : B' = if d = 64 then B else B.map (fun x => (⟨x.block, x.off + 64, none⟩ : Addr))) (hmd : m ≤ d) : (64 < m → B' = B.map (·.add 64)) ∧ ∀ ad, B' = some ad → ∃ ad', B = some ad' ∧ ad'.block = ad.block :=
  sliced_form (m := m) (d := d) (k := 64) (hB.trans (by congr 1)) hmd
theorem splice_front (rest xs : List Nat) : (splice rest 0 xs).take xs.length = xs := by
  unfold splice
  rw [List.take_zero, List.nil_append, List.take_left' rfl]
theorem splice_isB {rest xs : List Nat} (o : Nat) (h : IsB rest) (k : IsB xs) : IsB (splice rest o xs) := (h.take _).app (k.app (h.drop _))
theorem und_bytes : Tryd.prog.underlying 22 = some (.slice 5) := by kernel_rfl
def lenOf : Value → Nat
  | .slice _ n _ => n
  | _ => 0
def WritePost (g : Nat) (xs ys : List Nat) (w w' : World) : Prop := HashIs w' g (xs ++ ys) ∧ w.grownBy w' (some g)
theorem step_call (T : List Nat) (q g : Nat) (A : Option Addr) (c : Nat) (rest : List Nat) (h t : Nat) (w : World) (hx : RB w A 64 ((T.drop (64 * q)).take 64)) (hh : HBlk w g (stAt T q).list rest h t) (hk : TabU w 2 kL) (hne : g ≠ 2) :
    Calls Tryd.prog 63 #[.pointer (some ⟨g, 0, none⟩), .slice A 64 c] w fun e w' => e = .returned (.tuple #[]) ∧ HBlk w' g (stAt T (q + 1)).list rest h t ∧ w.grownBy w' (some g) :=
  step_any g A c _ rest (stAt T q) h t w hx hh (stAt_ok T q) hk hne
set_option maxRecDepth 100000 in
set_option maxHeartbeats 4000000 in
theorem write_zero (g : Nat) (A : Option Addr) (n c : Nat) (xs ys rest : List Nat) (w : World) (hy : RB w A n ys) (hnc : n ≤ c) (hn : n ≤ 140737488355328) (hA : 0 < n → ∀ ad, A = some ad → ad.block ≠ g)
    (hX : IsB xs) (hR : IsB rest) (h0 : xs.length % 64 = 0) (hh : HBlk w g (stAt xs (xs.length / 64)).list rest 0 (xs.length % 18446744073709551616)) (hk : TabU w 2 kL) (hne : g ≠ 2) :
    Calls Tryd.prog 40 #[.pointer (some ⟨g, 0, none⟩), .slice A n c] w fun e w' => e = .returned (.tuple #[]) ∧ WritePost g xs ys w w' := by
  have HY := Lib.hid hy
  have HA := Lib.hid hA
  have HH := Lib.hid hh
  have HK := Lib.hid hk
  have HNE := Lib.hid hne
  have H0 := Lib.hid h0
  have HXB := Lib.hid hX
  have HRB := Lib.hid hR
  have kt := hh.taken
  have ft := hh.frozen 73
  have kh := (hh.setTaken ((xs.length + n) % 18446744073709551616)).have_
  have HYB := Lib.hid hy.isB
  clear hy hA hh hk hne h0 hX hR
  have hc : IntKind.u64.wrap (((xs.length % 18446744073709551616 : Nat) : Int) + (n : Int)) = (((xs.length + n) % 18446744073709551616 : Nat) : Int) := by
    simp [IntKind.wrap, IntKind.bits, IntKind.signed]
  generalize xs.length % 18446744073709551616 = tk at *
  have HTN0 : Hid ((xs.length + n) % 18446744073709551616 = (xs ++ ys).length % 18446744073709551616) := by
    show _ = _
    rw [List.length_append, HY.out.1]
  generalize (xs.length + n) % 18446744073709551616 = tn at *
  go_enter Tryd.func40, Tryd.ntmps40
  go_wp2_with fail
  obtain ⟨T, HT⟩ : ∃ T, Hid (T = xs ++ ys) := ⟨_, rfl⟩
  obtain ⟨A1, rfl⟩ : ∃ A1, A1 = A := ⟨_, rfl⟩
  obtain ⟨n1, rfl⟩ : ∃ n1, n1 = n := ⟨_, rfl⟩
  obtain ⟨c1, rfl⟩ : ∃ c1, c1 = c := ⟨_, rfl⟩
  obtain ⟨q1, HQ⟩ : ∃ q1, Hid (q1 = xs.length / 64) := ⟨_, rfl⟩
  obtain ⟨rest1, rfl⟩ : ∃ rest1, rest1 = rest := ⟨_, rfl⟩
  have HRB1 := HRB
  have HL : Hid (64 * q1 = xs.length) := by
    have h1 := HQ.out
    have h2 := H0.out
    show _ = _
    omega
  have HQ1 : Hid (64 * q1 + n1 = T.length) := by
    show _ = _
    rw [HT.out, List.length_append, HL.out, HY.out.1]
  have HG1 : Hid (w.grownBy (w.setCell ⟨g, 73, none⟩ (.int .u64 (tn : Int))) (some g)) := grown_setCell w (g := g) 73 _
  have HH1 : Hid (HBlk (w.setCell ⟨g, 73, none⟩ (.int .u64 (tn : Int))) g (stAt T q1).list rest1 0 tn) := by
    have h1 := HH.out.setTaken tn
    rw [HT.out, stAt_app _ _ _ (by rw [HL.out]; exact Nat.le_refl _), HQ.out]
    exact h1
  have HA1 := HA
  have HTN : Hid (T.length % 18446744073709551616 = tn) := by
    show _ = _
    rw [HT.out]
    exact HTN0.out.symm
  have HY1 : Hid (RB (w.setCell ⟨g, 73, none⟩ (.int .u64 (tn : Int))) A1 n1 (T.drop (64 * q1))) := by
    have h1 := HY.out.grownBy HG1.out (fun hp ad e h => HA.out hp ad e (by injection h))
    rw [HT.out, HL.out, List.drop_left]
    exact h1
  have HK1 : Hid (TabU (w.setCell ⟨g, 73, none⟩ (.int .u64 (tn : Int))) 2 kL) := HK.out.grown HG1.out (fun h => HNE.out (by injection h with h; exact h.symm))
  obtain ⟨hn1c, hn1⟩ : n1 ≤ c1 ∧ n1 ≤ 140737488355328 := ⟨hnc, hn⟩
  clear HH HA HY HK kt ft kh hc hnc hn
  generalize w.setCell ⟨g, 73, none⟩ (.int .u64 (tn : Int)) = w1 at *
  go_loopw [1] (fun u wr => ∃ (B : Option Addr) (m d q : Nat), u = .slice B m d ∧ m ≤ d ∧ m ≤ 140737488355328 ∧ Hid (64 * q + m = T.length) ∧ Hid (RB wr B m (T.drop (64 * q))) ∧ Hid (0 < m → ∀ ad, B = some ad → ad.block ≠ g) ∧ Hid (HBlk wr g (stAt T q).list rest1 0 tn) ∧ Hid (TabU wr 2 kL) ∧ Hid (w.grownBy wr (some g))) (fun u _ => lenOf u)
  case atStart => exact ⟨A1, n1, c1, q1, rfl, hn1c, hn1, HQ1.out, HY1.out, HA1.out, HH1.out, HK1.out, HG1.out⟩
  case round =>
    clear HQ1 HY1 HA1 HH1 HK1 HG1
    obtain ⟨B, m, d, q, rfl, hmd, hm, HQ, HY, HA, HH, HK, HG⟩ := hrel
    obtain ⟨w2, rfl⟩ : ∃ w2, w2 = wr := ⟨_, rfl⟩
    by_cases hge : 64 ≤ m
    · have HXB := Lib.hid (HY.out.take (k := 64) hge)
      have hQl := HQ.out
      obtain ⟨B2, HB2⟩ : ∃ B2, Hid (B2 = if d = 64 then B else B.map (fun x => (⟨x.block, x.off + 64, none⟩ : Addr))) := ⟨_, rfl⟩
      have HF := Lib.hid (sliced64 HB2.out hmd)
      go_wp2_with (first | (go_at_call 63; ((refine (step_call T q g _ _ rest1 0 tn _ HXB.out HH.out HK.out HNE.out).mono ?_); rintro e w3 ⟨rfl, hh3, hg3⟩; have HH3 := Lib.hid hh3; have HG3 := Lib.hid hg3; clear hh3 hg3)))
      rw [← HB2.out]
      have HY3 : Hid (RB w3 B2 (m - 64) (T.drop (64 * (q + 1)))) := by
        have h1 := (HY.out.grownBy HG3.out (fun hp ad e h => HA.out hp ad e (by injection h))).drop (k := 64) (B := B2) hge HF.out.1
        rw [List.drop_drop] at h1
        exact h1
      have HA3 : Hid (0 < m - 64 → ∀ ad, B2 = some ad → ad.block ≠ g) := fun hp ad e => by
        obtain ⟨ad', e', h'⟩ := HF.out.2 ad e
        rw [← h']
        exact HA.out (by omega) ad' e'
      have HK3 : Hid (TabU w3 2 kL) := HK.out.grown HG3.out (fun h => HNE.out (by injection h with h; exact h.symm))
      have HGn : Hid (w.grownBy w3 (some g)) := grown_trans HG.out HG3.out
      go_roundw
      case rel => exact ⟨B2, m - 64, d - 64, q + 1, rfl, by omega, by omega, by show _ = _; omega, HY3.out, HA3.out, HH3.out, HK3.out, HGn.out⟩
      case measure => simp [lenOf]; omega
    · have hQl := HQ.out
      have HM : Hid (T.length / 64 = q ∧ T.length % 64 = m) := by
        show _ ∧ _
        omega
      have hf := HH.out.frozen 72
      have hc72 : ∀ (w3 : World) (rr : List Nat), Hid (HBlk w3 g (stAt T q).list rr 0 tn) → w3.cell? ⟨g, 72, none⟩ = some (.int .i64 0) := fun w3 rr h => h.out.have_
      have hf72 : ∀ (w3 : World) (rr : List Nat), Hid (HBlk w3 g (stAt T q).list rr 0 tn) → w3.frozen? ⟨g, 72, none⟩ = false := fun w3 rr h => h.out.frozen 72
      have HC72 := Lib.hid hc72
      have HF72 := Lib.hid hf72
      clear hc72 hf72 hQl hf
      go_wp2_with (first
        | (refine copyH (op := ⟨some 70, _, _, _, _, _⟩) (by rfl) (.tmp 68) (.tmp 69) 22 22 rfl 5 und_bytes byte_size B g 0 8 64 64 m d rfl rfl rfl (stAt T q).list rest1 0 tn HH.out m (T.drop (64 * q)) HY.out (Nat.min_eq_left (by omega)).symm (by omega) ?_; intro w3 HH3 hg3; have HG3 := Lib.hid hg3; have c72 := HC72.out w3 _ HH3; have f72 := HF72.out w3 _ HH3; clear hg3 HC72 HF72))
      have HEnd : Hid (WritePost g xs ys w (w3.setCell ⟨g, 72, none⟩ (.int .i64 (m : Int)))) := by
        have hl : (T.drop (64 * q)).length = m := HY.out.1
        refine ⟨⟨splice rest1 0 (T.drop (64 * q)), splice_isB 0 HRB1.out HY.out.2.1, ?_, ?_, ?_⟩, grown_trans (grown_trans HG.out HG3.out) (grown_setCell w3 (g := g) 72 _)⟩
        · exact HXB.out.app HYB.out
        · rw [← HT.out, HM.out.1, HM.out.2, ← hl]
          exact splice_front _ _
        · rw [← HT.out, HM.out.1, HM.out.2, HTN.out]
          exact HH3.out.setHave m
      go_end0
      exact ⟨rfl, HEnd.out⟩
end Go.Proofs.YtfnlhfaihoojfaaDoor
