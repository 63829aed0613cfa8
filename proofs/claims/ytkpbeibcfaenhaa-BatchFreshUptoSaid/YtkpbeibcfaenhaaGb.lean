/- Chg, CopyB, SameB, ChOwn, BuildC, CopyC (merged by merge_k.py) -/
import Derived.Test.YtkpbeibcfaenhaaGa
import Derived.Test.YtkpbeibcfaenhaaOpen
import Derived.Test.YtkpbeibcfaenhaaOpenArr
import Derived.Deep.Slices
import Derived.ChangeSame
import Derived.SizedLaws
import Derived.Test.YtkpbeibcfaenhaaCrc
import Derived.Test.YtkpbeibcfaenhaaChecked
import Derived.Test.YtkpbeibcfaenhaaLib2
import Derived.Deep.QuietTactic
import Derived.BigQuiet
import Derived.Test.YtkpbeibcfaenhaaKeys
import Derived.Laws.OwnMore
import Derived.Deep.RegionHeld3
import Derived.Laws.Tables
/- Lists of changes that came in. -/
namespace Go.Proofs.Ytkpbeibcfaenhaa
open Go.ChangeShapes Go.WideShapes Go.RowKit
structure Chg where
  key : List Nat
  del : Bool
  val : List Nat
instance : Inhabited Chg := ⟨⟨[], false, []⟩⟩
/-- The cells of a change whose value lies at A. -/
def chC (x : Chg) (A : Option Addr) (C : Nat) : List Value := bvs x.key ++ [.bool x.del, .slice A x.val.length C]
/-- The list at P holds N changes. -/
def ChsAt (w : World) (P : Option Addr) (N : Nat) (X : Nat → Chg) : Prop :=
  N ≤ maxLen ∧ ∀ k, k < N → ∃ b o A C, P = some ⟨b, o, none⟩ ∧ b < w.heap.size ∧ w.rangeAt b (o + k * 34) (chC (X k) A C) ∧ IsB (X k).key ∧ (X k).key.length = 32 ∧
    RB w A (X k).val.length (X k).val ∧ (X k).val.length ≤ C ∧ C ≤ maxLen ∧ (A = none → C = 0)
theorem range_below {w w' : World} {b o : Nat} {cs : List Value} (hb : Below w.heap.size w w') (h1 : b < w.heap.size) (h : w.rangeAt b o cs) : w'.rangeAt b o cs := fun j v hj => (hb.cell (p := ⟨b, o + j, none⟩) h1).trans (h j v hj)
theorem ChsAt.below {w w' : World} {P : Option Addr} {N : Nat} {X : Nat → Chg} (h : ChsAt w P N X) (hb : Below w.heap.size w w') : ChsAt w' P N X := ⟨h.1, fun k hk => by
  obtain ⟨b, o, A, C, h1, h2, h3, h4, h5, h6, h7⟩ := h.2 k hk
  exact ⟨b, o, A, C, h1, Nat.lt_of_lt_of_le h2 hb.size, range_below hb h2 h3, h4, h5, h6.below hb, h7⟩⟩
theorem plain_addr {w : World} {ad : Addr} {v : Value} (h : w.cell? ad = some v) : ∃ b o, ad = ⟨b, o, none⟩ := by
  obtain ⟨b, o, s⟩ := ad
  cases s with
  | none => exact ⟨b, o, rfl⟩
  | some z =>
    simp [World.cell?] at h
    split at h <;> simp at h
/-- The rows of a list of structs lie at a plain address. -/
theorem rows_plain {w : World} {ad : Addr} {cs : List Value} {n : Nat} (h0 : 0 < n) (hl : cs.length = n) (h : ∀ i, i < n → w.cell? ((ad.add 0).add i) = cs[i]?) : ∃ b o, ad = ⟨b, o, none⟩ := by
  have h5 := h 0 h0
  rw [List.getElem?_eq_getElem (by omega), show ad.add 0 = ad by simp [Addr.add], show ad.add 0 = ad by simp [Addr.add]] at h5
  exact plain_addr h5
section
variable {H : Type} {enc : TypeId × Value → H} {P : Program} {w : World} {base : Nat} {held : Bool}
theorem arr_of {spare : Nat → Bool} {n fuel : Nat} {t e : TypeId} {cs : List Value} {x : DataW H × List MemPlace} (ht : P.underlying t = some (.array n e)) (he : P.underlying e = some (.int .u8)) (hc : P.cellsOf e = 1) (hll : cs.length = n)
    (hf : DataW.trod enc P w base spare held fuel t cs = some x) : ∃ ds : List Nat, cs = bvs ds ∧ IsB ds ∧ ds.length = n := by
  obtain ⟨xs, m, _, hx, _, hlen, hg⟩ := DataW.trod_array ht hf
  obtain ⟨ds, rfl, hB⟩ := bvs_of cs fun v hv => by
    obtain ⟨i, hi, rfl⟩ := List.getElem_of_mem hv
    have g := hg i (by omega)
    rw [hc, Nat.mul_one, List.getElem?_eq_getElem (by omega)] at g
    obtain ⟨a, e0, q0, wa⟩ := DataW.trod_int he g
    have e1 : ((cs.drop i).take 1)[0]? = some (.int .u8 a) := by rw [e0]; rfl
    rw [List.getElem?_take, if_pos (by omega), List.getElem?_drop] at e1
    rw [Nat.add_zero, List.getElem?_eq_getElem hi] at e1
    exact ⟨a, Option.some.inj e1, wa⟩
  exact ⟨ds, rfl, hB, by simpa [bvs] using hll⟩
theorem weights_all {P : Program} {e : TypeId} {d : DataW H} : ∀ {l : List (DataW H)}, d ∈ l → ∀ y ∈ d.weights P e, y ∈ DataW.weightsAll P e l
  | [], h, _, _ => by cases h
  | a :: r, h, y, hy => by
    simp only [DataW.weightsAll, List.mem_append]
    rcases List.mem_cons.1 h with rfl | h
    · exact .inl hy
    · exact .inr (weights_all h y hy)
/-- Each weight of the datum is at most M. -/
def SizedBy (P : Program) (t : TypeId) (d : DataW H) (M : Nat) : Prop := ∀ y ∈ d.weights P t, y ≤ M
theorem bytes_of {t q : TypeId} {fuel : Nat} {cs : List Value} {x : DataW H × List MemPlace} (ht : P.underlying t = some (.slice q)) (hq : P.underlying q = some (.int .u8)) (cq : P.cellsOf q = 1) (h : DataW.trod enc P w base (fun _ => true) held fuel t cs = some x) :
    ∃ A C xs, cs = [.slice A xs.length C] ∧ RB w A xs.length xs ∧ xs.length ≤ C ∧ C ≤ maxLen ∧ (A = none → C = 0) ∧ ∀ M, SizedBy P t x.1 M → xs.length * P.bytesOf q ≤ M := by
  have row : ∃ A L C, cs = [.slice A L C] ∧ (∃ zs, IsRow .u8 w A L C zs) ∧ ∀ M, SizedBy P t x.1 M → L * P.bytesOf q ≤ M := by
    rcases open_ints ht hq cq h with ⟨hcs, hxx⟩ | ⟨a, l, c, zs, hcs, _, hl, hm, hz, hxx, hcell, hwz⟩
    · exact ⟨none, 0, 0, hcs, ⟨[], .inl ⟨rfl, rfl, rfl, rfl⟩⟩, fun M _ => by omega⟩
    · refine ⟨some a, l, c, hcs, ⟨zs, .inr ⟨a, rfl, hl, hm, by simpa using hz, hcell, hwz⟩⟩, fun M hM => ?_⟩
      have h1 := hM (((zs.take l).length + (zs.drop l).length) * P.bytesOf q) (by rw [hxx]; simp [DataW.weights, ht, lits])
      simp only [if_true] at hz
      refine Nat.le_trans (Nat.mul_le_mul_right _ ?_) h1
      rw [List.length_take, List.length_drop]
      omega
  obtain ⟨A, L, C, hcs, ⟨zs, hzs⟩, hsz⟩ := row
  obtain ⟨xs, r1, r2, r3, r4⟩ := rb_of_row hzs
  obtain rfl : xs.length = L := r1.1
  exact ⟨A, C, xs, hcs, r1, r3, r4, r2, hsz⟩
theorem bool_of {t : TypeId} {fuel : Nat} {cs : List Value} {x : DataW H × List MemPlace} {spare : Nat → Bool} (ht : P.underlying t = some .bool) (h : DataW.trod enc P w base spare held fuel t cs = some x) : ∃ b, cs = [.bool b] := by
  cases fuel with
  | zero => simp [DataW.trod] at h
  | succ n =>
    unfold DataW.trod at h
    rw [ht] at h
    split at h <;> simp_all
/-- A list of changes, opened. -/
theorem chs_of {t e q : TypeId} {fuel : Nat} {cs : List Value} {x : DataW H × List MemPlace} {fs : Array Field} {f0 f1 f2 : Field} {tb : TypeId} (ht : P.underlying t = some (.slice e)) (he : P.underlying e = some (.struct fs))
    (h0 : fs[0]? = some f0) (h1 : fs[1]? = some f1) (h2 : fs[2]? = some f2) (o0 : f0.offset = 0) (o1 : f1.offset = 32) (o2 : f2.offset = 33) (k0 : P.cellsOf f0.type = 32) (k1 : P.cellsOf f1.type = 1) (k2 : P.cellsOf f2.type = 1)
    (u0 : P.underlying f0.type = some (.array 32 tb)) (u1 : P.underlying f1.type = some .bool) (u2 : P.underlying f2.type = some (.slice q)) (hb : P.underlying tb = some (.int .u8)) (cb : P.cellsOf tb = 1) (hq : P.underlying q = some (.int .u8))
    (ce : P.cellsOf e = 34) (cq : P.cellsOf q = 1) (hf : DataW.trod enc P w base (fun _ => true) held fuel t cs = some x) : ∃ A N C X, cs = [.slice A N C] ∧ ChsAt w A N X ∧ N ≤ C ∧ C ≤ maxLen ∧ (A = none → C = 0) ∧ ∀ M, SizedBy P t x.1 M → N * P.bytesOf e ≤ M ∧ ∀ k, k < N → (X k).val.length * P.bytesOf q ≤ M := by
  rcases Deep.open_slice ht hf with ⟨hcs, _⟩ | ⟨ad, len, cap, m, n, D, Pl, hcs, _, hl, hm, hmm, hx, hrow⟩
  · exact ⟨none, 0, 0, fun _ => ⟨[], false, []⟩, hcs, ⟨by omega, fun k hk => by omega⟩, Nat.le_refl _, by simp [maxLen], fun _ => rfl, fun M _ => ⟨by omega, fun k hk => by omega⟩⟩
  · simp only [if_true] at hmm
    subst hmm
    rw [ce] at hrow
    rcases Nat.eq_zero_or_pos len with hz0 | hpos
    · subst hz0
      exact ⟨some ad, 0, m, fun _ => ⟨[], false, []⟩, hcs, ⟨by omega, fun k hk => by omega⟩, hl, hm, (fun h => by cases h), fun M _ => ⟨by omega, fun k hk => by omega⟩⟩
    obtain ⟨b, o, eb⟩ : ∃ b o, ad = ⟨b, o, none⟩ := by
      obtain ⟨cs, g1, g2⟩ := hrow 0 (by omega)
      obtain ⟨_, g3, g4⟩ := World.cells?_some g1
      rw [show (0 : Nat) * 34 = 0 from rfl] at g4
      exact rows_plain (by omega) g3 g4
    subst eb
    have each : ∀ k, k < len → ∃ y : Chg, ∃ b' o' A C, (some ⟨b, o, none⟩ : Option Addr) = some ⟨b', o', none⟩ ∧ b' < w.heap.size ∧ w.rangeAt b' (o' + k * 34) (chC y A C) ∧ IsB y.key ∧ y.key.length = 32 ∧
        RB w A y.val.length y.val ∧ y.val.length ≤ C ∧ C ≤ maxLen ∧ (A = none → C = 0) ∧ ∀ M, SizedBy P e (D k) M → y.val.length * P.bytesOf q ≤ M := fun k hk => by
      obtain ⟨cs, g1, g2⟩ := hrow k (by omega)
      obtain ⟨_, g3, g4⟩ := World.cells?_some g1
      obtain ⟨xs, n', _, hDk, _, hxl, hg⟩ := DataW.trod_struct he g2
      have hfs : 2 < fs.size := (Array.getElem?_eq_some_iff.1 h2).1
      have e0 := hg 0 f0 h0
      have e1 := hg 1 f1 h1
      have e2 := hg 2 f2 h2
      rw [o0, k0, List.getElem?_eq_getElem (by omega)] at e0
      rw [o1, k1, List.getElem?_eq_getElem (by omega)] at e1
      rw [o2, k2, List.getElem?_eq_getElem (by omega)] at e2
      obtain ⟨ds, q0, hB, hdl⟩ := arr_of u0 hb cb (by rw [List.length_take, List.length_drop]; omega) e0
      obtain ⟨bl, q1⟩ := bool_of u1 e1
      obtain ⟨A, C, vs, q2, r1, r2, r3, r4, r5⟩ := bytes_of u2 hq cq e2
      have hszk : ∀ M, SizedBy P e (D k) M → vs.length * P.bytesOf q ≤ M := fun M hM => r5 M fun y hy => hM y (by
        rw [show D k = .agg (xs.map (·.1)) from congrArg Prod.fst hDk]
        simp only [DataW.weights, he]
        refine DataW.weights_mem_each (j := 2) (t := f2.type) (d := xs[2].1) ?_ ?_ y hy
        · rw [List.getElem?_map, Array.getElem?_toList, h2]
          rfl
        · rw [List.getElem?_map, List.getElem?_eq_getElem (by omega)]
          rfl)
      have hcs : cs = chC ⟨ds, bl, vs⟩ A C := by
        have a1 : cs = cs.take 32 ++ ((cs.drop 32).take 1 ++ (cs.drop 33).take 1) := by
          rw [show (cs.drop 33) = (cs.drop 32).drop 1 by rw [List.drop_drop], List.take_of_length_le (l := (cs.drop 32).drop 1) (by simp; omega), List.take_append_drop, List.take_append_drop]
        rw [List.drop_zero] at q0
        rw [a1, q0, q1, q2]
        rfl
      have hblk : b < w.heap.size := by
        have h5 := g4 0 (by omega)
        rw [List.getElem?_eq_getElem (by omega)] at h5
        have := lt_of_cell h5
        rwa [block_add, block_add] at this
      refine ⟨⟨ds, bl, vs⟩, b, o, A, C, rfl, hblk, fun j v hj => ?_, hB, hdl, r1, r2, r3, r4, hszk⟩
      have hjl : j < 34 := by
        have := (List.getElem?_eq_some_iff.1 hj).1
        rw [← hcs] at this
        omega
      have h5 := g4 j hjl
      rw [add_lit, add_lit] at h5
      rw [h5, hcs]
      exact hj
    obtain ⟨X, hX⟩ := Deep.choose_lt each
    refine ⟨some ⟨b, o, none⟩, len, m, X, hcs, ⟨by omega, fun k hk => ?_⟩, hl, hm, (fun h => by cases h), fun M hM => ⟨?_, fun k hk => ?_⟩⟩
    · obtain ⟨b', o', A, C, g1, g2, g3, g4, g5, g6, g7, g8, g9, _⟩ := hX k hk
      exact ⟨b', o', A, C, g1, g2, g3, g4, g5, g6, g7, g8, g9⟩
    · have h1 := hM ((((List.range len).map D).length + ((List.range (m - len)).map fun j => D (len + j)).length) * P.bytesOf e) (by rw [hx]; simp [DataW.weights, ht])
      refine Nat.le_trans (Nat.mul_le_mul_right _ ?_) h1
      rw [List.length_map, List.length_range]
      omega
    · obtain ⟨b', o', A, C, _, _, _, _, _, _, _, _, _, g10⟩ := hX k hk
      refine g10 M fun y hy => hM y ?_
      rw [hx]
      simp only [DataW.weights, ht, List.mem_cons, List.mem_append]
      exact .inr (.inl (weights_all (List.mem_map.2 ⟨k, List.mem_range.2 hk, rfl⟩) y hy))
end
end Go.Proofs.Ytkpbeibcfaenhaa

/- ledgerlaw3.copyBytes. -/
namespace Go.Proofs.Ytkpbeibcfaenhaa
open Go.RowKit
theorem info_byte : (Try.prog.info? 5).map (fun i => (i.zero, i.size, i.bytes)) = some (some (.int .u8 0), 1, 1) := by kernel_rfl
theorem und_bytes : Try.prog.underlying 31 = some (.slice 5) := by kernel_rfl
abbrev OwnU (w : World) (base : Nat) (v : Value) (xs : List Nat) : Prop := Own 5 w base v xs
def OwnRet (w : World) (ys : List Nat) (e : Ending) (w' : World) : Prop := ∃ v, e = .returned v ∧ OwnU w' w.heap.size v ys ∧ Below w.heap.size w w'
set_option maxHeartbeats 400000 in
theorem copyBytes_any (A : Option Addr) (n c : Nat) (xs : List Nat) (w : World) (hx : RB w A n xs) (hn : n ≤ 140737488355328) :
    Calls Try.prog 26 #[.slice A n c] w (OwnRet w xs) := by
  have HX := Lib.hid hx
  clear hx
  go_enter Try.func26, Try.ntmps26
  go_wp2_with fail
  go_loopw [3, 4] (fun v i wr => ∃ k : Nat, k ≤ n ∧ i = .int .i64 k ∧ OwnU wr w.heap.size v (xs.take k) ∧ Below w.heap.size w wr) (fun _ i _ => n - (intOf i).toNat)
  case atStart => exact ⟨0, by omega, rfl, by simpa using Own.nil _ _ _, Below.refl _ _⟩
  case round =>
    obtain ⟨k, hk, rfl, hown, hbel⟩ := hrel
    have hlen := HX.out.1
    have HO := Lib.hid hown
    have HB := Lib.hid hbel
    clear hown hbel
    by_cases hlt : k < n
    · obtain ⟨ad, rfl, hb, hcell⟩ := HX.out.at_ hlt
      have hc := cell_later hb HB.out hcell
      have hlt8 : xs.getD k 0 < 256 := HX.out.lt hlt
      have HT := Lib.hid (take_succ_getD (show k < xs.length by omega))
      have hl2 : (xs.take k).length + 1 ≤ 140737488355328 := by rw [List.length_take]; omega
      have hlt' : (k : Int) < n := by omega
      clear hcell hlen
      generalize xs.getD k 0 = b at *
      go_wp2_with (at_builtin; refine append1 und_bytes info_byte wr rfl (.tmp 11) (.tmp 16) rfl w.heap.size _ (xs.take k) HO.out b hlt8 rfl rfl hl2 HB.out.size ?_; intro v' w1 hown1 hgrow1)
      have hb1 := HB.out.grown hgrow1 HB.out.size HO.out.ge
      go_roundw
      case rel => exact ⟨k + 1, by omega, by go_num, by rw [HT.out]; exact hown1, hb1⟩
      case measure => simp [intOf]; omega
    · have HT : Hid (xs.take k = xs) := by
        show xs.take k = xs
        exact List.take_of_length_le (by omega)
      have hnlt : ¬ (k : Int) < n := by omega
      clear hlen
      go_wp2_with fail
      go_ret
      exact ⟨_, rfl, by rw [← HT.out]; exact HO.out, HB.out⟩
end Go.Proofs.Ytkpbeibcfaenhaa

/- ledgerlaw3.sameBytes: are two texts one? -/
namespace Go.Proofs.Ytkpbeibcfaenhaa
open Go.RowKit
theorem take_eq_succ {xs ys : List Nat} {k : Nat} (hx : k < xs.length) (hy : k < ys.length) (h : xs.take k = ys.take k) (e : xs.getD k 0 = ys.getD k 0) : xs.take (k + 1) = ys.take (k + 1) := by
  rw [take_succ_getD hx, take_succ_getD hy, h, e]
theorem sameB_len {xs ys : List Nat} (h : ¬ xs.length = ys.length) : sameB xs ys = false := by
  unfold sameB
  exact decide_eq_false fun e => h (by rw [e])
theorem sameB_at {xs ys : List Nat} {k : Nat} (h : ¬ xs.getD k 0 = ys.getD k 0) : sameB xs ys = false := by
  unfold sameB
  exact decide_eq_false fun e => h (by rw [e])
theorem sameB_end {xs ys : List Nat} {k : Nat} (hx : xs.length ≤ k) (hy : ys.length ≤ k) (h : xs.take k = ys.take k) : sameB xs ys = true := by
  unfold sameB
  rw [List.take_of_length_le hx, List.take_of_length_le hy] at h
  exact decide_eq_true h

set_option maxHeartbeats 400000 in
theorem sameB_any (A B : Option Addr) (n c m d : Nat) (xs ys : List Nat) (w : World) (hx : RB w A n xs) (hy : RB w B m ys) (hn : n ≤ 9223372036854775807) :
    Calls Try.prog 27 #[.slice A n c, .slice B m d] w fun e w' => e = .returned (.bool (sameB xs ys)) ∧ ∃ q, w' = w.drewN q := by
  have HX := Lib.hid hx
  have HY := Lib.hid hy
  clear hx hy
  by_cases hnm : n = m
  · subst hnm
    go_enter Try.func27, Try.ntmps27
    go_wp2
    go_loopw [5] (fun i wr => ∃ k q : Nat, k ≤ n ∧ i = .int .i64 k ∧ Hid (xs.take k = ys.take k) ∧ wr = w.drewN q) (fun i _ => n - (intOf i).toNat)
    case atStart => exact ⟨0, 0, by omega, rfl, rfl, rfl⟩
    case round =>
      obtain ⟨k, q, hk, rfl, HE, rfl⟩ := hrel
      have hlx := HX.out.1
      have hly := HY.out.1
      by_cases hlt : k < n
      · obtain ⟨ad, rfl, hb, hc1⟩ := HX.out.at_ hlt
        obtain ⟨bd, rfl, hb', hc2⟩ := HY.out.at_ hlt
        by_cases he : xs.getD k 0 = ys.getD k 0
        · have HE2 := Lib.hid (take_eq_succ (by omega) (by omega) HE.out he)
          clear hlx hly
          have ht : (((xs.getD k 0 : Nat) : Int) != ((ys.getD k 0 : Nat) : Int)) = false := by rw [he]; simp
          clear he
          generalize xs.getD k 0 = x at *
          generalize ys.getD k 0 = y at *
          go_wp2
          go_quiet (fail)
          go_wp2
          go_roundw
          case rel => exact ⟨k + 1, _, by omega, by go_num, HE2, rfl⟩
          case measure => simp [intOf]; omega
        · have HE2 := Lib.hid (sameB_at he)
          clear hlx hly
          have ht : (((xs.getD k 0 : Nat) : Int) != ((ys.getD k 0 : Nat) : Int)) = true := by rw [bne_iff_ne]; omega
          clear he
          generalize xs.getD k 0 = x at *
          generalize ys.getD k 0 = y at *
          go_wp2
          go_quiet (fail)
          go_wp2
          go_ret
          exact ⟨by rw [HE2.out]; rfl, _, by rw [World.drewN_drewN]⟩
      · have HE2 := Lib.hid (sameB_end (by omega) (by omega) HE.out)
        clear hlx hly
        go_wp2
        go_ret
        exact ⟨by rw [HE2.out]; rfl, _, rfl⟩
  · have HE := Lib.hid (sameB_len (xs := xs) (ys := ys) (by rw [HX.out.1, HY.out.1]; exact hnm))
    have ht : ((n : Int) != (m : Int)) = true := by rw [bne_iff_ne]; omega
    clear hnm
    go_enter Try.func27, Try.ntmps27
    go_wp2
    go_ret
    exact ⟨by rw [HE.out]; rfl, 0, rfl⟩
theorem sameBytes_true {A B : Option Addr} {n c m d : Nat} {xs ys : List Nat} {w : World} (hx : RB w A n xs) (hy : RB w B m ys) (hn : n ≤ 9223372036854775807) (h : xs = ys) :
    Calls Try.prog 27 #[.slice A n c, .slice B m d] w fun e w' => e = .returned (.bool true) ∧ ∃ q, w' = w.drewN q := by
  have := sameB_any A B n c m d xs ys w hx hy hn
  rwa [sameB_eq h] at this
theorem sameBytes_false {A B : Option Addr} {n c m d : Nat} {xs ys : List Nat} {w : World} (hx : RB w A n xs) (hy : RB w B m ys) (hn : n ≤ 9223372036854775807) (h : ¬ xs = ys) :
    Calls Try.prog 27 #[.slice A n c, .slice B m d] w fun e w' => e = .returned (.bool false) ∧ ∃ q, w' = w.drewN q := by
  have := sameB_any A B n c m d xs ys w hx hy hn
  rwa [sameB_ne h] at this
end Go.Proofs.Ytkpbeibcfaenhaa

/- Lists of changes that a call has made. -/
namespace Go.Proofs.Ytkpbeibcfaenhaa
open Go.RowKit
theorem RB.grownBy {w w' : World} {A : Option Addr} {n : Nat} {xs : List Nat} {row : Option Nat} (h : RB w A n xs) (hg : w.grownBy w' row) (hA : 0 < n → ∀ ad, A = some ad → some ad.block ≠ row) : RB w' A n xs := by
  refine ⟨h.1, h.2.1, fun hn => ?_⟩
  obtain ⟨ad, e, hb, hc⟩ := h.2.2 hn
  refine ⟨ad, e, Nat.lt_of_lt_of_le hb hg.size, fun j x hj => ?_⟩
  rw [World.cell?_of_block (w := w) (a := ad.add j) (by rw [block_add]; exact hg.block _ hb (hA hn ad e))]
  exact hc j x hj
section
variable {w w' : World} {b O : Nat} {x : Chg} {A : Option Addr} {C : Nat}
theorem chC_length (h : x.key.length = 32) : (chC x A C).length = 34 := by simp [chC, bvs, h]
theorem ch_key (h : w.rangeAt b O (chC x A C)) : w.rangeAt b O (bvs x.key) := fun j v hj => h j v (by
  unfold chC
  rw [List.getElem?_append_left (List.getElem?_eq_some_iff.1 hj).1]
  exact hj)
theorem ch_del (h : w.rangeAt b O (chC x A C)) (hl : x.key.length = 32) : w.cell? ⟨b, O + 32, none⟩ = some (.bool x.del) := h 32 _ (by
  unfold chC
  rw [List.getElem?_append_right (by simp [bvs, hl])]
  simp [bvs, hl])
theorem ch_val (h : w.rangeAt b O (chC x A C)) (hl : x.key.length = 32) : w.cell? ⟨b, O + 33, none⟩ = some (.slice A x.val.length C) := h 33 _ (by
  unfold chC
  rw [List.getElem?_append_right (by simp [bvs, hl])]
  simp [bvs, hl])
theorem chC_one : ∀ v ∈ chC x A C, v.oneCell' = true := fun v hv => by
  simp only [chC, bvs, List.mem_append, List.mem_map, List.mem_cons, List.not_mem_nil, or_false] at hv
  rcases hv with ⟨y, _, rfl⟩ | rfl | rfl <;> rfl
end
/-- The cells of the first n changes. -/
def flat (X : Nat → Chg) (Ad : Nat → Option Addr) (Cp : Nat → Nat) : Nat → List Value
  | 0 => []
  | n + 1 => flat X Ad Cp n ++ chC (X n) (Ad n) (Cp n)
def upd {α : Type} (f : Nat → α) (i : Nat) (x : α) : Nat → α := fun j => if j = i then x else f j
theorem upd_same {α : Type} (f : Nat → α) (i : Nat) (x : α) : upd f i x i = x := if_pos rfl
theorem upd_other {α : Type} (f : Nat → α) {i j : Nat} (x : α) (h : j ≠ i) : upd f i x j = f j := if_neg h
section
variable {X : Nat → Chg} {Ad : Nat → Option Addr} {Cp : Nat → Nat}
theorem flat_length {n : Nat} (h : ∀ i, i < n → (X i).key.length = 32) : (flat X Ad Cp n).length = n * 34 := by
  induction n with
  | zero => rfl
  | succ n ih => rw [flat, List.length_append, ih (fun i hi => h i (by omega)), chC_length (h n (by omega))]; omega
theorem flat_at {n i j : Nat} (h : ∀ i, i < n → (X i).key.length = 32) (hi : i < n) (hj : j < 34) : (flat X Ad Cp n)[i * 34 + j]? = (chC (X i) (Ad i) (Cp i))[j]? := by
  induction n with
  | zero => omega
  | succ n ih =>
    have hl := flat_length (Ad := Ad) (Cp := Cp) (n := n) (fun i hi => h i (by omega))
    rw [flat]
    by_cases e : i = n
    · subst e
      rw [List.getElem?_append_right (by omega), hl, Nat.add_sub_cancel_left]
    · rw [List.getElem?_append_left (by omega)]
      exact ih (fun i hi => h i (by omega)) (by omega)
theorem flat_congr {X' : Nat → Chg} {Ad' : Nat → Option Addr} {Cp' : Nat → Nat} {n : Nat} (h : ∀ i, i < n → X i = X' i ∧ Ad i = Ad' i ∧ Cp i = Cp' i) : flat X Ad Cp n = flat X' Ad' Cp' n := by
  induction n with
  | zero => rfl
  | succ n ih =>
    obtain ⟨h1, h2, h3⟩ := h n (by omega)
    rw [flat, flat, ih (fun i hi => h i (by omega)), h1, h2, h3]
theorem flat_upd {n : Nat} (x : Chg) (A : Option Addr) (C : Nat) : flat X Ad Cp n ++ chC x A C = flat (upd X n x) (upd Ad n A) (upd Cp n C) (n + 1) := by
  rw [flat, upd_same, upd_same, upd_same, flat_congr (X' := upd X n x) (Ad' := upd Ad n A) (Cp' := upd Cp n C) fun i hi => ⟨(upd_other _ _ (by omega)).symm, (upd_other _ _ (by omega)).symm, (upd_other _ _ (by omega)).symm⟩]
end
/-- A list of changes that is the call's own; the values lie elsewhere. -/
structure ChsOwn (w : World) (base : Nat) (v : Value) (n : Nat) (X : Nat → Chg) (Ad : Nat → Option Addr) (Cp : Nat → Nat) : Prop where
  own : w.ownsRow base 45 34 v n (flat X Ad Cp n)
  key : ∀ i, i < n → IsB (X i).key ∧ (X i).key.length = 32
  val : ∀ i, i < n → RB w (Ad i) (X i).val.length (X i).val ∧ (X i).val.length ≤ Cp i ∧ Cp i ≤ maxLen ∧ (Ad i = none → Cp i = 0)
  apart : ∀ i, i < n → 0 < (X i).val.length → ∀ ad, Ad i = some ad → some ad.block ≠ v.ownBlock
section
variable {w w' : World} {base : Nat} {v v' : Value} {n : Nat} {X : Nat → Chg} {Ad : Nat → Option Addr} {Cp : Nat → Nat}
theorem ChsOwn.nil (w : World) (base : Nat) (X : Nat → Chg) (Ad : Nat → Option Addr) (Cp : Nat → Nat) : ChsOwn w base (.slice none 0 0) 0 X Ad Cp :=
  { own := World.ownsRow_nil w base 45 34, key := fun i hi => by omega, val := fun i hi => by omega, apart := fun i hi => by omega }
theorem ChsOwn.kept (h : ChsOwn w base v n X Ad Cp) {row : Option Nat} (hg : w.grownBy w' row) (hv : v.ownBlock = none ∨ v.ownBlock ≠ row) (ha : ∀ i, i < n → 0 < (X i).val.length → ∀ ad, Ad i = some ad → some ad.block ≠ row) : ChsOwn w' base v n X Ad Cp :=
  { h with
    own := h.own.kept hg hv
    val := fun i hi => ⟨(h.val i hi).1.grownBy hg (fun h0 ad e => ha i hi h0 ad e), (h.val i hi).2⟩ }
theorem ChsOwn.later (h : ChsOwn w base v n X Ad Cp) (hb : Below w.heap.size w w') : ChsOwn w' base v n X Ad Cp :=
  { h with
    own := h.own.kept (grown_of_below hb none) (by cases v.ownBlock <;> simp)
    val := fun i hi => ⟨(h.val i hi).1.below hb, (h.val i hi).2⟩ }
theorem ChsOwn.ge (h : ChsOwn w base v n X Ad Cp) : ∀ k, v.ownBlock = some k → base ≤ k := fun k hk => (h.own.lt k hk).1
/-- One more change is appended. -/
theorem ChsOwn.more (h : ChsOwn w base v n X Ad Cp) {x : Chg} {A : Option Addr} {C : Nat} (hk : IsB x.key ∧ x.key.length = 32) (hv : RB w A x.val.length x.val ∧ x.val.length ≤ C ∧ C ≤ maxLen ∧ (A = none → C = 0)) (ha : 0 < x.val.length → ∀ ad, A = some ad → some ad.block ≠ v.ownBlock)
    (ho : w'.ownsRow base 45 34 v' (n + 1) (flat X Ad Cp n ++ chC x A C)) (hg : w.grownBy w' v.ownBlock) (hl : Lies w v v') : ChsOwn w' base v' (n + 1) (upd X n x) (upd Ad n A) (upd Cp n C) := by
  have far : ∀ (A : Option Addr) (xs : List Nat), RB w A xs.length xs → 0 < xs.length → (∀ ad, A = some ad → some ad.block ≠ v.ownBlock) → ∀ ad, A = some ad → some ad.block ≠ v'.ownBlock := fun A xs hr h0 hne ad e he => by
    rcases hl _ he.symm with h1 | h1
    · exact hne ad e h1.symm
    · obtain ⟨ad', e', hb, _⟩ := hr.2.2 h0
      rw [e] at e'
      injection e' with e'
      rw [e'] at h1
      omega
  refine ⟨by rw [← flat_upd]; exact ho, fun i hi => ?_, fun i hi => ?_, fun i hi => ?_⟩
  · by_cases e : i = n
    · subst e; rw [upd_same]; exact hk
    · rw [upd_other _ _ e]; exact h.key i (by omega)
  · by_cases e : i = n
    · subst e; rw [upd_same, upd_same, upd_same]; exact ⟨hv.1.grownBy hg ha, hv.2⟩
    · rw [upd_other _ _ e, upd_other _ _ e, upd_other _ _ e]; exact ⟨(h.val i (by omega)).1.grownBy hg (h.apart i (by omega)), (h.val i (by omega)).2⟩
  · by_cases e : i = n
    · subst e; rw [upd_same, upd_same]; exact fun h0 ad e => far A x.val hv.1 h0 (ha h0) ad e
    · rw [upd_other _ _ e, upd_other _ _ e]; exact fun h0 ad e => far _ _ (h.val i (by omega)).1 h0 (h.apart i (by omega) h0) ad e
/-- What a caller may read. -/
theorem ChsOwn.form (h : ChsOwn w base v n X Ad Cp) : ∃ A C, v = .slice A n C ∧ ChsAt w A n X ∧ n ≤ C ∧ (A = none → C = 0) ∧ n ≤ maxLen ∧ ∀ ad, A = some ad → ∃ g, ad = ⟨g, 0, none⟩ ∧ base ≤ g := by
  rcases h.own.2 with ⟨e1, h0⟩ | ⟨g, cap, cur, e1, hb, hc, hnc, hcm, hr⟩
  · subst h0
    exact ⟨none, 0, e1, ⟨Nat.zero_le _, fun k hk => by omega⟩, Nat.le_refl _, fun _ => rfl, Nat.zero_le _, (fun ad e => by cases e)⟩
  · have hn : n ≤ maxLen := by omega
    have ho := h.own
    rw [e1] at ho
    refine ⟨_, cap, e1, ⟨hn, fun k hk => ⟨g, 0, Ad k, Cp k, rfl, (h.own.lt g (by rw [e1]; rfl)).2, fun j u hj => ?_, (h.key k hk).1, (h.key k hk).2, (h.val k hk).1, (h.val k hk).2⟩⟩, hnc, (fun h => by cases h), hn, fun ad e => ⟨g, by injection e with e; exact e.symm, hb⟩⟩
    have hj34 : j < 34 := by
      have := (List.getElem?_eq_some_iff.1 hj).1
      rwa [chC_length (h.key k hk).2] at this
    have hlt : k * 34 + j < n * 34 := by omega
    rw [Nat.zero_add, World.ownsRow.cellAt ho _ hlt, flat_at (fun i hi => (h.key i hi).2) hk hj34]
    exact hj
end
section
variable {P : Program}
/-- 'l = append(l, c)' of one change: it lies in a new block of its own first. -/
theorem append1C_run {t e : TypeId} {z : Value} {by_ : Nat} (ht : P.underlying t = some (.slice e)) (hinfo : (P.info? e).map (fun i => (i.zero, i.size, i.bytes)) = some (some z, 34, by_)) (hzs : z.cells.size = 34)
    {o : Oper} {a : Act} (w : World) (s x : Operand) (ho : o.op = .call { callee := .builtin .append, args := #[s, x], argTypes := #[t, t] })
    (base : Nat) (v : Value) (n : Nat) (xs : List Value) (hown : w.ownsRow base e 34 v n xs) (cs : List Value) (hcl : cs.length = 34) (hone : ∀ u ∈ cs, u.oneCell' = true) (hs : a.eval s = v) (hx : a.eval x = .slice (some ⟨w.heap.size, 0, none⟩) 1 1)
    (hlen : (n + 1) * by_ ≤ 140737488355328) (hm : n + 1 ≤ 140737488355328) (hbase : base ≤ w.heap.size) :
    ∃ v' w', (execOp a.eval o).run P (w.alloc (.cells cs.toArray e)) = .ok (.value v') w' ∧ w'.ownsRow base e 34 v' (n + 1) (xs ++ cs) ∧ w.grownBy w' v.ownBlock ∧ Lies w v v' := by
  obtain ⟨i, hi, hz, hs1, hby⟩ := info_parts hinfo
  obtain ⟨v', w', hr, h1, h2, _, h4⟩ := run_append_own_at (P := P) (w.alloc (.cells cs.toArray e)) base t o.type e i z 34 by_ ht hi hz hs1 hby hzs (by decide) v n xs (hown.alloc _)
    ⟨w.heap.size, 0, none⟩ 1 1 cs (by omega) (fun j u hj => by
      rw [add_lit, cell_of_row _ _ _ _ _ _ (heap_alloc_new w _), Nat.zero_add, List.getElem?_toArray]
      exact hj) hone (by unfold maxLen; omega) hlen (by simp; omega)
  refine ⟨v', w', ?_, h1, grown_trans (World.grownBy_alloc _ _ _) h2, ?_⟩
  · unfold execOp
    simp only [ho, resolve, invoke, builtin, Sem.run_bind, Sem.run_pure, Result.andThen_ok, List.map_toArray, List.map_cons, List.map_nil, hs, hx, hr]
  · intro k hk
    rcases h4 with h4 | h4
    · rw [h4] at hk
      exact .inl hk
    · rw [h4] at hk
      injection hk with hk
      simp at hk
      exact .inr (by omega)
theorem wpOp_append1C {t e : TypeId} {z : Value} {by_ : Nat} (ht : P.underlying t = some (.slice e)) (hinfo : (P.info? e).map (fun i => (i.zero, i.size, i.bytes)) = some (some z, 34, by_)) (hzs : z.cells.size = 34)
    {ops : Array Oper} {Q : Exit → Act → World → Prop} {K : Act → World → Prop} {o : Oper} {a : Act} (hw : Region.wanted o (yielded ops a.tmps) = true) (w : World) (s x : Operand) (ho : o.op = .call { callee := .builtin .append, args := #[s, x], argTypes := #[t, t] })
    (base : Nat) (v : Value) (n : Nat) (xs : List Value) (hown : w.ownsRow base e 34 v n xs) (cs : List Value) (hcl : cs.length = 34) (hone : ∀ u ∈ cs, u.oneCell' = true) (hs : a.eval s = v) (hx : a.eval x = .slice (some ⟨w.heap.size, 0, none⟩) 1 1)
    (hlen : (n + 1) * by_ ≤ 140737488355328) (hm : n + 1 ≤ 140737488355328) (hbase : base ≤ w.heap.size)
    (h : ∀ v' w', w'.ownsRow base e 34 v' (n + 1) (xs ++ cs) → w.grownBy w' v.ownBlock → Lies w v v' → K (a.put o.dst v') w') :
    if Region.wanted o (yielded ops a.tmps) = true then o.wp P a (w.alloc (.cells cs.toArray e)) K Q else K (a.put o.dst undef) (w.alloc (.cells cs.toArray e)) := by
  obtain ⟨v', w', hr, h1, h2, h3⟩ := append1C_run ht hinfo hzs w s x ho base v n xs hown cs hcl hone hs hx hlen hm hbase
  rw [if_pos hw]
  unfold Oper.wp
  rw [hr]
  exact h v' w' h1 h2 h3
theorem append1C {t e : TypeId} {z : Value} {by_ : Nat} (ht : P.underlying t = some (.slice e)) (hinfo : (P.info? e).map (fun i => (i.zero, i.size, i.bytes)) = some (some z, 34, by_)) (hzs : z.cells.size = 34)
    {ops : Array Oper} {rest : List Oper} {o : Oper} {a : Act} {Q : Exit → Act → World → Prop} (w : World) (hgd : o.guard = none) (s x : Operand) (ho : o.op = .call { callee := .builtin .append, args := #[s, x], argTypes := #[t, t] })
    (base : Nat) (v : Value) (n : Nat) (xs : List Value) (hown : w.ownsRow base e 34 v n xs) (cs : List Value) (hcl : cs.length = 34) (hone : ∀ u ∈ cs, u.oneCell' = true) (hs : a.eval s = v) (hx : a.eval x = .slice (some ⟨w.heap.size, 0, none⟩) 1 1)
    (hlen : (n + 1) * by_ ≤ 140737488355328) (hm : n + 1 ≤ 140737488355328) (hbase : base ≤ w.heap.size)
    (h : ∀ v' w', w'.ownsRow base e 34 v' (n + 1) (xs ++ cs) → w.grownBy w' v.ownBlock → Lies w v v' → wpList P ops Q rest (a.put o.dst v') w') :
    wpList P ops Q (o :: rest) a (w.alloc (.cells cs.toArray e)) := by
  obtain ⟨v', w', hr, h1, h2, h3⟩ := append1C_run (o := o) ht hinfo hzs w s x ho base v n xs hown cs hcl hone hs hx hlen hm hbase
  refine wpList_plain hgd fun K hK => ?_
  unfold Oper.wp
  rw [hr]
  exact hK _ _ (h v' w' h1 h2 h3)
end
end Go.Proofs.Ytkpbeibcfaenhaa

/- A change is built, and a list of one of them. -/
namespace Go.Proofs.Ytkpbeibcfaenhaa
open Go.RowKit
theorem fold_at (off : Nat) : ∀ (xs : List Value) (k : Nat) (c : Array Value) (j : Nat), off + k + xs.length ≤ c.size →
    ((xs.zipIdx k).foldl (fun (cs : Array Value) (p : Value × Nat) => cs.setIfInBounds (off + p.2) p.1) c)[j]? = if off + k ≤ j ∧ j < off + k + xs.length then xs[j - (off + k)]? else c[j]?
  | [], k, c, j, _ => by
    rw [if_neg (by simp)]
    rfl
  | x :: xs, k, c, j, h => by
    rw [List.zipIdx_cons, List.foldl_cons, fold_at off xs (k + 1) _ j (by simp at h ⊢; omega)]
    simp only [List.length_cons] at h ⊢
    by_cases h1 : off + (k + 1) ≤ j ∧ j < off + (k + 1) + xs.length
    · rw [if_pos h1, if_pos (by omega), show j - (off + k) = (j - (off + (k + 1))) + 1 by omega, List.getElem?_cons_succ]
    · rw [if_neg h1]
      by_cases h2 : j = off + k
      · subst h2
        rw [if_pos (by omega), Nat.sub_self, List.getElem?_cons_zero, Array.getElem?_setIfInBounds_self_of_lt (by omega)]
      · rw [if_neg (by omega), Array.getElem?_setIfInBounds_ne (by omega)]
theorem fold_arr (off : Nat) (v c : Array Value) (h : off + v.size ≤ c.size) (j : Nat) : (v.zipIdx.foldl (fun (cs : Array Value) (p : Value × Nat) => cs.setIfInBounds (off + p.2) p.1) c)[j]? = if off ≤ j ∧ j < off + v.size then v[j - off]? else c[j]? := by
  have := fold_at off v.toList 0 c j (by simpa using h)
  rw [Nat.add_zero] at this
  rw [← Array.foldl_toList, Array.toList_zipIdx, this]
  simp
theorem fold_size (off : Nat) : ∀ (xs : List (Value × Nat)) (c : Array Value), (xs.foldl (fun (cs : Array Value) (p : Value × Nat) => cs.setIfInBounds (off + p.2) p.1) c).size = c.size
  | [], c => rfl
  | x :: xs, c => by
    rw [List.foldl_cons, fold_size off xs]
    simp
theorem fold_whole (v c : Array Value) (h : v.size = c.size) : v.zipIdx.foldl (fun (cs : Array Value) (p : Value × Nat) => cs.setIfInBounds (0 + p.2) p.1) c = v := by
  apply Array.ext_getElem?
  intro j
  rw [fold_arr 0 v c (by omega) j]
  split
  · rfl
  · rw [Array.getElem?_eq_none (by omega), Array.getElem?_eq_none (by omega)]
section
variable {P : Program}
theorem buildSlice1_run {t e : TypeId} {z : Value} {n : Nat} (ht : P.underlying t = some (.slice e)) (hi : (P.info? e).map (fun i => (i.zero, i.size)) = some (some z, n)) (h0 : 0 < n) (h1 : n ≤ 1000) (v : Value) (hv : v.cells.size = n) (w : World) :
    (Instr.buildSlice t 1 #[(0, v)]).run P w = .ok (.slice (some ⟨w.heap.size, 0, none⟩) 1 1) (w.alloc (.cells v.cells e)) := by
  obtain ⟨i, hi1, hi2, hi3⟩ : ∃ i, P.info? e = some i ∧ i.zero = some z ∧ i.size = n := by
    cases hq : P.info? e with
    | none => simp [hq] at hi
    | some i =>
      simp [hq] at hi
      exact ⟨i, rfl, hi.1, hi.2⟩
  have hw := fold_whole v.cells ((Array.range (1 * n)).map (z.cells[· % z.cells.size]!)) (by simp [hv])
  have hfill : Instr.fill (fun i => some (i * n, n)) ((Array.range (1 * n)).map (z.cells[· % z.cells.size]!)) [(0, v)] = some v.cells := by
    unfold Instr.fill
    simp only [Nat.zero_mul]
    rw [if_neg (by simp [hv])]
    unfold Instr.fill
    exact congrArg some hw
  have hsz : (sizeOf e).run P w = .ok n w := by simp [sizeOf, typeInfo, hi1, hi3]
  have hze : (zeroValue e).run P w = .ok z w := by simp [zeroValue, typeInfo, hi1, hi2]
  have g1 : ¬ 1 * n > 2 ^ 24 := by omega
  have g2 : ¬ 1 * n = 0 := by omega
  unfold Instr.buildSlice
  simp only [Sem.run_bind, run_underlying ht, Result.andThen_ok, hsz, if_neg g1, if_neg g2, hze, Sem.run_pure, hfill]
  simp [newRow, newObj, Result.andThen]
  rfl
end
def spl (c : Array Value) (off : Nat) (v : Array Value) : Array Value := v.zipIdx.foldl (fun (cs : Array Value) (p : Value × Nat) => cs.setIfInBounds (off + p.2) p.1) c
theorem spl_size (c : Array Value) (off : Nat) (v : Array Value) : (spl c off v).size = c.size := by
  unfold spl
  rw [← Array.foldl_toList]
  exact fold_size off _ c
theorem spl_at {c v : Array Value} {off : Nat} (h : off + v.size ≤ c.size) (j : Nat) : (spl c off v)[j]? = if off ≤ j ∧ j < off + v.size then v[j - off]? else c[j]? := fold_arr off v c h j
theorem fill_step {place : Nat → Option (Nat × Nat)} {c : Array Value} {i off size : Nat} {v : Value} {rest : List (Nat × Value)} (hp : place i = some (off, size)) (hs : v.cells.size = size) (hf : off + size ≤ c.size) :
    Instr.fill place c ((i, v) :: rest) = Instr.fill place (spl c off v.cells) rest := by
  rw [Instr.fill, hp]
  simp only
  rw [if_neg (by simp [hs]; omega)]
  rfl
/-- 'api.Change{Key: k, Del: d, Val: v}'. -/
theorem built_ch {key : List Nat} {d : Bool} {A : Option Addr} {n C : Nat} (hk : key.length = 32) :
    Try.prog.built 45 [(0, .agg (bvs key).toArray), (1, .bool d), (2, .slice A n C)] = some (bvs key ++ [Value.bool d, Value.slice A n C]).toArray := by
  have hb : ∃ Z : Array Value, Z.size = 34 ∧ ∀ ps, Try.prog.built 45 ps = Instr.fill (#[(0, 32), (32, 1), (33, 1)][·]?) Z ps := by
    refine ⟨(zarr 32) ++ #[.bool false, .slice none 0 0], by simp [zarr, bvs, zs], fun ps => ?_⟩
    have h1 : (Try.prog.info? 45).map (·.zero) = some (some (.agg ((zarr 32) ++ #[.bool false, .slice none 0 0]))) := by kernel_rfl
    obtain ⟨i, hi, hz⟩ : ∃ i, Try.prog.info? 45 = some i ∧ i.zero = some (.agg ((zarr 32) ++ #[.bool false, .slice none 0 0])) := by
      cases hq : Try.prog.info? 45 with
      | none => simp [hq] at h1
      | some i => exact ⟨i, rfl, by simpa [hq] using h1⟩
    have hp : (Try.prog.underlying 45).bind (fun d => match d with | .struct fs => fs.toList.mapM (fun f => (Try.prog.info? f.type).map fun i => (f.offset, i.size)) | _ => none) = some [(0, 32), (32, 1), (33, 1)] := by kernel_rfl
    rw [Try.underlying45] at hp
    unfold Program.built
    rw [hi, Try.underlying45]
    simp only [hz]
    simp only [Option.bind_some] at hp
    rw [hp]
    rfl
  obtain ⟨Z, hZ, hb⟩ := hb
  have hkl : (bvs key).length = 32 := by simp [bvs, hk]
  have s1 : ((Value.agg (bvs key).toArray).cells).size = 32 := by simp [Value.cells, hkl]
  rw [hb, fill_step (off := 0) (size := 32) rfl s1 (by omega), fill_step (off := 32) (size := 1) rfl rfl (by rw [spl_size]; omega), fill_step (off := 33) (size := 1) rfl rfl (by rw [spl_size, spl_size]; omega), Instr.fill]
  congr 1
  apply Array.ext_getElem?
  intro j
  have e1 : ((Value.agg (bvs key).toArray).cells) = (bvs key).toArray := rfl
  have e2 : (Value.bool d).cells = #[Value.bool d] := rfl
  have e3 : (Value.slice A n C).cells = #[Value.slice A n C] := rfl
  rw [spl_at (by rw [spl_size, spl_size, e3]; simp; omega), e3, spl_at (by rw [spl_size, e2]; simp; omega), e2, spl_at (by rw [s1]; omega), e1]
  simp only [List.size_toArray, List.length_cons, List.length_nil, List.getElem?_toArray, hkl]
  by_cases h3 : j = 33
  · subst h3
    rw [if_pos (by omega), List.getElem?_append_right (by omega), hkl]
    rfl
  rw [if_neg (by omega)]
  by_cases h2 : j = 32
  · subst h2
    rw [if_pos (by omega), List.getElem?_append_right (by omega), hkl]
    rfl
  rw [if_neg (by omega)]
  by_cases h1 : j < 32
  · rw [if_pos (by omega), List.getElem?_append_left (by omega), Nat.sub_zero]
  · rw [if_neg (by omega), Array.getElem?_eq_none (by omega), List.getElem?_eq_none (by rw [List.length_append, hkl]; simp; omega)]
section
variable {P : Program}
theorem wpOp_build {ops : Array Oper} {Q : Exit → Act → World → Prop} {K : Act → World → Prop} {o : Oper} {a : Act} (hw : Region.wanted o (yielded ops a.tmps) = true) (w : World) (t : TypeId) (parts : Array (Nat × Operand)) (ho : o.op = .build t parts)
    (vs : List (Nat × Value)) (hv : (parts.map fun (i, x) => (i, a.eval x)).toList = vs) (cells : Array Value) (hb : P.built t vs = some cells) (h : K (a.put o.dst (.agg cells)) w) :
    if Region.wanted o (yielded ops a.tmps) = true then o.wp P a w K Q else K (a.put o.dst undef) w := by
  subst hv
  rw [if_pos hw]
  exact wp_build t parts ho (by rw [hb]; rfl) (by rw [hb]; exact h)
theorem wpOp_buildSlice1 {ops : Array Oper} {Q : Exit → Act → World → Prop} {K : Act → World → Prop} {o : Oper} {a : Act} (hw : Region.wanted o (yielded ops a.tmps) = true) (w : World) (t e : TypeId) (z : Value) (n : Nat) (x : Operand) (ho : o.op = .buildSlice t 1 #[(0, x)])
    (ht : P.underlying t = some (.slice e)) (hi : (P.info? e).map (fun i => (i.zero, i.size)) = some (some z, n)) (h0 : 0 < n) (h1 : n ≤ 1000) (cs : Array Value) (hx : a.eval x = .agg cs) (hv : cs.size = n)
    (h : K (a.put o.dst (.slice (some ⟨w.heap.size, 0, none⟩) 1 1)) (w.alloc (.cells cs e))) :
    if Region.wanted o (yielded ops a.tmps) = true then o.wp P a w K Q else K (a.put o.dst undef) w := by
  rw [if_pos hw]
  have hr := buildSlice1_run ht hi h0 h1 (.agg cs) hv w
  unfold Oper.wp execOp
  simp only [ho, List.map_toArray, List.map_cons, List.map_nil, hx, Sem.run_bind, hr, Result.andThen_ok, Sem.run_pure]
  exact h
theorem buildSlice1 {ops : Array Oper} {rest : List Oper} {Q : Exit → Act → World → Prop} {o : Oper} {a : Act} (hgd : o.guard = none) (w : World) (t e : TypeId) (z : Value) (n : Nat) (x : Operand) (ho : o.op = .buildSlice t 1 #[(0, x)])
    (ht : P.underlying t = some (.slice e)) (hi : (P.info? e).map (fun i => (i.zero, i.size)) = some (some z, n)) (h0 : 0 < n) (h1 : n ≤ 1000) (cs : Array Value) (hx : a.eval x = .agg cs) (hv : cs.size = n)
    (h : wpList P ops Q rest (a.put o.dst (.slice (some ⟨w.heap.size, 0, none⟩) 1 1)) (w.alloc (.cells cs e))) : wpList P ops Q (o :: rest) a w := by
  refine wpList_plain hgd fun K hK => ?_
  have hr := buildSlice1_run ht hi h0 h1 (.agg cs) hv w
  unfold Oper.wp execOp
  simp only [ho, List.map_toArray, List.map_cons, List.map_nil, hx, Sem.run_bind, hr, Result.andThen_ok, Sem.run_pure]
  exact hK _ _ h
end
theorem info_chg : (Try.prog.info? 45).map (fun i => (i.zero, i.size)) = some (some (.agg ((zarr 32) ++ #[.bool false, .slice none 0 0])), 34) := by kernel_rfl
theorem info_chg3 : (Try.prog.info? 45).map (fun i => (i.zero, i.size, i.bytes)) = some (some (.agg ((zarr 32) ++ #[.bool false, .slice none 0 0])), 34, 64) := by kernel_rfl
theorem row_chg : (Try.prog.underlying 45).map (·.isRow) = some true := by kernel_rfl
theorem size_chg : (Try.prog.info? 45).map (·.size) = some 34 := by kernel_rfl
theorem und_chl : Try.prog.underlying 30 = some (.slice 45) := by kernel_rfl
theorem upd_self {α : Type} (f : Nat → α) (i : Nat) : upd f i (f i) = f := by
  funext j
  unfold upd
  split
  · rename_i h; rw [h]
  · rfl
end Go.Proofs.Ytkpbeibcfaenhaa

/- ledgerlaw3.copyChanges. -/
namespace Go.Proofs.Ytkpbeibcfaenhaa
open Go.RowKit
theorem own_max {e : TypeId} {w : World} {base n c : Nat} {A : Option Addr} {xs : List Nat} (h : Own e w base (.slice A n c) xs) : c ≤ maxLen := by
  rcases h.1.2 with ⟨e1, _⟩ | ⟨g, cap, cur, e1, _, _, _, hm, _⟩
  · injection e1 with _ _ e3
    rw [e3]
    exact Nat.zero_le _
  · injection e1 with _ _ e3
    rw [e3]
    exact hm
/-- A list of changes in new memory. -/
def ChsRet (N : Nat) (X : Nat → Chg) (w : World) (e : Ending) (w' : World) : Prop := ∃ v Ad Cp, e = .returned v ∧ ChsOwn w' w.heap.size v N X Ad Cp ∧ Below w.heap.size w w'
set_option maxRecDepth 100000 in
set_option maxHeartbeats 4000000 in
theorem copyChanges_any (A : Option Addr) (N c : Nat) (X : Nat → Chg) (w : World) (hx : ChsAt w A N X) (hn : N * 64 ≤ 140737488355328) (hv : ∀ k, k < N → (X k).val.length ≤ 140737488355328) :
    Calls Try.prog 20 #[.slice A N c] w (ChsRet N X w) := by
  have HX := Lib.hid hx
  have HV := Lib.hid hv
  have hu := und_key
  clear hx hv
  go_enter Try.func20, Try.ntmps20
  go_wp2_with fail
  go_loopw [3, 4] (fun v i wr => ∃ k : Nat, k ≤ N ∧ i = .int .i64 k ∧ (∃ Ad Cp, Hid (ChsOwn wr w.heap.size v k X Ad Cp)) ∧ Hid (Below w.heap.size w wr)) (fun _ i _ => N - (intOf i).toNat)
  case atStart => exact ⟨0, by omega, rfl, ⟨fun _ => none, fun _ => 0, ChsOwn.nil _ _ _ _ _⟩, Below.refl _ _⟩
  case round =>
    obtain ⟨k, hk, rfl, ⟨Ad, Cp, HO⟩, HB⟩ := hrel
    obtain ⟨w1, rfl⟩ : ∃ w1, w1 = wr := ⟨_, rfl⟩
    by_cases hlt : k < N
    · obtain ⟨b, o, Av, Cv, rfl, hb, hr, hkB, hkl, hvr, hvC, hCm, hnil⟩ := HX.out.2 k hlt
      have hlt' : (k : Int) < N := by omega
      have KS : Hid (∀ W, Below w.heap.size w W → W.rangeAt b (o + k * 34) (bvs (X k).key) ∧ W.cell? ⟨b, o + k * 34 + 32, none⟩ = some (.bool (X k).del) ∧ W.cell? ⟨b, o + k * 34 + 33, none⟩ = some (.slice Av (X k).val.length Cv)) := fun W hW =>
        have h2 := range_below hW hb hr
        ⟨ch_key h2, ch_del h2 hkl, ch_val h2 hkl⟩
      have HR : Hid (∀ W, Below w.heap.size w W → RB W Av (X k).val.length (X k).val) := fun W hW => hvr.below hW
      have hsz : (Try.prog.info? 25).map (·.size) = some (bvs (X k).key).length := by rw [size_key]; simp [bvs, hkl]
      have HK := Lib.hid (show IsB (X k).key ∧ (X k).key.length = 32 from ⟨hkB, hkl⟩)
      have hvl := HV.out k hlt
      have HUP : Hid (∀ _ : Nat, upd X k (X k) = X) := fun _ => upd_self X k
      clear hr hkB hvr hkl hvC hCm hnil
      generalize X k = x at *
      go_wp2_with fail
      rename_i KK hKK
      have HKK := Lib.hid hKK
      clear hKK
      refine wp_region_held_drew (S := fun w' => w'.rangeAt b (o + k * 34) (bvs x.key) ∧ w'.cell? ⟨b, o + k * 34 + 32, none⟩ = some (.bool x.del) ∧ w'.cell? ⟨b, o + k * 34 + 33, none⟩ = some (.slice Av x.val.length Cv)) (by kernel_rfl) (KS.out _ (drewN_below HB.out 1)) fun hH => ?_
      refine wpAnyH_take (i := 0) (oi := ⟨some 11, _, _, _, _, _⟩) rfl (by kernel_rfl) (by kernel_rfl) (by kernel_rfl) (fun _ _ _ h => h) (Or.inl ⟨by rfl, fun w hw => by ((try dsimp only at hw); go_split_ands; go_simp; with_reducible rfl)⟩) (by assumption) ?_
      try simp only [Act.put, List.setIfInBounds_toArray, List.set_cons_zero, List.set_cons_succ]
      refine wpAnyH_take (i := 1) (oi := ⟨some 12, _, _, _, _, _⟩) rfl (by kernel_rfl) (by kernel_rfl) (by kernel_rfl) (fun _ _ _ h => h) (Or.inl ⟨by rfl, fun w hw => by ((try dsimp only at hw); go_split_ands; go_simp; with_reducible rfl)⟩) (by assumption) ?_
      try simp only [Act.put, List.setIfInBounds_toArray, List.set_cons_zero, List.set_cons_succ]
      refine wpAnyH_take (i := 2) (oi := ⟨some 13, _, _, _, _, _⟩) rfl (by kernel_rfl) (by kernel_rfl) (by kernel_rfl) (fun _ _ _ h => h) (Or.inl ⟨by rfl, fun w hw => by ((try dsimp only at hw); go_split_ands; go_simp; with_reducible rfl)⟩) (by assumption) ?_
      try simp only [Act.put, List.setIfInBounds_toArray, List.set_cons_zero, List.set_cons_succ]
      refine wpAnyH_take (i := 3) (oi := ⟨some 14, _, _, _, _, _⟩) rfl (by kernel_rfl) (by kernel_rfl) (by kernel_rfl) (fun _ _ _ h => h) (Or.inl ⟨by rfl, fun w hw => by ((try dsimp only at hw); go_split_ands; go_simp; with_reducible rfl)⟩) (by assumption) ?_
      try simp only [Act.put, List.setIfInBounds_toArray, List.set_cons_zero, List.set_cons_succ]
      refine wpAnyH_take (i := 4) (oi := ⟨some 15, _, _, _, _, _⟩) rfl (by kernel_rfl) (by kernel_rfl) (by kernel_rfl) (fun _ _ _ h => h) (Or.inl ⟨by rfl, fun w hw => by ((try dsimp only at hw); go_split_ands; go_simp; with_reducible rfl)⟩) (by assumption) ?_
      try simp only [Act.put, List.setIfInBounds_toArray, List.set_cons_zero, List.set_cons_succ]
      refine wpAnyH_take (i := 5) (oi := ⟨some 16, _, _, _, _, _⟩) rfl (by kernel_rfl) (by kernel_rfl) (by kernel_rfl) (fun _ _ _ h => h) (yieldsIf_load_mid (by rfl) _ _ rfl _ _ rfl _ _ (fun w hw => by (try dsimp only at hw); go_split_ands; assumption) (by assumption) rfl (by assumption)) (by assumption) ?_
      try simp only [Act.put, List.setIfInBounds_toArray, List.set_cons_zero, List.set_cons_succ]
      refine wpAnyH_take (i := 6) (oi := ⟨some 17, _, _, _, _, _⟩) rfl (by kernel_rfl) (by kernel_rfl) (by kernel_rfl) (fun _ _ _ h => h) (Or.inl ⟨by rfl, fun w hw => by ((try dsimp only at hw); go_split_ands; go_simp; with_reducible rfl)⟩) (by assumption) ?_
      try simp only [Act.put, List.setIfInBounds_toArray, List.set_cons_zero, List.set_cons_succ]
      refine wpAnyH_take (i := 7) (oi := ⟨some 18, _, _, _, _, _⟩) rfl (by kernel_rfl) (by kernel_rfl) (by kernel_rfl) (fun _ _ _ h => h) (Or.inl ⟨by rfl, fun w hw => by ((try dsimp only at hw); go_split_ands; go_simp; with_reducible rfl)⟩) (by assumption) ?_
      try simp only [Act.put, List.setIfInBounds_toArray, List.set_cons_zero, List.set_cons_succ]
      refine wpAnyH_take (i := 8) (oi := ⟨some 19, _, _, _, _, _⟩) rfl (by kernel_rfl) (by kernel_rfl) (by kernel_rfl) (fun _ _ _ h => h) (Or.inl ⟨by rfl, fun w hw => by ((try dsimp only at hw); go_split_ands; go_simp; with_reducible rfl)⟩) (by assumption) ?_
      try simp only [Act.put, List.setIfInBounds_toArray, List.set_cons_zero, List.set_cons_succ]
      refine wpAnyH_take (i := 9) (oi := ⟨some 20, _, _, _, _, _⟩) rfl (by kernel_rfl) (by kernel_rfl) (by kernel_rfl) (fun _ _ _ h => h) (Or.inl ⟨by rfl, fun w hw => by ((try dsimp only at hw); go_split_ands; go_simp; with_reducible rfl)⟩) (by assumption) ?_
      try simp only [Act.put, List.setIfInBounds_toArray, List.set_cons_zero, List.set_cons_succ]
      refine wpAnyH_take (i := 10) (oi := ⟨some 21, _, _, _, _, _⟩) rfl (by kernel_rfl) (by kernel_rfl) (by kernel_rfl) (fun _ _ _ h => h) (Or.inl ⟨by rfl, fun w hw => by ((try dsimp only at hw); go_split_ands; go_simp; with_reducible rfl)⟩) (by assumption) ?_
      try simp only [Act.put, List.setIfInBounds_toArray, List.set_cons_zero, List.set_cons_succ]
      refine wpAnyH_take (i := 11) (oi := ⟨some 22, _, _, _, _, _⟩) rfl (by kernel_rfl) (by kernel_rfl) (by kernel_rfl) (fun _ _ _ h => h) (Or.inl ⟨by rfl, fun w hw => by ((try dsimp only at hw); go_split_ands; go_simp; with_reducible rfl)⟩) (by assumption) ?_
      try simp only [Act.put, List.setIfInBounds_toArray, List.set_cons_zero, List.set_cons_succ]
      refine wpAnyH_take (i := 12) (oi := ⟨some 23, _, _, _, _, _⟩) rfl (by kernel_rfl) (by kernel_rfl) (by kernel_rfl) (fun _ _ _ h => h) (Or.inl ⟨by rfl, fun w hw => by ((try dsimp only at hw); go_split_ands; go_simp; with_reducible rfl)⟩) (by assumption) ?_
      try simp only [Act.put, List.setIfInBounds_toArray, List.set_cons_zero, List.set_cons_succ]
      refine wpAnyH_take (i := 13) (oi := ⟨some 24, _, _, _, _, _⟩) rfl (by kernel_rfl) (by kernel_rfl) (by kernel_rfl) (fun _ _ _ h => h) (Or.inl ⟨by rfl, fun w hw => by ((try dsimp only at hw); go_split_ands; go_simp; with_reducible rfl)⟩) (by assumption) ?_
      try simp only [Act.put, List.setIfInBounds_toArray, List.set_cons_zero, List.set_cons_succ]
      refine wpAnyH_take (i := 14) (oi := ⟨some 25, _, _, _, _, _⟩) rfl (by kernel_rfl) (by kernel_rfl) (by kernel_rfl) (fun _ _ _ h => h) (Or.inl ⟨by rfl, fun w hw => by ((try dsimp only at hw); go_split_ands; go_simp; with_reducible rfl)⟩) (by assumption) ?_
      try simp only [Act.put, List.setIfInBounds_toArray, List.set_cons_zero, List.set_cons_succ]
      refine wpAnyH_take (i := 15) (oi := ⟨some 26, _, _, _, _, _⟩) rfl (by kernel_rfl) (by kernel_rfl) (by kernel_rfl) (fun _ _ _ h => h) (Or.inl ⟨by rfl, fun w hw => by ((try dsimp only at hw); go_split_ands; go_simp; with_reducible rfl)⟩) (by assumption) ?_
      try simp only [Act.put, List.setIfInBounds_toArray, List.set_cons_zero, List.set_cons_succ]
      refine wpAnyH_ready (rs := [16]) (by kernel_rfl) (by simp) ?_
      refine AllReadyH.cons rfl (fun K hK => ?_) (AllReadyH.nil)
      go_simp
      refine (copyBytes_any Av x.val.length Cv x.val (w1.drewN 1) (HR.out _ (drewN_below HB.out 1)) hvl).mono ?_
      rintro e w2 ⟨vc, rfl, hoc, hbc⟩
      have HB2 : Hid (Below w.heap.size w w2) := (drewN_below HB.out 1).trans (hbc.mono (drewN_below HB.out 1).size)
      have HO2 := Lib.hid ((HO.out.later (drewN_below (Below.refl _ _) 1)).later hbc)
      obtain ⟨A2, c2, e2, hr2, hlo2, hnil2, hle2⟩ := hoc.form
      subst e2
      have hcm2 := own_max hoc
      have HV2 := Lib.hid (show RB w2 A2 x.val.length x.val ∧ x.val.length ≤ c2 ∧ c2 ≤ maxLen ∧ (A2 = none → c2 = 0) from ⟨hr2, hle2, hcm2, hnil2⟩)
      have HAP : Hid (0 < x.val.length → ∀ ad, A2 = some ad → some ad.block ≠ u3.ownBlock) := fun _ ad e he => by
        have q1 := (hlo2 ad e).1
        have q2 := (HO.out.own.lt _ he.symm).2
        have q3 : (w1.drewN 1).heap.size = w1.heap.size := rfl
        omega
      refine hK.out _ _ (KS.out _ HB2.out) (fun hH2 => ?_)
      clear hK hH hoc hbc hr2 hlo2 hnil2 hle2 hcm2
      refine wpAnyH_ready (rs := [17]) (by kernel_rfl) (by simp) ?_
      refine AllReadyH.cons (o := ⟨some 28, _, _, _, _, _⟩) rfl (fun K hK => ?_) (AllReadyH.nil)
      refine wpOp_build (o := ⟨some 28, _, _, _, _, _⟩) ?hw1 w2 45 #[(0, .tmp 16), (1, .tmp 21), (2, .tmp 27)] rfl [(0, .agg (bvs x.key).toArray), (1, .bool x.del), (2, .slice A2 x.val.length c2)] ?hv1 _ (built_ch HK.out.2) ?hh1
      case hw1 => kernel_rfl
      case hv1 => simp [go_sem]
      refine hK.out _ _ (KS.out _ HB2.out) (fun hH3 => ?_)
      clear hK hH2
      refine wpAnyH_ready (rs := [18]) (by kernel_rfl) (by simp) ?_
      refine AllReadyH.cons (o := ⟨some 29, _, _, _, _, _⟩) rfl (fun K hK => ?_) (AllReadyH.nil)
      refine wpOp_buildSlice1 (o := ⟨some 29, _, _, _, _, _⟩) ?hw2 w2 30 45 _ 34 (.tmp 28) rfl und_chl info_chg (by decide) (by decide) (chC x A2 c2).toArray ?hx2 ?hs2 ?hh2
      case hw2 => kernel_rfl
      case hx2 => rfl
      case hs2 => rw [List.size_toArray, chC_length HK.out.2]
      refine hK.out _ _ (KS.out _ (HB2.out.alloc HB2.out.size _)) (fun hH4 => ?_)
      clear hK hH3
      refine wpAnyH_ready (rs := [19]) (by kernel_rfl) (by simp) ?_
      refine AllReadyH.cons (o := ⟨some 30, _, _, _, _, _⟩) rfl (fun K hK => ?_) (AllReadyH.nil)
      refine wpOp_append1C (o := ⟨some 30, _, _, _, _, _⟩) und_chl info_chg3 rfl ?hw3 w2 (.tmp 11) (.tmp 29) rfl w.heap.size u3 k _ HO2.out.own (chC x A2 c2) (chC_length HK.out.2) chC_one ?hs3 ?hx3 (by omega) (by omega) HB2.out.size ?hh3
      case hw3 => kernel_rfl
      case hs3 => rfl
      case hx3 => rfl
      intro v3 w3 ho3 hg3 hl3
      have HO3 := Lib.hid (HO2.out.more HK.out HV2.out HAP.out ho3 hg3 hl3)
      rw [HUP.out 0] at HO3
      have HB3 : Hid (Below w.heap.size w w3) := HB2.out.grown hg3 HB2.out.size HO2.out.ge
      refine hK.out _ _ (KS.out _ HB3.out) (fun hH5 => ?_)
      clear hK hH4 ho3 hg3 hl3
      refine wpAnyH_take (i := 20) (oi := ⟨some 3, _, _, _, _, _⟩) rfl (by kernel_rfl) (by kernel_rfl) (by kernel_rfl) (fun _ _ _ h => h) (Or.inl ⟨by rfl, fun w hw => by ((try dsimp only at hw); go_split_ands; go_simp; with_reducible rfl)⟩) (by assumption) ?_
      try simp only [Act.put, List.setIfInBounds_toArray, List.set_cons_zero, List.set_cons_succ]
      refine wpAnyH_done (by kernel_rfl) ?_ _
      change KK _ _
      refine HKK.out _ _ ?_
      clear hH5 hu hsz
      go_wp2_with fail
      go_roundw
      case rel => exact ⟨k + 1, by omega, by go_num, ⟨_, _, HO3.out⟩, HB3.out⟩
      case measure => simp [intOf]; omega
    · have hnlt : ¬ (k : Int) < N := by omega
      obtain rfl : k = N := by omega
      go_wp2_with fail
      go_ret
      exact ⟨_, _, _, rfl, HO.out, HB.out⟩
end Go.Proofs.Ytkpbeibcfaenhaa
