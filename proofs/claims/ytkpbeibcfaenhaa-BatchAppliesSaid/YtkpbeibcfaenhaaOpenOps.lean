/- A list of steps (ledgerlaw3.BatchOp) that came in. -/
import Derived.Test.YtkpbeibcfaenhaaUpTo
import Derived.Test.YtkpbeibcfaenhaaOpenChs
namespace Go.Proofs.Ytkpbeibcfaenhaa
open Go.ChangeShapes Go.WideShapes Go.RowKit
instance : Inhabited OpN := ⟨⟨0, 0, [], [], []⟩⟩
/-- What the last three cells of a step bring. -/
def RestAt (w : World) (l : List Value) : Prop :=
  ∃ (A : Option Addr) (c : Nat) (raw : List Nat) (B : Option Addr) (n d : Nat) (X : Nat → Chg) (D : Option Addr) (q e : Nat) (Y : Nat → Chg), l = [.slice A raw.length c, .slice B n d, .slice D q e] ∧
    RB w A raw.length raw ∧ raw.length ≤ c ∧ c ≤ maxLen ∧ (A = none → c = 0) ∧ ChsAt w B n X ∧ n ≤ d ∧ d ≤ maxLen ∧ (B = none → d = 0) ∧ ChsAt w D q Y ∧ q ≤ e ∧ e ≤ maxLen ∧ (D = none → e = 0)
section
variable {H : Type} {enc : TypeId × Value → H} {w : World} {base : Nat} {held : Bool}
theorem ops_of {t e tk ti q tc : TypeId} {a : Option Addr} {N cap : Nat} {v : Value} {d : DataW H} {ps : List MemPlace} {fs : Array Field} {f0 f1 f2 f3 f4 f5 f6 : Field} (ht : Try.prog.underlying t = some (.slice e)) (he : Try.prog.underlying e = some (.struct fs))
    (h0 : fs[0]? = some f0) (h1 : fs[1]? = some f1) (h2 : fs[2]? = some f2) (h3 : fs[3]? = some f3) (h4 : fs[4]? = some f4) (h5 : fs[5]? = some f5) (h6 : fs[6]? = some f6)
    (o0 : f0.offset = 0) (o1 : f1.offset = 1) (o2 : f2.offset = 2) (o3 : f3.offset = 34) (o4 : f4.offset = 66) (o5 : f5.offset = 67) (o6 : f6.offset = 68)
    (t0 : f0.type = ti) (t1 : f1.type = ti) (t2 : f2.type = tk) (t3 : f3.type = tk) (t4 : f4.type = q) (t5 : f5.type = tc) (t6 : f6.type = tc) (hq : q = 31) (hc : tc = 30)
    (ki : Try.prog.cellsOf ti = 1) (kk : Try.prog.cellsOf tk = 32) (kq : Try.prog.cellsOf q = 1) (kc : Try.prog.cellsOf tc = 1) (ui : Try.prog.underlying ti = some (.int .i64)) (uk : Try.prog.underlying tk = some (.array 32 5))
    (ce : Try.prog.cellsOf e = 69) (hv : v = .slice a N cap) (h : DataW.Trod enc Try.prog w base (fun _ => true) held t v d ps) : ∃ X, OpsAt w a N X ∧ ∀ k, k < N → RestAt w (X k).rest := by
  subst hv
  obtain ⟨fuel, hf⟩ := h
  rcases Deep.open_slice ht hf with ⟨hcs, _⟩ | ⟨ad, len, cap', m, n, D, Pl, hcs, _, hl, hm, hmm, hx, hrow⟩
  · simp [Value.cells] at hcs
    obtain ⟨rfl, rfl, rfl⟩ := hcs
    exact ⟨fun _ => ⟨0, 0, [], [], []⟩, ⟨by omega, fun k hk => by omega⟩, fun k hk => by omega⟩
  · simp [Value.cells] at hcs
    obtain ⟨rfl, rfl, rfl⟩ := hcs
    simp only [if_true] at hmm
    subst hmm
    rw [ce] at hrow
    rcases Nat.eq_zero_or_pos N with hz0 | hpos
    · subst hz0
      exact ⟨fun _ => ⟨0, 0, [], [], []⟩, ⟨by omega, fun k hk => by omega⟩, fun k hk => by omega⟩
    obtain ⟨b, o, eb⟩ : ∃ b o, ad = ⟨b, o, none⟩ := by
      obtain ⟨cs, g1, g2⟩ := hrow 0 (by omega)
      obtain ⟨_, g3, g4⟩ := World.cells?_some g1
      rw [show (0 : Nat) * 69 = 0 from rfl] at g4
      exact rows_plain (by omega) g3 g4
    subst eb
    have each : ∀ k, k < N → ∃ y : OpN, (∃ b' o', (some ⟨b, o, none⟩ : Option Addr) = some ⟨b', o', none⟩ ∧ b' < w.heap.size ∧ w.rangeAt b' (o' + k * 69) y.cells ∧ y.ok) ∧ RestAt w y.rest := fun k hk => by
      obtain ⟨cs, g1, g2⟩ := hrow k (by omega)
      obtain ⟨_, g3, g4⟩ := World.cells?_some g1
      obtain ⟨xs, n', _, _, _, hxl, hg⟩ := DataW.trod_struct he g2
      have hfs : 6 < fs.size := (Array.getElem?_eq_some_iff.1 h6).1
      have e0 := hg 0 f0 h0
      have e1 := hg 1 f1 h1
      have e2 := hg 2 f2 h2
      have e3 := hg 3 f3 h3
      have e4 := hg 4 f4 h4
      have e5 := hg 5 f5 h5
      have e6 := hg 6 f6 h6
      rw [o0, t0, ki, List.getElem?_eq_getElem (by omega)] at e0
      rw [o1, t1, ki, List.getElem?_eq_getElem (by omega)] at e1
      rw [o2, t2, kk, List.getElem?_eq_getElem (by omega)] at e2
      rw [o3, t3, kk, List.getElem?_eq_getElem (by omega)] at e3
      rw [o4, t4, kq, List.getElem?_eq_getElem (by omega), hq] at e4
      rw [o5, t5, kc, List.getElem?_eq_getElem (by omega), hc] at e5
      rw [o6, t6, kc, List.getElem?_eq_getElem (by omega), hc] at e6
      obtain ⟨a0, q0, _, w0⟩ := DataW.trod_int ui e0
      obtain ⟨a1, q1, _, w1⟩ := DataW.trod_int ui e1
      obtain ⟨ds, q2, hB, hdl⟩ := arr_of uk und_u8 (by kernel_rfl) (by rw [List.length_take, List.length_drop]; omega) e2
      obtain ⟨es, q3, hB2, hdl2⟩ := arr_of uk und_u8 (by kernel_rfl) (by rw [List.length_take, List.length_drop]; omega) e3
      obtain ⟨A, c, raw, q4, r1, r2, r3, r4, _⟩ := bytes_of und_raw und_u8 (by kernel_rfl) e4
      obtain ⟨B, n1, d1, X1, q5, s1, s2, s3, s4, _⟩ := chs_open e5
      obtain ⟨B2, n2, d2, X2, q6, u1, u2, u3, u4, _⟩ := chs_open e6
      have hcs : cs = opC a0 a1 ds es [.slice A raw.length c, .slice B n1 d1, .slice B2 n2 d2] := by
        have a1 : cs = cs.take 1 ++ ((cs.drop 1).take 1 ++ ((cs.drop 2).take 32 ++ ((cs.drop 34).take 32 ++ ((cs.drop 66).take 1 ++ ((cs.drop 67).take 1 ++ (cs.drop 68).take 1))))) := by
          rw [show cs.drop 68 = (cs.drop 67).drop 1 by rw [List.drop_drop], List.take_of_length_le (l := (cs.drop 67).drop 1) (by simp; omega), List.take_append_drop,
            show cs.drop 67 = (cs.drop 66).drop 1 by rw [List.drop_drop], List.take_append_drop, show cs.drop 66 = (cs.drop 34).drop 32 by rw [List.drop_drop], List.take_append_drop,
            show cs.drop 34 = (cs.drop 2).drop 32 by rw [List.drop_drop], List.take_append_drop, show cs.drop 2 = (cs.drop 1).drop 1 by rw [List.drop_drop], List.take_append_drop, List.take_append_drop]
        rw [List.drop_zero] at q0
        rw [a1, q0, q1, q2, q3, q4, q5, q6]
        rfl
      have hblk : b < w.heap.size := by
        have h5 := g4 0 (by omega)
        rw [List.getElem?_eq_getElem (by omega)] at h5
        have := lt_of_cell h5
        rwa [block_add, block_add] at this
      refine ⟨⟨a0, a1, ds, es, [.slice A raw.length c, .slice B n1 d1, .slice B2 n2 d2]⟩, ⟨b, o, rfl, hblk, fun j v hj => ?_, ⟨hB, hdl, hB2, hdl2, rfl, ?_⟩⟩, A, c, raw, B, n1, d1, X1, B2, n2, d2, X2, rfl, r1, r2, r3, r4, s1, s2, s3, s4, u1, u2, u3, u4⟩
      · have hjl : j < 69 := by
          have := (List.getElem?_eq_some_iff.1 hj).1
          unfold OpN.cells at this
          rw [← hcs] at this
          omega
        have h5 := g4 j hjl
        rw [add_lit, add_lit] at h5
        rw [h5, hcs]
        exact hj
      · intro v hv
        simp only [List.mem_cons, List.not_mem_nil, or_false] at hv
        rcases hv with rfl | rfl | rfl <;> rfl
    obtain ⟨X, hX⟩ := Deep.choose_lt each
    exact ⟨X, ⟨by omega, fun k hk => (hX k hk).1⟩, fun k hk => (hX k hk).2⟩
end
theorem key_walk (P : Option Addr) (N c : Nat) (X : Nat → OpN) (w : World) (hx : OpsAt w P N X) :
    Calls Try.prog 10 #[.slice P N c] w fun e w' => e = .returned (.bool true) ∧ Below w.heap.size w w' := by
  have H := Lib.hid (upto_any 1 3 P N c X w hx (fun k hk h1 h2 W _ => by
    obtain ⟨_, _, _, _, _, hok⟩ := hx.2 k hk
    obtain ⟨kd, hkd⟩ : ∃ kd : Nat, (X k).kind = kd := ⟨(X k).kind.toNat, by omega⟩
    have := plays_key kd (by omega) (X k).n (X k).ds (X k).es (X k).rest W hok.b1 hok.l1 hok.b2 hok.l2 hok.l3
    rw [← hkd] at this
    exact this))
  clear hx
  go_enter Try.func10, Try.ntmps10
  go_wp2_with fail
  refine H.out.mono ?_
  rintro e w1 ⟨rfl, hb⟩
  have HB := Lib.hid hb
  clear hb
  go_wp2_with fail
  go_ret
  exact ⟨rfl, HB.out⟩
end Go.Proofs.Ytkpbeibcfaenhaa
