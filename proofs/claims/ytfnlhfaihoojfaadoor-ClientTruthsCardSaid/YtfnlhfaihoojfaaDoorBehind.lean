/- ledgerref1.behind. -/
import Derived.Test.YtfnlhfaihoojfaaDoorWords
namespace Go.Proofs.YtfnlhfaihoojfaaDoor
open Go.RowKit
theorem boxNew {P : Program} {ops : Array Oper} {rest : List Oper} {o : Oper} {a : Act} {w : World} {Q : Exit → Act → World → Prop} (hgd : o.guard = none) (t : TypeId) (x : Operand) (ho : o.op = .box t x) (cs : Array Value) (hx : a.eval x = .agg cs)
    (h : ∀ w', Hid (BlkIs w' w.heap.size t cs) → Hid (Below w.heap.size w w') → Hid (w'.heap.size = w.heap.size + 1) → wpList P ops Q rest (a.put o.dst (.pointer (some ⟨w.heap.size, 0, none⟩))) w') : wpList P ops Q (o :: rest) a w := by
  refine wpList_plain hgd fun K hK => ?_
  have h2 := h _ (BlkIs.new w t cs) ((Below.refl _ _).alloc (Nat.le_refl _) _) (by show _ = _; simp)
  unfold Oper.wp execOp
  simp only [ho, hx]
  exact hK _ _ h2
theorem built_8 (a b c d e f g z : Int) : Tryd.prog.built 82 [(0, .int .u32 a), (1, .int .u32 b), (2, .int .u32 c), (3, .int .u32 d), (4, .int .u32 e), (5, .int .u32 f), (6, .int .u32 g), (7, .int .u32 z)] = some #[.int .u32 a, .int .u32 b, .int .u32 c, .int .u32 d, .int .u32 e, .int .u32 f, .int .u32 g, .int .u32 z] := by kernel_rfl
theorem behind_a (one a b c : Nat) : (((one + (high0 a + most a b c) % 4294967296) % 4294967296 : Nat) : Int) = ((one : Int) + (high0 a : Nat) + (most a b c : Nat)) % 4294967296 := by omega
theorem behind_e (d one : Nat) : (((d + one) % 4294967296 : Nat) : Int) = ((d : Int) + one) % 4294967296 := by omega
def ints8 (a b c d e f g z : Int) : List Value := [.int .u32 a, .int .u32 b, .int .u32 c, .int .u32 d, .int .u32 e, .int .u32 f, .int .u32 g, .int .u32 z]
theorem ints8_one (a b c d e f g z : Int) : ∀ v ∈ ints8 a b c d e f g z, v.oneCell' = true := by
  intro v hv
  simp only [ints8, List.mem_cons, List.not_mem_nil, or_false] at hv
  rcases hv with rfl | rfl | rfl | rfl | rfl | rfl | rfl | rfl <;> rfl
theorem ints8_length (a b c d e f g z : Int) : (ints8 a b c d e f g z).length = 8 := rfl
theorem eval_ints8 {v : Value} {a b c d e f g z : Int} (h : v = .agg #[.int .u32 a, .int .u32 b, .int .u32 c, .int .u32 d, .int .u32 e, .int .u32 f, .int .u32 g, .int .u32 z]) : v = .agg (ints8 a b c d e f g z).toArray := h
theorem set8_blk {w : World} {gv : Nat} {t : TypeId} {a b c d e f g z a' b' c' d' e' f' g' z' : Nat} (H : BlkU w gv t [a', b', c', d', e', f', g', z']) : BlkU ((((((((w.setCell ⟨gv, 0, none⟩ (.int .u32 (a : Nat))).setCell ⟨gv, 1, none⟩ (.int .u32 (b : Nat))).setCell ⟨gv, 2, none⟩ (.int .u32 (c : Nat))).setCell ⟨gv, 3, none⟩ (.int .u32 (d : Nat))).setCell ⟨gv, 4, none⟩ (.int .u32 (e : Nat))).setCell ⟨gv, 5, none⟩ (.int .u32 (f : Nat))).setCell ⟨gv, 6, none⟩ (.int .u32 (g : Nat))).setCell ⟨gv, 7, none⟩ (.int .u32 (z : Nat))) gv t [a, b, c, d, e, f, g, z] :=
  (((((((H.set 0 a).set 1 b).set 2 c).set 3 d).set 4 e).set 5 f).set 6 g).set 7 z
theorem set8_grown (w : World) (gv a b c d e f g z : Nat) : w.grownBy ((((((((w.setCell ⟨gv, 0, none⟩ (.int .u32 (a : Nat))).setCell ⟨gv, 1, none⟩ (.int .u32 (b : Nat))).setCell ⟨gv, 2, none⟩ (.int .u32 (c : Nat))).setCell ⟨gv, 3, none⟩ (.int .u32 (d : Nat))).setCell ⟨gv, 4, none⟩ (.int .u32 (e : Nat))).setCell ⟨gv, 5, none⟩ (.int .u32 (f : Nat))).setCell ⟨gv, 6, none⟩ (.int .u32 (g : Nat))).setCell ⟨gv, 7, none⟩ (.int .u32 (z : Nat))) (some gv) :=
  grown_trans (grown_trans (grown_trans (grown_trans (grown_trans (grown_trans (grown_trans (grown_setCell w (g := gv) 0 _) (grown_setCell _ (g := gv) 1 _)) (grown_setCell _ (g := gv) 2 _)) (grown_setCell _ (g := gv) 3 _)) (grown_setCell _ (g := gv) 4 _)) (grown_setCell _ (g := gv) 5 _)) (grown_setCell _ (g := gv) 6 _)) (grown_setCell _ (g := gv) 7 _)
theorem addSt_comm (s v : St) : addSt s v = addSt v s := by
  simp [addSt, Nat.add_comm]
theorem pick_bits' {e f g : Nat} (he : e < 4294967296) (hf : f < 4294967296) (hg : g < 4294967296) : bits .xor .u32 (bits .and .u32 (e : Int) (f : Int)) (bits .and .u32 (bits .xor .u32 IntKind.u32.max (e : Int)) (g : Int)) = ((pick e f g : Nat) : Int) := by
  rw [show IntKind.u32.max = 4294967295 by rfl, not32 e he, and32 _ _ he hf, and32 _ _ (by omega) hg, xor32 _ _ (and_lt32 he) (and_lt32 (by omega)), pick_ref he hg]
theorem most_bits' {a b c : Nat} (ha : a < 4294967296) (hb : b < 4294967296) (hc : c < 4294967296) : bits .xor .u32 (bits .xor .u32 (bits .and .u32 (a : Int) (b : Int)) (bits .and .u32 (a : Int) (c : Int))) (bits .and .u32 (b : Int) (c : Int)) = ((most a b c : Nat) : Int) := by
  rw [and32 _ _ ha hb, and32 _ _ ha hc, and32 _ _ hb hc, xor3 _ _ _ (and_lt32 ha) (and_lt32 ha) (and_lt32 hb), most_ref]
set_option maxRecDepth 100000 in
set_option maxHeartbeats 8000000 in
theorem behind_any (s : St) (ws : List Nat) (w : World) (hs : s.Ok) (hw : IsW ws) (hl : ws.length = 64) (ht : TabU w 3 kL) :
    Calls Tryd.prog 67 #[.agg (uvs s.list).toArray, .agg (uvs ws).toArray] w fun e w' => e = .returned (.agg (uvs (addSt s (roundsN s ws 64)).list).toArray) ∧ Below w.heap.size w w' := by
  have HS := Lib.hid hs
  have HW := Lib.hid hw
  have HL := Lib.hid hl
  have HT := Lib.hid ht
  clear hs hw hl ht
  go_enter Tryd.func67, Tryd.ntmps67
  go_wp2_with (first
    | ((with_reducible refine stopAt (o := ⟨some 2, _, _, _, _, _⟩) ?_); refine boxNew (o := ⟨some 2, _, _, _, _, _⟩) (by rfl) 82 (.tmp 0) rfl _ rfl ?_; intro w1 HB1 HW1 HS1)
    | ((with_reducible refine stopAt (o := ⟨some 3, _, _, _, _, _⟩) ?_); refine boxNew (o := ⟨some 3, _, _, _, _, _⟩) (by rfl) 111 (.tmp 1) rfl _ rfl ?_; intro w2 HB2 HW2 HS2)
    | ((with_reducible refine stopAt (o := ⟨some 4, _, _, _, _, _⟩) ?_); refine allocNew (o := ⟨some 4, _, _, _, _, _⟩) (by rfl) 82 rfl _ _ info_8 ?_; intro w3 HB3 HW3 HS3)
    | ((with_reducible refine stopAt (o := ⟨some 13, _, _, _, _, _⟩) ?_); refine loadRange (o := ⟨some 13, _, _, _, _, _⟩) (by rfl) 82 (.tmp 2) rfl w.heap.size 0 (uvs s.list) rfl (BlkIs.range (BlkIs.below (BlkIs.below HB1.out HW2.out) HW3.out)) row_8 (by rw [size_8]; rfl) ?_)
    | ((with_reducible refine stopAt (o := ⟨some 5, _, _, _, _, _⟩) ?_); refine allocNew (o := ⟨some 5, _, _, _, _, _⟩) (by rfl) 82 rfl _ _ info_8 ?_; intro w4 HB4 HW4 HS4)
    | ((with_reducible refine stopAt (o := ⟨none, .store _ _ _, _, _, _, _⟩) ?_); refine storeV (o := ⟨none, _, _, _, _, _⟩) (by rfl) 82 (.tmp 5) (.tmp 13) rfl w3.heap.size (uvs s.list) (uvs (zs 8)) 82 rfl rfl HB4.out (by rw [size_8]; rfl) (by rfl) (uvs_oneCell _) ?_; intro w5 HB5 HG5 HS5))
  have HSB : Hid (BlkU w5 w.heap.size 82 s.list) := BlkIs.grown (BlkIs.below (BlkIs.below (BlkIs.below HB1.out HW2.out) HW3.out) HW4.out) HG5.out (by
    have h1 := HS1.out
    have h2 := HS2.out
    have h3 := HS3.out
    intro e; injection e with e; omega)
  have HWB : Hid (BlkU w5 w1.heap.size 111 ws) := BlkIs.grown (BlkIs.below (BlkIs.below HB2.out HW3.out) HW4.out) HG5.out (by
    have h2 := HS2.out
    have h3 := HS3.out
    intro e; injection e with e; omega)
  have HRB : Hid (BlkIs w5 w2.heap.size 82 (uzero 8)) := BlkIs.grown (BlkIs.below HB3.out HW4.out) HG5.out (by
    have h3 := HS3.out
    intro e; injection e with e; omega)
  have HVB : Hid (BlkU w5 w3.heap.size 82 s.list) := HB5.out
  have HZ : Hid (w.heap.size < w1.heap.size ∧ w1.heap.size < w2.heap.size ∧ w2.heap.size < w3.heap.size ∧ w3.heap.size < w5.heap.size) := by
    have h1 := HS1.out
    have h2 := HS2.out
    have h3 := HS3.out
    have h4 := HS4.out
    have h5 := HS5.out
    show _ ∧ _ ∧ _ ∧ _
    omega
  have HB : Hid (Below w.heap.size w w5) := (((HW1.out.trans (HW2.out.mono (by have := HZ.out; omega))).trans (HW3.out.mono (by have := HZ.out; omega))).trans (HW4.out.mono (by have := HZ.out; omega))).grown HG5.out (by have := HS4.out; have := HZ.out; omega) (fun k hk => by have := HZ.out; injection hk with hk; omega)
  have HTB : Hid (TabU w5 3 kL) := HT.out.below HB.out
  have HN2 : Hid (3 < w.heap.size) := HT.out.1
  clear HB1 HB2 HB3 HB4 HB5 HW1 HW2 HW3 HW4 HS1 HS2 HS3 HS4 HS5 HG5 HT
  generalize w1.heap.size = gw at *
  generalize w2.heap.size = gr at *
  generalize w3.heap.size = gv at *
  go_loopw [6] (fun i wr => ∃ k a b c d e f g z : Nat, k ≤ 64 ∧ i = .int .i64 k ∧ Hid (roundsN s ws k = ⟨a, b, c, d, e, f, g, z⟩) ∧ Hid (BlkU wr gv 82 [a, b, c, d, e, f, g, z]) ∧ Hid (TabU wr 3 kL) ∧ Hid (BlkU wr gw 111 ws) ∧ Hid (BlkU wr w.heap.size 82 s.list) ∧ Hid (BlkIs wr gr 82 (uzero 8)) ∧ Hid (Below w.heap.size w wr) ∧ Hid (w.heap.size < gw ∧ gw < gr ∧ gr < gv ∧ gv < wr.heap.size)) (fun i _ => 64 - (intOf i).toNat)
  case atStart => exact ⟨0, s.a, s.b, s.c, s.d, s.e, s.f, s.g, s.h, by omega, rfl, rfl, HVB.out, HTB.out, HWB.out, HSB.out, HRB.out, HB.out, HZ.out⟩
  case round =>
    clear HVB HTB HWB HSB HRB HB HZ
    obtain ⟨k, a, b, c, d, e, f, g, z, hk, rfl, HR, HV, HT, HWB, HSB, HRB, HB, HZ⟩ := hrel
    obtain ⟨w1, rfl⟩ : ∃ w1, w1 = wr := ⟨_, rfl⟩
    have hok := roundsN_ok HS.out ws k
    rw [HR.out] at hok
    obtain ⟨la, lb, lc, ld, le, lf, lg, lz⟩ := hok
    simp only at la lb lc ld le lf lg lz
    by_cases hlt : k < 64
    · have cw := HWB.out.cell (i := k) (by rw [HL.out]; exact hlt)
      have ck := HT.out.2 k hlt
      have HRN : Hid (roundsN s ws (k + 1) = roundN ⟨a, b, c, d, e, f, g, z⟩ (kL.getD k 0) (ws.getD k 0)) := by
        show _ = _
        rw [← HR.out]
        rfl
      have HCW : Hid (∀ w' : World, Hid (BlkU w' gw 111 ws) → w'.cell? ⟨gw, k, none⟩ = some (.int .u32 (ws.getD k 0 : Nat))) := fun w' h => h.out.cell (i := k) (by rw [HL.out]; exact hlt)
      have HCK : Hid (∀ w' : World, Hid (TabU w' 3 kL) → w'.cell? ⟨3, k, none⟩ = some (.int .u32 (kL.getD k 0 : Nat))) := fun w' h => h.out.2 k hlt
      generalize ws.getD k 0 = wk at *
      generalize kL.getD k 0 = kk at *
      clear cw ck
      have hj : (k : Int) < 64 := by omega
      have hi : (0 : Int) ≤ (k : Int) := by omega
      obtain ⟨one, HON, hone⟩ : ∃ one : Nat, Hid (oneN ⟨a, b, c, d, e, f, g, z⟩ kk wk = one) ∧ (((z : Int) + (high1 e : Nat) + (pick e f g : Nat) + kk) % 4294967296 + wk) % 4294967296 = (one : Int) := ⟨_, rfl, by
        simp only [oneN]
        omega⟩
      obtain ⟨n1, HN1, hn1⟩ : ∃ n1 : Nat, Hid (∀ _ : Nat, (one + twoN ⟨a, b, c, d, e, f, g, z⟩) % 4294967296 = n1) ∧ ((one : Int) + (high0 a : Nat) + (most a b c : Nat)) % 4294967296 = (n1 : Int) := ⟨_, fun _ => rfl, by
        simp only [twoN]
        omega⟩
      obtain ⟨n5, HN5, hn5⟩ : ∃ n5 : Nat, Hid (∀ _ : Nat, (d + one) % 4294967296 = n5) ∧ ((d : Int) + one) % 4294967296 = (n5 : Int) := ⟨_, fun _ => rfl, by omega⟩
      have h1 := high1_bits le
      have h0 := high0_bits la
      have hp := pick_bits' le lf lg
      have hm := most_bits' la lb lc
      have c0 : w1.cell? ⟨gv, 0, none⟩ = some (.int .u32 (a : Int)) := HV.out.cell (i := 0) (by simp)
      have c1 : w1.cell? ⟨gv, 1, none⟩ = some (.int .u32 (b : Int)) := HV.out.cell (i := 1) (by simp)
      have c2 : w1.cell? ⟨gv, 2, none⟩ = some (.int .u32 (c : Int)) := HV.out.cell (i := 2) (by simp)
      have c3 : w1.cell? ⟨gv, 3, none⟩ = some (.int .u32 (d : Int)) := HV.out.cell (i := 3) (by simp)
      have c4 : w1.cell? ⟨gv, 4, none⟩ = some (.int .u32 (e : Int)) := HV.out.cell (i := 4) (by simp)
      have c5 : w1.cell? ⟨gv, 5, none⟩ = some (.int .u32 (f : Int)) := HV.out.cell (i := 5) (by simp)
      have c6 : w1.cell? ⟨gv, 6, none⟩ = some (.int .u32 (g : Int)) := HV.out.cell (i := 6) (by simp)
      have c7 : w1.cell? ⟨gv, 7, none⟩ = some (.int .u32 (z : Int)) := HV.out.cell (i := 7) (by simp)
      go_wp2_with fail
      go_quiet ((first
        | (go_at_call 83; exact Calls.quiet_of_same (turn_at 6 _ _ _ le (by omega) (by omega) (by omega)))
        | (go_at_call 83; exact Calls.quiet_of_same (turn_at 11 _ _ _ le (by omega) (by omega) (by omega)))
        | (go_at_call 83; exact Calls.quiet_of_same (turn_at 25 _ _ _ le (by omega) (by omega) (by omega)))))
      replace HV : Hid (BlkU (w1.drewN nq) gv 82 [a, b, c, d, e, f, g, z]) := HV.out
      replace HT : Hid (TabU (w1.drewN nq) 3 kL) := HT.out
      replace HWB : Hid (BlkU (w1.drewN nq) gw 111 ws) := HWB.out
      replace HSB : Hid (BlkU (w1.drewN nq) w.heap.size 82 s.list) := HSB.out
      replace HRB : Hid (BlkIs (w1.drewN nq) gr 82 (uzero 8)) := HRB.out
      replace HB : Hid (Below w.heap.size w (w1.drewN nq)) := Lib.hid (drewN_below HB.out _)
      replace HZ : Hid (w.heap.size < gw ∧ gw < gr ∧ gr < gv ∧ gv < (w1.drewN nq).heap.size) := HZ.out
      clear c0 c1 c2 c3 c4 c5 c6 c7
      generalize w1.drewN nq = w2 at *
      have c0 : w2.cell? ⟨gv, 0, none⟩ = some (.int .u32 (a : Int)) := HV.out.cell (i := 0) (by simp)
      have c1 : w2.cell? ⟨gv, 1, none⟩ = some (.int .u32 (b : Int)) := HV.out.cell (i := 1) (by simp)
      have c2 : w2.cell? ⟨gv, 2, none⟩ = some (.int .u32 (c : Int)) := HV.out.cell (i := 2) (by simp)
      have c3 : w2.cell? ⟨gv, 3, none⟩ = some (.int .u32 (d : Int)) := HV.out.cell (i := 3) (by simp)
      have c4 : w2.cell? ⟨gv, 4, none⟩ = some (.int .u32 (e : Int)) := HV.out.cell (i := 4) (by simp)
      have c5 : w2.cell? ⟨gv, 5, none⟩ = some (.int .u32 (f : Int)) := HV.out.cell (i := 5) (by simp)
      have c6 : w2.cell? ⟨gv, 6, none⟩ = some (.int .u32 (g : Int)) := HV.out.cell (i := 6) (by simp)
      have c7 : w2.cell? ⟨gv, 7, none⟩ = some (.int .u32 (z : Int)) := HV.out.cell (i := 7) (by simp)
      have cw := HCW.out w2 HWB
      have ck := HCK.out w2 HT
      go_wp2_with fail
      go_quiet (fail)
      clear cw ck
      replace HV : Hid (BlkU (w2.drewN nq) gv 82 [a, b, c, d, e, f, g, z]) := HV.out
      replace HT : Hid (TabU (w2.drewN nq) 3 kL) := HT.out
      replace HWB : Hid (BlkU (w2.drewN nq) gw 111 ws) := HWB.out
      replace HSB : Hid (BlkU (w2.drewN nq) w.heap.size 82 s.list) := HSB.out
      replace HRB : Hid (BlkIs (w2.drewN nq) gr 82 (uzero 8)) := HRB.out
      replace HB : Hid (Below w.heap.size w (w2.drewN nq)) := Lib.hid (drewN_below HB.out _)
      replace HZ : Hid (w.heap.size < gw ∧ gw < gr ∧ gr < gv ∧ gv < (w2.drewN nq).heap.size) := HZ.out
      clear c0 c1 c2 c3 c4 c5 c6 c7
      generalize w2.drewN nq = w3 at *
      have c0 : w3.cell? ⟨gv, 0, none⟩ = some (.int .u32 (a : Int)) := HV.out.cell (i := 0) (by simp)
      have c1 : w3.cell? ⟨gv, 1, none⟩ = some (.int .u32 (b : Int)) := HV.out.cell (i := 1) (by simp)
      have c2 : w3.cell? ⟨gv, 2, none⟩ = some (.int .u32 (c : Int)) := HV.out.cell (i := 2) (by simp)
      have c3 : w3.cell? ⟨gv, 3, none⟩ = some (.int .u32 (d : Int)) := HV.out.cell (i := 3) (by simp)
      have c4 : w3.cell? ⟨gv, 4, none⟩ = some (.int .u32 (e : Int)) := HV.out.cell (i := 4) (by simp)
      have c5 : w3.cell? ⟨gv, 5, none⟩ = some (.int .u32 (f : Int)) := HV.out.cell (i := 5) (by simp)
      have c6 : w3.cell? ⟨gv, 6, none⟩ = some (.int .u32 (g : Int)) := HV.out.cell (i := 6) (by simp)
      have c7 : w3.cell? ⟨gv, 7, none⟩ = some (.int .u32 (z : Int)) := HV.out.cell (i := 7) (by simp)
      go_wp2_with fail
      go_quiet ((first
        | (go_at_call 83; exact Calls.quiet_of_same (turn_at 2 _ _ _ la (by omega) (by omega) (by omega)))
        | (go_at_call 83; exact Calls.quiet_of_same (turn_at 13 _ _ _ la (by omega) (by omega) (by omega)))
        | (go_at_call 83; exact Calls.quiet_of_same (turn_at 22 _ _ _ la (by omega) (by omega) (by omega)))))
      replace HV : Hid (BlkU (w3.drewN nq) gv 82 [a, b, c, d, e, f, g, z]) := HV.out
      replace HT : Hid (TabU (w3.drewN nq) 3 kL) := HT.out
      replace HWB : Hid (BlkU (w3.drewN nq) gw 111 ws) := HWB.out
      replace HSB : Hid (BlkU (w3.drewN nq) w.heap.size 82 s.list) := HSB.out
      replace HRB : Hid (BlkIs (w3.drewN nq) gr 82 (uzero 8)) := HRB.out
      replace HB : Hid (Below w.heap.size w (w3.drewN nq)) := Lib.hid (drewN_below HB.out _)
      replace HZ : Hid (w.heap.size < gw ∧ gw < gr ∧ gr < gv ∧ gv < (w3.drewN nq).heap.size) := HZ.out
      clear c0 c1 c2 c3 c4 c5 c6 c7
      generalize w3.drewN nq = w4 at *
      have c0 : w4.cell? ⟨gv, 0, none⟩ = some (.int .u32 (a : Int)) := HV.out.cell (i := 0) (by simp)
      have c1 : w4.cell? ⟨gv, 1, none⟩ = some (.int .u32 (b : Int)) := HV.out.cell (i := 1) (by simp)
      have c2 : w4.cell? ⟨gv, 2, none⟩ = some (.int .u32 (c : Int)) := HV.out.cell (i := 2) (by simp)
      have c3 : w4.cell? ⟨gv, 3, none⟩ = some (.int .u32 (d : Int)) := HV.out.cell (i := 3) (by simp)
      have c4 : w4.cell? ⟨gv, 4, none⟩ = some (.int .u32 (e : Int)) := HV.out.cell (i := 4) (by simp)
      have c5 : w4.cell? ⟨gv, 5, none⟩ = some (.int .u32 (f : Int)) := HV.out.cell (i := 5) (by simp)
      have c6 : w4.cell? ⟨gv, 6, none⟩ = some (.int .u32 (g : Int)) := HV.out.cell (i := 6) (by simp)
      have c7 : w4.cell? ⟨gv, 7, none⟩ = some (.int .u32 (z : Int)) := HV.out.cell (i := 7) (by simp)
      have f0 := BlkIs.frozen HV.out 0
      have f1 := BlkIs.frozen HV.out 1
      have f2 := BlkIs.frozen HV.out 2
      have f3 := BlkIs.frozen HV.out 3
      have f4 := BlkIs.frozen HV.out 4
      have f5 := BlkIs.frozen HV.out 5
      have f6 := BlkIs.frozen HV.out 6
      have f7 := BlkIs.frozen HV.out 7
      go_wp2_with (first
        | ((with_reducible refine stopAt (o := ⟨some 104, _, _, _, _, _⟩) ?_); refine buildAt (o := ⟨some 104, _, _, _, _, _⟩) (by rfl) 82 #[(0, .tmp 87), (1, .tmp 89), (2, .tmp 91), (3, .tmp 93), (4, .tmp 97), (5, .tmp 99), (6, .tmp 101), (7, .tmp 103)] rfl [(0, .int .u32 n1), (1, .int .u32 a), (2, .int .u32 b), (3, .int .u32 c), (4, .int .u32 n5), (5, .int .u32 e), (6, .int .u32 f), (7, .int .u32 g)] (by simp [go_sem, hn1, hn5]) _ (built_8 _ _ _ _ _ _ _ _) ?_; (try simp only [Act.put, List.setIfInBounds_toArray, List.set_cons_zero, List.set_cons_succ])))
      have HG5 : Hid (w4.grownBy ((((((((w4.setCell ⟨gv, 0, none⟩ (.int .u32 (n1 : Int))).setCell ⟨gv, 1, none⟩ (.int .u32 (a : Int))).setCell ⟨gv, 2, none⟩ (.int .u32 (b : Int))).setCell ⟨gv, 3, none⟩ (.int .u32 (c : Int))).setCell ⟨gv, 4, none⟩ (.int .u32 (n5 : Int))).setCell ⟨gv, 5, none⟩ (.int .u32 (e : Int))).setCell ⟨gv, 6, none⟩ (.int .u32 (f : Int))).setCell ⟨gv, 7, none⟩ (.int .u32 (g : Int))) (some gv)) := set8_grown w4 gv n1 a b c n5 e f g
      have HVn : Hid (BlkU ((((((((w4.setCell ⟨gv, 0, none⟩ (.int .u32 (n1 : Int))).setCell ⟨gv, 1, none⟩ (.int .u32 (a : Int))).setCell ⟨gv, 2, none⟩ (.int .u32 (b : Int))).setCell ⟨gv, 3, none⟩ (.int .u32 (c : Int))).setCell ⟨gv, 4, none⟩ (.int .u32 (n5 : Int))).setCell ⟨gv, 5, none⟩ (.int .u32 (e : Int))).setCell ⟨gv, 6, none⟩ (.int .u32 (f : Int))).setCell ⟨gv, 7, none⟩ (.int .u32 (g : Int))) gv 82 [n1, a, b, c, n5, e, f, g]) := set8_blk HV.out
      have HS5 : Hid (((((((((w4.setCell ⟨gv, 0, none⟩ (.int .u32 (n1 : Int))).setCell ⟨gv, 1, none⟩ (.int .u32 (a : Int))).setCell ⟨gv, 2, none⟩ (.int .u32 (b : Int))).setCell ⟨gv, 3, none⟩ (.int .u32 (c : Int))).setCell ⟨gv, 4, none⟩ (.int .u32 (n5 : Int))).setCell ⟨gv, 5, none⟩ (.int .u32 (e : Int))).setCell ⟨gv, 6, none⟩ (.int .u32 (f : Int))).setCell ⟨gv, 7, none⟩ (.int .u32 (g : Int))).heap.size = w4.heap.size) := by
        show _ = _
        simp [World.setCell]
      generalize ((((((((w4.setCell ⟨gv, 0, none⟩ (.int .u32 (n1 : Int))).setCell ⟨gv, 1, none⟩ (.int .u32 (a : Int))).setCell ⟨gv, 2, none⟩ (.int .u32 (b : Int))).setCell ⟨gv, 3, none⟩ (.int .u32 (c : Int))).setCell ⟨gv, 4, none⟩ (.int .u32 (n5 : Int))).setCell ⟨gv, 5, none⟩ (.int .u32 (e : Int))).setCell ⟨gv, 6, none⟩ (.int .u32 (f : Int))).setCell ⟨gv, 7, none⟩ (.int .u32 (g : Int))) = w5 at *
      have HTn : Hid (TabU w5 3 kL) := HT.out.grown HG5.out (by
        have h1 := HN2.out
        have h2 := HZ.out
        intro e; injection e with e; omega)
      have HWn : Hid (BlkU w5 gw 111 ws) := BlkIs.grown HWB.out HG5.out (by have := HZ.out; intro e; injection e with e; omega)
      have HSn : Hid (BlkU w5 w.heap.size 82 s.list) := BlkIs.grown HSB.out HG5.out (by have := HZ.out; intro e; injection e with e; omega)
      have HRn : Hid (BlkIs w5 gr 82 (uzero 8)) := BlkIs.grown HRB.out HG5.out (by have := HZ.out; intro e; injection e with e; omega)
      have HBn : Hid (Below w.heap.size w w5) := HB.out.grown HG5.out HB.out.size (fun k hk => by have := HZ.out; injection hk with hk; omega)
      have HZn : Hid (w.heap.size < gw ∧ gw < gr ∧ gr < gv ∧ gv < w5.heap.size) := by
        have h1 := HZ.out
        have h2 := HS5.out
        show _ ∧ _ ∧ _ ∧ _
        omega
      have HRx : Hid (roundsN s ws (k + 1) = ⟨n1, a, b, c, n5, e, f, g⟩) := by
        show _ = _
        rw [HRN.out, ← HN1.out 0, ← HN5.out 0, ← HON.out]
        rfl
      go_roundw
      case rel => exact ⟨k + 1, n1, a, b, c, n5, e, f, g, by omega, by go_num, HRx.out, HVn.out, HTn.out, HWn.out, HSn.out, HRn.out, HBn.out, HZn.out⟩
      case measure => simp [intOf]; omega
    · have HRV : Hid (∀ j, j = k → roundsN s ws 64 = ⟨a, b, c, d, e, f, g, z⟩) := fun j hj => by
        rw [show 64 = k by omega]
        exact HR.out
      go_wp2_with fail
      go_loopw [12] (fun i wr => ∃ j : Nat, j ≤ 8 ∧ i = .int .i64 j ∧ Hid (BlkU wr gv 82 (mixL ⟨a, b, c, d, e, f, g, z⟩ s j)) ∧ Hid (BlkU wr w.heap.size 82 s.list) ∧ Hid (BlkIs wr gr 82 (uzero 8)) ∧ Hid (Below w.heap.size w wr) ∧ Hid (w.heap.size < gw ∧ gw < gr ∧ gr < gv ∧ gv < wr.heap.size)) (fun i _ => 8 - (intOf i).toNat)
      case atStart => exact ⟨0, by omega, rfl, HV.out, HSB.out, HRB.out, HB.out, HZ.out⟩
      case round =>
        clear HV HT HWB HSB HRB HB HZ
        obtain ⟨j, hj, rfl, HV, HSB, HRB, HB, HZ⟩ := hrel
        obtain ⟨w2, rfl⟩ : ∃ w2, w2 = wr := ⟨_, rfl⟩
        by_cases hlj : j < 8
        · have cv := HV.out.cell (i := j) (by rw [mixL_length _ _ hj]; exact hlj)
          rw [mixL_at _ _ hlj] at cv
          have cs := HSB.out.cell (i := j) hlj
          have cf := BlkIs.frozen HV.out j
          have HVn : Hid (∀ e' : Int, e' = ((((⟨a, b, c, d, e, f, g, z⟩ : St).list.getD j 0 + s.list.getD j 0) % 4294967296 : Nat) : Int) → BlkU (w2.drew.setCell ⟨gv, j, none⟩ (.int .u32 e')) gv 82 (mixL ⟨a, b, c, d, e, f, g, z⟩ s (j + 1))) := by
            intro e' he
            subst he
            have h := BlkU.set (w := w2.drew) HV.out j (((⟨a, b, c, d, e, f, g, z⟩ : St).list.getD j 0 + s.list.getD j 0) % 4294967296)
            rwa [mixL_next _ _ hlj] at h
          generalize (⟨a, b, c, d, e, f, g, z⟩ : St).list.getD j 0 = vj at *
          generalize s.list.getD j 0 = sj at *
          have HSn : Hid (∀ e : Value, BlkU (w2.drew.setCell ⟨gv, j, none⟩ e) w.heap.size 82 s.list) := fun e => BlkIs.far (w := w2.drew) HSB.out (by have := HZ.out; show w.heap.size ≠ gv; omega) e
          have HRn : Hid (∀ e : Value, BlkIs (w2.drew.setCell ⟨gv, j, none⟩ e) gr 82 (uzero 8)) := fun e => BlkIs.far (w := w2.drew) HRB.out (by have := HZ.out; show gr ≠ gv; omega) e
          have HBn : Hid (∀ e : Value, Below w.heap.size w (w2.drew.setCell ⟨gv, j, none⟩ e)) := fun e => (drewN_below HB.out 1).setCell (by have := HZ.out; show w.heap.size ≤ gv; omega) e
          have HZn : Hid (∀ e : Value, w.heap.size < gw ∧ gw < gr ∧ gr < gv ∧ gv < (w2.drew.setCell ⟨gv, j, none⟩ e).heap.size) := fun e => by
            have h1 := HZ.out
            have h2 : (w2.drew.setCell ⟨gv, j, none⟩ e).heap.size = w2.heap.size := by simp [World.setCell]
            omega
          have hi8 : (j : Int) < 8 := by omega
          have hi0 : (0 : Int) ≤ (j : Int) := by omega
          go_wp2_with fail
          refine wp_region_still_tail 9 (by kernel_rfl) (by kernel_rfl) ?_
          simp only [List.take_succ_cons, List.take_zero, List.drop_succ_cons, List.drop_zero]
          repeat (refine wpStill_step (fun K hK => ?_); go_simp; (try go_bits); refine hK _ ?_; clear hK K)
          try refine wpStill_nil ?_
          change wpList _ _ _ _ _ w2.drew
          go_wp2_with fail
          go_roundw
          case rel => exact ⟨j + 1, by omega, by go_num, HVn.out _ (by simp), HSn.out _, HRn.out _, HBn.out _, HZn.out _⟩
          case measure => simp [intOf]; omega
        · have HVf : Hid (BlkU w2 gv 82 (addSt s (roundsN s ws 64)).list) := by
            have h := HV.out
            rw [show j = 8 by omega, mixL_end, addSt_comm, ← HRV.out k rfl] at h
            exact h
          obtain ⟨p0, p1, p2, p3, p4, p5, p6, p7, HP⟩ : ∃ p0 p1 p2 p3 p4 p5 p6 p7 : Nat, Hid (∀ _ : Nat, (addSt s (roundsN s ws 64)).list = [p0, p1, p2, p3, p4, p5, p6, p7]) := ⟨_, _, _, _, _, _, _, _, fun _ => rfl⟩
          rw [HP.out 0] at HVf
          have c0 : w2.cell? ⟨gv, 0, none⟩ = some (.int .u32 (p0 : Int)) := HVf.out.cell (i := 0) (by simp)
          have d0 : w2.cell? ⟨gr, 0, none⟩ = some (.int .u32 0) := BlkIs.cell HRB.out 0
          have f0 := BlkIs.frozen HRB.out 0
          have c1 : w2.cell? ⟨gv, 1, none⟩ = some (.int .u32 (p1 : Int)) := HVf.out.cell (i := 1) (by simp)
          have d1 : w2.cell? ⟨gr, 1, none⟩ = some (.int .u32 0) := BlkIs.cell HRB.out 1
          have f1 := BlkIs.frozen HRB.out 1
          have c2 : w2.cell? ⟨gv, 2, none⟩ = some (.int .u32 (p2 : Int)) := HVf.out.cell (i := 2) (by simp)
          have d2 : w2.cell? ⟨gr, 2, none⟩ = some (.int .u32 0) := BlkIs.cell HRB.out 2
          have f2 := BlkIs.frozen HRB.out 2
          have c3 : w2.cell? ⟨gv, 3, none⟩ = some (.int .u32 (p3 : Int)) := HVf.out.cell (i := 3) (by simp)
          have d3 : w2.cell? ⟨gr, 3, none⟩ = some (.int .u32 0) := BlkIs.cell HRB.out 3
          have f3 := BlkIs.frozen HRB.out 3
          have c4 : w2.cell? ⟨gv, 4, none⟩ = some (.int .u32 (p4 : Int)) := HVf.out.cell (i := 4) (by simp)
          have d4 : w2.cell? ⟨gr, 4, none⟩ = some (.int .u32 0) := BlkIs.cell HRB.out 4
          have f4 := BlkIs.frozen HRB.out 4
          have c5 : w2.cell? ⟨gv, 5, none⟩ = some (.int .u32 (p5 : Int)) := HVf.out.cell (i := 5) (by simp)
          have d5 : w2.cell? ⟨gr, 5, none⟩ = some (.int .u32 0) := BlkIs.cell HRB.out 5
          have f5 := BlkIs.frozen HRB.out 5
          have c6 : w2.cell? ⟨gv, 6, none⟩ = some (.int .u32 (p6 : Int)) := HVf.out.cell (i := 6) (by simp)
          have d6 : w2.cell? ⟨gr, 6, none⟩ = some (.int .u32 0) := BlkIs.cell HRB.out 6
          have f6 := BlkIs.frozen HRB.out 6
          have c7 : w2.cell? ⟨gv, 7, none⟩ = some (.int .u32 (p7 : Int)) := HVf.out.cell (i := 7) (by simp)
          have d7 : w2.cell? ⟨gr, 7, none⟩ = some (.int .u32 0) := BlkIs.cell HRB.out 7
          have f7 := BlkIs.frozen HRB.out 7
          go_wp2_with fail
          have HB6 : Hid (BlkU ((((((((w2.setCell ⟨gr, 0, none⟩ (.int .u32 (p0 : Int))).setCell ⟨gr, 1, none⟩ (.int .u32 (p1 : Int))).setCell ⟨gr, 2, none⟩ (.int .u32 (p2 : Int))).setCell ⟨gr, 3, none⟩ (.int .u32 (p3 : Int))).setCell ⟨gr, 4, none⟩ (.int .u32 (p4 : Int))).setCell ⟨gr, 5, none⟩ (.int .u32 (p5 : Int))).setCell ⟨gr, 6, none⟩ (.int .u32 (p6 : Int))).setCell ⟨gr, 7, none⟩ (.int .u32 (p7 : Int))) gr 82 [p0, p1, p2, p3, p4, p5, p6, p7]) := set8_blk (a' := 0) (b' := 0) (c' := 0) (d' := 0) (e' := 0) (f' := 0) (g' := 0) (z' := 0) HRB.out
          have HG6 : Hid (w2.grownBy ((((((((w2.setCell ⟨gr, 0, none⟩ (.int .u32 (p0 : Int))).setCell ⟨gr, 1, none⟩ (.int .u32 (p1 : Int))).setCell ⟨gr, 2, none⟩ (.int .u32 (p2 : Int))).setCell ⟨gr, 3, none⟩ (.int .u32 (p3 : Int))).setCell ⟨gr, 4, none⟩ (.int .u32 (p4 : Int))).setCell ⟨gr, 5, none⟩ (.int .u32 (p5 : Int))).setCell ⟨gr, 6, none⟩ (.int .u32 (p6 : Int))).setCell ⟨gr, 7, none⟩ (.int .u32 (p7 : Int))) (some gr)) := set8_grown w2 gr p0 p1 p2 p3 p4 p5 p6 p7
          have HEnd : Hid (Below w.heap.size w ((((((((w2.setCell ⟨gr, 0, none⟩ (.int .u32 (p0 : Int))).setCell ⟨gr, 1, none⟩ (.int .u32 (p1 : Int))).setCell ⟨gr, 2, none⟩ (.int .u32 (p2 : Int))).setCell ⟨gr, 3, none⟩ (.int .u32 (p3 : Int))).setCell ⟨gr, 4, none⟩ (.int .u32 (p4 : Int))).setCell ⟨gr, 5, none⟩ (.int .u32 (p5 : Int))).setCell ⟨gr, 6, none⟩ (.int .u32 (p6 : Int))).setCell ⟨gr, 7, none⟩ (.int .u32 (p7 : Int)))) := HB.out.grown HG6.out HB.out.size (fun k hk => by have := HZ.out; injection hk with hk; omega)
          clear c0 c1 c2 c3 c4 c5 c6 c7 d0 d1 d2 d3 d4 d5 d6 d7 f0 f1 f2 f3 f4 f5 f6 f7
          generalize ((((((((w2.setCell ⟨gr, 0, none⟩ (.int .u32 (p0 : Int))).setCell ⟨gr, 1, none⟩ (.int .u32 (p1 : Int))).setCell ⟨gr, 2, none⟩ (.int .u32 (p2 : Int))).setCell ⟨gr, 3, none⟩ (.int .u32 (p3 : Int))).setCell ⟨gr, 4, none⟩ (.int .u32 (p4 : Int))).setCell ⟨gr, 5, none⟩ (.int .u32 (p5 : Int))).setCell ⟨gr, 6, none⟩ (.int .u32 (p6 : Int))).setCell ⟨gr, 7, none⟩ (.int .u32 (p7 : Int))) = w6 at *
          refine cells_ret (g := gr) (cs := uvs [p0, p1, p2, p3, p4, p5, p6, p7]) rfl rfl HB6.out row_8 (by rw [size_8, uvs_length]; rfl) rfl ⟨?_, HEnd.out⟩
          rw [HP.out 0]
end Go.Proofs.YtfnlhfaihoojfaaDoor
