/- ledgerlaw5.full and (*Book).held. -/
import Derived.Test.YtbjbpgbpefkbhaaDoorPut
namespace Go.Proofs.YtbjbpgbpefkbhaaDoor
open Go.RowKit
theorem mk_getD {n m i : Nat} (h : i < n) : (mk n m).getD i 0 = m := by simp [mk, List.getD, h]
set_option maxHeartbeats 400000 in
theorem full_any (A : Option Addr) (c n m : Nat) (base : Nat) (w : World) (h : OwnU w base (.slice A n c) (mk n m)) (hn : (n : Int) ≤ 2147483648) :
    Calls Tryd.prog 41 #[.slice A n c, .int .u8 m, .int .i64 n] w fun e w' => e = .returned (.bool true) ∧ w' = w := by
  have HR : Hid (RB w A n (mk n m)) := by
    have h1 := h.reads
    rwa [mk_length] at h1
  clear h
  go_enter Tryd.func41, Tryd.ntmps41
  go_wp2
  go_loopw [7] (fun i wr => ∃ k : Nat, i = .int .i64 (k : Int) ∧ Hid (k ≤ n) ∧ wr = w) (fun i _ => n - (intOf i).toNat)
  case atStart => exact ⟨0, rfl, Nat.zero_le _, rfl⟩
  case round =>
    obtain ⟨k, rfl, HK, rfl⟩ := hrel
    by_cases hlt : (k : Int) < n
    · obtain ⟨ad, rfl, hb, hcell⟩ := HR.out.at_ (show k < n by omega)
      rw [mk_getD (show k < n by omega)] at hcell
      go_wp2_with fail
      go_roundw
      case rel => exact ⟨k + 1, by go_num, (show k + 1 ≤ n by omega), trivial⟩
      case measure => simp [intOf]; omega
    · go_wp2
      go_ret
      exact ⟨rfl, rfl⟩
theorem row_at {w : World} {base : Nat} {v : Value} {xs : List Value} (h : RowB w base v xs) {i : Nat} (hi : i < xs.length) : ∃ g c, v = .slice (some ⟨g, 0, none⟩) xs.length c ∧ w.cell? ⟨g, i, none⟩ = xs[i]? := by
  rcases h.2 with ⟨_, e⟩ | ⟨g, cap, cur, rfl, _⟩
  · omega
  · exact ⟨g, cap, rfl, h.cellAt i (by omega)⟩
theorem own_form {w : World} {base n m : Nat} {v : Value} (h : OwnU w base v (mk n m)) : ∃ A c, v = .slice A n c := by
  obtain ⟨A, c, e, _⟩ := h.form
  rw [mk_length] at e
  exact ⟨A, c, e⟩
set_option maxRecDepth 20000 in
set_option maxHeartbeats 2000000 in
theorem held_any (gb base : Nat) (Q : List Quad) (H C : Nat → Prop) (w : World) (hb : Book w gb base Q H C) (hq : Q.length ≤ 1073741824) :
    Calls Tryd.prog 23 #[.pointer (some ⟨gb, 0, none⟩)] w fun e w' => e = .returned (.bool true) ∧ w' = w := by
  obtain ⟨z0, z1, z2, z3, hh⟩ := hb.heads
  have HH := Lib.hid hh
  have HQD := Lib.hid hb.quads
  have HQ := Lib.hid hq
  have hz := heads_at hh.blk
  obtain ⟨p0, l0, c0, e0⟩ := row_form hh.r0
  have HL0 : Hid (z0 = .slice p0 Q.length c0) := by
    rcases hh.r0.2 with ⟨e, e2⟩ | ⟨g, cap, cur, e, _⟩
    · rw [e] at e0
      injection e0 with a1 a2 a3
      subst a1 a2 a3
      rw [List.length_map] at e2
      rw [e2]
      exact e
    · rw [e] at e0
      injection e0 with a1 a2 a3
      subst a1 a2 a3
      rw [List.length_map] at e
      exact e
  clear hb hq hh e0
  rw [HL0.out] at hz
  go_enter Tryd.func23, Tryd.ntmps23
  go_wp2
  go_loopw [3, 4, 5] (fun i _ _ wr => ∃ k : Nat, i = .int .i64 (k : Int) ∧ Hid (k ≤ Q.length) ∧ wr = w) (fun i _ _ _ => Q.length - (intOf i).toNat)
  case atStart => exact ⟨0, rfl, Nat.zero_le _, rfl⟩
  case round =>
    obtain ⟨k, rfl, HK, rfl⟩ := hrel
    by_cases hlt : (k : Int) < Q.length
    · have hk : k < Q.length := by omega
      have hk3 : (k : Int) ≤ 1073741824 := by have := HQ.out; omega
      obtain ⟨q, hqk⟩ : ∃ q, Q[k]? = some q := ⟨_, List.getElem?_eq_getElem hk⟩
      have hq := HQD.out k q hqk
      obtain ⟨g0, d0, f0, r0⟩ := row_at HH.out.r0 (i := k) (by rw [List.length_map]; exact hk)
      obtain ⟨g1, d1, f1, r1⟩ := row_at HH.out.r1 (i := k) (by rw [List.length_map]; exact hk)
      obtain ⟨g2, d2, f2, r2⟩ := row_at HH.out.r2 (i := k) (by rw [List.length_map]; exact hk)
      obtain ⟨g3, d3, f3, r3⟩ := row_at HH.out.r3 (i := k) (by rw [List.length_map]; exact hk)
      rw [List.getElem?_map, hqk, Option.map_some] at r0 r1 r2 r3
      rw [List.length_map] at f0 f1 f2 f3
      rw [HL0.out] at f0
      injection f0 with b1 b2 b3
      rw [f1, f2, f3, b1, b3] at hz
      obtain ⟨n, ql, qg, qh, qk⟩ := q
      dsimp only at r0 r1 r2 r3
      obtain ⟨A0, a0, x0⟩ := own_form hq.l
      obtain ⟨A1, a1, x1⟩ := own_form hq.g
      obtain ⟨A2, a2, x2⟩ := own_form hq.h
      obtain ⟨A3, a3, x3⟩ := own_form hq.k
      dsimp only at x0 x1 x2 x3
      have hn : (n : Int) ≤ 1073741824 := by have := hq.size; dsimp only at this; omega
      have HF0 := Lib.hid (full_any A0 a0 n (mkOf k) base wr (by have := hq.l; dsimp only at this; rwa [x0] at this) (by omega))
      have HF1 := Lib.hid (full_any A1 a1 (n + 1) (mkOf k) base wr (by have := hq.g; dsimp only at this; rwa [x1] at this) (by omega))
      have HF2 := Lib.hid (full_any A2 a2 (n + 2) (mkOf k) base wr (by have := hq.h; dsimp only at this; rwa [x2] at this) (by omega))
      have HF3 := Lib.hid (full_any A3 a3 (n + 300) (mkOf k) base wr (by have := hq.k; dsimp only at this; rwa [x3] at this) (by omega))
      rw [x0] at r0
      rw [x1] at r1
      rw [x2] at r2
      rw [x3] at r3
      have HM := Lib.hid (mark_any k wr (by have := HQ.out; omega))
      clear hq hqk f1 f2 f3 b1 b2 b3 HL0 HH x0 x1 x2 x3 hk
      push_cast at HF1 HF2 HF3
      generalize mkOf k = m at *
      go_wp2_with fail
      refine HM.out.mono ?_
      rintro e w1 ⟨rfl, rfl⟩
      clear HM
      go_wp2_with fail
      refine HF0.out.mono ?_
      rintro e w1 ⟨rfl, rfl⟩
      clear HF0
      go_wp2_with fail
      refine HF1.out.mono ?_
      rintro e w1 ⟨rfl, rfl⟩
      clear HF1
      go_wp2_with fail
      refine HF2.out.mono ?_
      rintro e w1 ⟨rfl, rfl⟩
      clear HF2
      go_wp2_with fail
      refine HF3.out.mono ?_
      rintro e w1 ⟨rfl, rfl⟩
      clear HF3
      go_wp2_with fail
      go_roundw
      case rel => exact ⟨k + 1, by go_num, (show k + 1 ≤ Q.length by omega), trivial⟩
      case measure => simp [intOf]; omega
    · go_wp2
      go_ret
      exact ⟨rfl, rfl⟩
end Go.Proofs.YtbjbpgbpefkbhaaDoor
