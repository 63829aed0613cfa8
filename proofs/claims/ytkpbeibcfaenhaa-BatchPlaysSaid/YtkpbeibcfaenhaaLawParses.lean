/- ledgerlaw3.plays at the kind 5; BatchParses. -/
import Derived.Test.YtkpbeibcfaenhaaParsePlay
namespace Go.Proofs.Ytkpbeibcfaenhaa
open Go.RowKit
set_option maxRecDepth 100000 in
set_option maxHeartbeats 1600000 in
theorem plays_parse (n : Int) (ds es : List Nat) (A : Option Addr) (m c : Nat) (xs : List Nat) (v2 v3 : Value) (w : World) (hl : ds.length = 32) (hl2 : es.length = 32) (hx : RB w A m xs) (hm : m + 100 ≤ 140737488355328) :
    Calls Try.prog 58 #[.agg (opC 5 n ds es [.slice A m c, v2, v3]).toArray] w fun e w' => e = .returned (.bool true) ∧ Below w.heap.size w w' := by
  have HK : Hid (∀ W : World, Below w.heap.size w W → Calls Try.prog 67 #[.agg (opC 5 n ds es [.slice A m c, v2, v3]).toArray] W fun e w' => e = .returned (.bool true) ∧ Below W.heap.size W w') := fun W hW => parseplay_any 5 n ds es A m c xs v2 v3 W hl hl2 (hx.below hW) hm
  have hsz : (Try.prog.info? 87).map (·.size) = some (opC 5 n ds es [.slice A m c, v2, v3]).length := by rw [size_op, opC_length _ _ hl hl2 rfl]
  clear hl hl2 hx
  go_enter Try.func58, Try.ntmps58
  go_wp2_with (first
    | ((with_reducible refine stopAt (o := ⟨some 1, _, _, _, _, _⟩) ?_); refine boxNew (o := ⟨some 1, _, _, _, _, _⟩) (by rfl) 87 (.tmp 0) rfl _ rfl ?_; intro w1 HA1 HW1 HS1; have b0 := op_kind HA1.out)
    | ((with_reducible refine stopAt (o := ⟨some 19, _, _, _, _, _⟩) ?_); refine loadRange (o := ⟨some 19, _, _, _, _, _⟩) (by rfl) 87 (.tmp 1) rfl w.heap.size 0 _ rfl (BlkIs.range HA1.out) row_op hsz ?_))
  refine (HK.out _ HW1.out).mono ?_
  rintro e w2 ⟨rfl, hb⟩
  have HW2 := Lib.hid (HW1.out.trans (hb.mono HW1.out.size))
  clear hb
  go_wp2_with fail
  go_ret
  exact ⟨rfl, HW2.out⟩
theorem parses_walk (P : Option Addr) (N c : Nat) (X : Nat → OpN) (w : World) (hx : OpsAt w P N X) (hr : ∀ k, k < N → RestAt2 140737488351232 w (X k).rest) :
    Calls Try.prog 12 #[.slice P N c] w fun e w' => e = .returned (.bool true) ∧ Below w.heap.size w w' := by
  have H := Lib.hid (upto_any 5 5 P N c X w hx (fun k hk h1 h2 W hW => by
    obtain ⟨_, _, _, _, _, hok⟩ := hx.2 k hk
    obtain ⟨A, c1, raw, B, n, d, Y, D, q, e, Z, hl, hraw, _, _, _, _, _, _, _, _, _, _, _, hsz, _⟩ := hr k hk
    have h := plays_parse (X k).n (X k).ds (X k).es A raw.length c1 raw (.slice B n d) (.slice D q e) W hok.l1 hok.l2 (hraw.below hW) (by omega)
    show Calls _ _ #[.agg (opC (X k).kind (X k).n (X k).ds (X k).es (X k).rest).toArray] _ _
    rw [hl, show (X k).kind = 5 by omega]
    exact h))
  clear hx hr
  go_enter Try.func12, Try.ntmps12
  go_wp2_with fail
  refine H.out.mono ?_
  rintro e w1 ⟨rfl, hb⟩
  have HB := Lib.hid hb
  clear hb
  go_wp2_with fail
  go_ret
  exact ⟨rfl, HB.out⟩
end Go.Proofs.Ytkpbeibcfaenhaa
