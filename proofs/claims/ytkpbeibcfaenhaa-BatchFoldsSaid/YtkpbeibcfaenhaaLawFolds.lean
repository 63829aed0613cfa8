/- BatchFolds. (printed by gen_lawlist.py) -/
import Derived.Test.YtkpbeibcfaenhaaGg
import Derived.Test.YtkpbeibcfaenhaaGj
namespace Go.Proofs.Ytkpbeibcfaenhaa
open Go.RowKit
theorem folds_walk (P : Option Addr) (N c : Nat) (X : Nat → OpN) (w : World) (hx : OpsAt w P N X) (hr : ∀ k, k < N → RestAt2 140737488351232 w (X k).rest) :
    Calls Try.prog 14 #[.slice P N c] w fun e w' => e = .returned (.bool true) ∧ Below w.heap.size w w' := by
  have H := Lib.hid (upto_any 7 7 P N c X w hx (fun k hk h1 h2 W hW => by
    obtain ⟨_, _, _, _, _, hok⟩ := hx.2 k hk
    obtain ⟨A, c1, raw, B, n, d, Y, D, q, e, Z, hl, _, _, _, _, hy, _, _, _, hz, _, _, _, _, s1, s2, s3, s4⟩ := hr k hk
    have h := plays_list 7 (by omega) (X k).n asked_fold (X k).ds (X k).es (.slice A raw.length c1) B D n d q e Y Z W hok.l1 hok.l2 (hy.below hW) (hz.below hW) (by omega) (by omega) (fun k hk => by have := s2 k hk; omega) (fun k hk => by have := s4 k hk; omega)
    show Calls _ _ #[.agg (opC (X k).kind (X k).n (X k).ds (X k).es (X k).rest).toArray] _ _
    rw [hl, show (X k).kind = 7 by omega]
    exact h))
  clear hx hr
  go_enter Try.func14, Try.ntmps14
  go_wp2_with fail
  refine H.out.mono ?_
  rintro e w1 ⟨rfl, hb⟩
  have HB := Lib.hid hb
  clear hb
  go_wp2_with fail
  go_ret
  exact ⟨rfl, HB.out⟩
end Go.Proofs.Ytkpbeibcfaenhaa
