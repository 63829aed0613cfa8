/- BatchPlays. (printed by gen_lawplays3.py) -/
import Derived.Test.YtkpbeibcfaenhaaLawParses
import Derived.Test.YtkpbeibcfaenhaaGg
import Derived.Test.YtkpbeibcfaenhaaGi
import Derived.Test.YtkpbeibcfaenhaaGj
namespace Go.Proofs.Ytkpbeibcfaenhaa
open Go.RowKit
theorem bplays_walk (P : Option Addr) (N c : Nat) (X : Nat → OpN) (w : World) (hx : OpsAt w P N X) (hr : ∀ k, k < N → RestAt2 140737488351232 w (X k).rest) :
    Calls Try.prog 15 #[.slice P N c] w fun e w' => e = .returned (.bool true) ∧ Below w.heap.size w w' := by
  have H := Lib.hid (upto_any 1 7 P N c X w hx (fun k hk h1 h2 W hW => by
    obtain ⟨_, _, _, _, _, hok⟩ := hx.2 k hk
    obtain ⟨A, c1, raw, B, n, d, Y, D, q, e, Z, hl, hraw, _, _, _, hy, _, _, _, hz, _, _, _, hsz, s1, s2, s3, s4⟩ := hr k hk
    have hlist : ∀ kind : Int, (kind = 4 ∨ kind = 6 ∨ kind = 7) → AskedLaw kind → (X k).kind = kind → PlaysRet (X k) W := fun kind hk' ha he => by
      have h := plays_list kind hk' (X k).n ha (X k).ds (X k).es (.slice A raw.length c1) B D n d q e Y Z W hok.l1 hok.l2 (hy.below hW) (hz.below hW) (by omega) (by omega) (fun k hk => by have := s2 k hk; omega) (fun k hk => by have := s4 k hk; omega)
      show Calls _ _ #[.agg (opC (X k).kind (X k).n (X k).ds (X k).es (X k).rest).toArray] _ _
      rw [hl, he]
      exact h
    have hkey : ∀ j : Nat, (j = 1 ∨ j = 2 ∨ j = 3) → (X k).kind = (j : Int) → PlaysRet (X k) W := fun j hj he => by
      have h := plays_key j hj (X k).n (X k).ds (X k).es (X k).rest W hok.b1 hok.l1 hok.b2 hok.l2 hok.l3
      show Calls _ _ #[.agg (opC (X k).kind (X k).n (X k).ds (X k).es (X k).rest).toArray] _ _
      rw [he]
      exact h
    have h7 : (X k).kind = 1 ∨ (X k).kind = 2 ∨ (X k).kind = 3 ∨ (X k).kind = 4 ∨ (X k).kind = 5 ∨ (X k).kind = 6 ∨ (X k).kind = 7 := by omega
    rcases h7 with h | h | h | h | h | h | h
    · exact hkey 1 (by omega) h
    · exact hkey 2 (by omega) h
    · exact hkey 3 (by omega) h
    · exact hlist 4 (by omega) asked_build h
    · have h5 := plays_parse (X k).n (X k).ds (X k).es A raw.length c1 raw (.slice B n d) (.slice D q e) W hok.l1 hok.l2 (hraw.below hW) (by omega)
      show Calls _ _ #[.agg (opC (X k).kind (X k).n (X k).ds (X k).es (X k).rest).toArray] _ _
      rw [hl, h]
      exact h5
    · exact hlist 6 (by omega) asked_normal h
    · exact hlist 7 (by omega) asked_fold h))
  clear hx hr
  go_enter Try.func15, Try.ntmps15
  go_wp2_with fail
  refine H.out.mono ?_
  rintro e w1 ⟨rfl, hb⟩
  have HB := Lib.hid hb
  clear hb
  go_wp2_with fail
  go_ret
  exact ⟨rfl, HB.out⟩
end Go.Proofs.Ytkpbeibcfaenhaa
