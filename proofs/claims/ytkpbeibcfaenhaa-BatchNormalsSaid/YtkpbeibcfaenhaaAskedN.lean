/- ledgerlaw3.asked of Normal. -/
import Derived.Test.YtkpbeibcfaenhaaNormal
import Derived.Test.YtkpbeibcfaenhaaAsked
namespace Go.Proofs.Ytkpbeibcfaenhaa
open Go.RowKit
def normM (X : Nat → Chg) (N : Nat) : Nat := if wrongN X N 4096 = 0 then N else 0
theorem norm_form {X : Nat → Chg} {N : Nat} {w w' : World} {e : Ending} (h : NormPost X N w e w') : ∃ A C Z, e = .returned (.tuple #[.slice A (normM X N) C, .int .i64 (wrongN X N 4096 : Nat)]) ∧ ChsAt w' A (normM X N) Z ∧ normM X N ≤ C ∧ (wrongN X N 4096 = 0 → NormOK X N Z) ∧ Below w.heap.size w w' := by
  obtain ⟨v, he, hb, h1, h2⟩ := h
  by_cases h0 : wrongN X N 4096 = 0
  · obtain ⟨Z, Ad, Cp, ho, hk⟩ := h1 h0
    obtain ⟨A, C, rfl, hc, hle, _⟩ := ho.form
    rw [show normM X N = N from if_pos h0]
    exact ⟨A, C, Z, he, hc, hle, fun _ => hk, hb⟩
  · rw [show normM X N = 0 from if_neg h0]
    exact ⟨none, 0, fun _ => default, by rw [he, h2 h0], ⟨Nat.zero_le _, fun k hk => by omega⟩, Nat.le_refl _, fun h => absurd h h0, hb⟩
theorem norm_nodup {X Z : Nat → Chg} {N : Nat} (h : NormOK X N Z) (hr : repN X N < 0) : (keysOf (lst Z N)).Nodup := by
  have h1 : (keysOf (lst X N)).Nodup := Classical.byContradiction fun hn => by have := nodup_rep.2 hn; omega
  rw [nodup_perm h.2]
  have : keysOf ((lst X N).map plainC) = keysOf (lst X N) := by
    unfold keysOf
    rw [List.map_map]
    exact List.map_congr_left fun x _ => plainC_key x
  rwa [this]
theorem chs_good {w : World} {A : Option Addr} {N : Nat} {Z : Nat → Chg} (h : ChsAt w A N Z) : ∀ x, x ∈ lst Z N → GoodK x := fun x hx => by
  obtain ⟨i, hi, rfl⟩ := mem_lst.1 hx
  obtain ⟨_, _, _, _, _, _, _, h1, h2, _⟩ := h.2 i hi
  exact ⟨h1, h2⟩
theorem lst_inj {Z Z' : Nat → Chg} {N : Nat} (h : lst Z N = lst Z' N) : ∀ k, k < N → Z k = Z' k := fun k hk => by
  have h1 := congrArg (fun l => l.getD k default) h
  exact (lst_getD hk).symm.trans (h1.trans (lst_getD hk))
theorem norm_unique {X Z Z' : Nat → Chg} {N : Nat} (h : NormOK X N Z) (h' : NormOK X N Z') (hg : ∀ x, x ∈ lst Z N → GoodK x) (hr : repN X N < 0) : ∀ k, k < N → Z k = Z' k :=
  lst_inj (sorted_unique (h.2.trans h'.2.symm) h.1 h'.1 hg (norm_nodup h hr))
theorem norm_same {X Z Z' : Nat → Chg} {N : Nat} {w : World} {A : Option Addr} (h : wrongN X N 4096 = 0 → NormOK X N Z) (h' : wrongN X N 4096 = 0 → NormOK X N Z') (hc : ChsAt w A (normM X N) Z) : ∀ k, k < normM X N → Z k = Z' k := fun k hk => by
  by_cases h0 : wrongN X N 4096 = 0
  · rw [show normM X N = N from if_pos h0] at hk hc
    exact norm_unique (h h0) (h' h0) (chs_good hc) (wrong_zero h0).2 k hk
  · rw [show normM X N = 0 from if_neg h0] at hk
    omega
set_option maxRecDepth 100000 in
set_option maxHeartbeats 1000000 in
theorem asked_normal : AskedLaw 6 := by
  intro A1 A2 A3 A4 N M c1 c2 c3 c4 X Y w h1 h2 h3 h4 k1 k2 k3 k4 n1 n2 m1 m2 s1 s2 v1 v2
  have HB := Lib.hid (fun W (hW : Below w.heap.size w W) => normal_any A1 N c1 X W (h1.below hW) s1 v1)
  have HC := Lib.hid (fun W (hW : Below w.heap.size w W) => refnormal_any A3 N c3 X W (h3.below hW) k3 s1 v1)
  clear h1 h2 h3 h4 v1 v2 n1 n2
  go_enter Try.func82, Try.ntmps82
  go_wp2_with fail
  refine (HB.out w (Below.refl _ _)).mono ?_
  intro e w1 hp
  obtain ⟨A5, c5, Z5, rfl, hc5, hl5, hk5, hb5⟩ := norm_form hp
  have HB5 := Lib.hid hb5
  have HC5 := Lib.hid hc5
  have HK5 := Lib.hid hk5
  clear hp hb5 hc5 hk5
  go_wp2_with fail
  refine (HC.out w1 HB5.out).mono ?_
  intro e w2 hp
  obtain ⟨A6, c6, Z6, rfl, hc6, hl6, hk6, hb6⟩ := norm_form hp
  have HB6 := Lib.hid (HB5.out.trans (hb6.mono HB5.out.size))
  have HC5' := Lib.hid (HC5.out.below hb6)
  have HS := Lib.hid (sameC_true A5 A6 (normM X N) c5 c6 Z5 Z6 w2 HC5'.out hc6 (norm_same HK5.out hk6 HC5'.out))
  clear hp hb6 hc6 hk6 HK5 HC5 HC5'
  obtain ⟨z, hz⟩ : ∃ z : Int, z = ((wrongN X N 4096 : Nat) : Int) := ⟨_, rfl⟩
  rw [← hz]
  have hq : (z == z) = true := by simp
  clear hz
  generalize normM X N = L at *
  go_wp2_with fail
  refine HS.out.mono ?_
  rintro e w3 ⟨rfl, q, hq3⟩
  have HB7 : Hid (Below w.heap.size w w3) := by show Below _ _ _; rw [hq3]; exact drewN_below HB6.out q
  clear hq3
  go_wp2_with fail
  go_ret
  exact ⟨rfl, HB7.out⟩
end Go.Proofs.Ytkpbeibcfaenhaa
