/- digest.Sum. -/
import Derived.Test.YtfnlhfaihoojfaaDoorHSum
namespace Go.Proofs.YtfnlhfaihoojfaaDoor
open Go.RowKit
/-- The tables that the package lays. -/
structure Tabs (w : World) : Prop where
  begin_ : TabU w 0 hL
  round_ : TabU w 2 kL
theorem Tabs.below {w w' : World} (h : Tabs w) (hb : Below w.heap.size w w') : Tabs w' := ⟨h.1.below hb, h.2.below hb⟩
theorem Tabs.grown {w w' : World} {g : Nat} (h : Tabs w) (hb : w.grownBy w' (some g)) (h1 : g ≠ 0) (h2 : g ≠ 2) : Tabs w' :=
  ⟨h.1.grown hb (fun e => h1 (by injection e with e; exact e.symm)), h.2.grown hb (fun e => h2 (by injection e with e; exact e.symm))⟩
section
variable {w w1 w2 w3 w4 w5 : World}
theorem dsum_mid (HW2 : Hid (Below w1.heap.size w1 w2)) (HG3 : Hid (w2.grownBy w3 (some w1.heap.size))) (HG4 : Hid (w3.grownBy w4 (some w1.heap.size))) (HB5 : Hid (Below w4.heap.size w4 w5)) : Below w1.heap.size w1 w5 := by
  have h2 := HW2.out
  have h3 := h2.grown HG3.out h2.size (fun k hk => by injection hk with hk; omega)
  have h4 := h3.grown HG4.out h3.size (fun k hk => by injection hk with hk; omega)
  exact h4.trans (HB5.out.mono h4.size)
theorem dsum_below (HW1 : Hid (Below w.heap.size w w1)) (HW2 : Hid (Below w1.heap.size w1 w2)) (HG3 : Hid (w2.grownBy w3 (some w1.heap.size))) (HG4 : Hid (w3.grownBy w4 (some w1.heap.size))) (HB5 : Hid (Below w4.heap.size w4 w5)) : Below w.heap.size w w5 :=
  HW1.out.trans ((dsum_mid HW2 HG3 HG4 HB5).mono HW1.out.size)
theorem dsum_blk (HB1 : Hid (BlkIs w1 w.heap.size 29 (zarr 32))) (HS1 : Hid (w1.heap.size = w.heap.size + 1)) (HW2 : Hid (Below w1.heap.size w1 w2)) (HG3 : Hid (w2.grownBy w3 (some w1.heap.size))) (HG4 : Hid (w3.grownBy w4 (some w1.heap.size))) (HB5 : Hid (Below w4.heap.size w4 w5)) : BlkB w5 w.heap.size 29 (zs 32) :=
  BlkIs.belowB HB1.out (dsum_mid HW2 HG3 HG4 HB5) (by rw [HS1.out]; omega)
end
set_option maxRecDepth 100000 in
set_option maxHeartbeats 1000000 in
theorem dsum_any (A : Option Addr) (n c : Nat) (xs : List Nat) (w : World) (hx : RB w A n xs) (hnc : n ≤ c) (hn : n ≤ 140737488355328) (ht : Tabs w) :
    Calls Tryd.prog 18 #[.slice A n c] w fun e w' => e = .returned (.agg (bvs (shaN xs)).toArray) ∧ Below w.heap.size w w' := by
  have HX := Lib.hid hx
  have HA : Hid (0 < n → ∀ ad, A = some ad → ad.block < w.heap.size) := fun hp ad e => by
    obtain ⟨ad', e', hb, _⟩ := hx.2.2 hp
    rw [e] at e'
    injection e' with e'
    rw [e']
    exact hb
  have HT := Lib.hid ht
  clear hx ht
  go_enter Tryd.func18, Tryd.ntmps18
  go_wp2_with (first
    | (refine allocNew (o := ⟨some 2, _, _, _, _, _⟩) (by rfl) 29 rfl _ _ info_dig ?_; intro w1 HB1 HW1 HS1)
    | (refine loadRange (o := ⟨some 4, _, _, _, _, _⟩) (by rfl) 82 (.global 0) rfl 0 0 (uvs hL) rfl (HT.out.below HW1.out).1.range row_8 (by rw [size_8]; rfl) ?_)
    | (refine buildAt (o := ⟨some 5, _, _, _, _, _⟩) (by rfl) 86 #[(0, .tmp 4)] rfl [(0, .agg (uvs hL).toArray)] (by simp [go_sem]) _ built_h ?_)
    | (refine allocNew (o := ⟨some 3, _, _, _, _, _⟩) (by rfl) 86 rfl _ _ info_h ?_; intro w2 HB2 HW2 HS2)
    | (refine hstore (o := ⟨none, _, _, _, _, _⟩) (by rfl) 86 (.tmp 3) (.tmp 5) rfl w1.heap.size hL (zs 64) 0 0 rfl rfl (by decide) (by decide) _ (by rfl) HB2.out size_h ?_; intro w3 HH3 hg3; have HG3 := Lib.hid hg3; clear hg3)
    | (go_at_call 40; ((refine (write_any w1.heap.size A n c [] xs _ (RB.grownBy ((HX.out.below HW1.out).below HW2.out) HG3.out (fun hp ad e h => by have h1 := HA.out hp ad e; have h2 := HS1.out; injection h with h; omega)) hnc hn (fun hp ad e h => by have h1 := HA.out hp ad e; have h2 := HS1.out; omega) (HashIs_nil HH3.out) (((HT.out.below HW1.out).below HW2.out).2.grown HG3.out (fun e => by have h1 := (HT.out.below HW1.out).2.1; injection e with e; omega)) (fun e => by have h1 := (HT.out.below HW1.out).2.1; omega)).mono ?_); rintro e w4 ⟨rfl, hh4, hg4⟩; have HH4 := Lib.hid hh4; have HG4 := Lib.hid hg4; clear hh4 hg4))
    | (go_at_call 41; ((refine (hsum_any w1.heap.size xs _ HH4.out ((((HT.out.below HW1.out).below HW2.out).2.grown HG3.out (fun e => by have h1 := (HT.out.below HW1.out).2.1; injection e with e; omega)).grown HG4.out (fun e => by have h1 := (HT.out.below HW1.out).2.1; injection e with e; omega))).mono ?_); rintro e w5 ⟨rfl, hb5⟩; have HB5 := Lib.hid hb5; clear hb5))
    | (refine storeA (o := ⟨none, _, _, _, _, _⟩) (by rfl) 29 (.tmp 2) (.tmp 8) rfl w.heap.size 32 (shaN xs) (zs 32) 29 rfl rfl (dsum_blk HB1 HS1 HW2 HG3 HG4 HB5) size_dig (shaN_length xs) (zs_length 32) w.heap.size w (dsum_below HW1 HW2 HG3 HG4 HB5) (by omega) ?_; intro wf HRf HBf))
  exact arr_ret (g := w.heap.size) (n := 32) rfl rfl HRf.out (shaN_length xs) row_dig size_dig rfl ⟨rfl, HBf⟩
end Go.Proofs.YtfnlhfaihoojfaaDoor
