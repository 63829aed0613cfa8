/- ledgerlaw5.FrameSupers: the walk. -/
import Derived.Test.YtbjbpgbpefkbhaaDoorRefSuper
import Derived.Test.YtbjbpgbpefkbhaaDoorSame
import Derived.BigQuiet
namespace Go.Proofs.YtbjbpgbpefkbhaaDoor
open Go.RowKit
theorem packSN_len (s : Sup) : (packSN s).1.length ≤ 256 := by
  by_cases h : s.Ok
  · rw [packSN_ok h, superN_length]; exact Nat.le_refl _
  · rw [packSN_bad h]; simp
set_option maxHeartbeats 1000000 in
theorem frameSupers_walk (a b c d p : Int) (w : World) (hd : DivT w) :
    Calls Tryd.prog 3 #[.agg #[.int .i64 a, .int .i64 b, .int .i64 c, .int .i64 d, .int .i64 p]] w fun e w' => e = .returned (.bool true) ∧ Below w.heap.size w w' := by
  have HD := Lib.hid hd
  have HC : Hid (∀ w, Calls Tryd.prog 9 #[.agg #[.int .i64 a, .int .i64 b, .int .i64 c, .int .i64 d, .int .i64 p]] w fun e w' => PackedS w.heap.size ⟨a, b, c, d, p⟩ e w' ∧ Below w.heap.size w w') := packSuper_any ⟨a, b, c, d, p⟩
  have HCR : Hid (∀ w, DivT w → Calls Tryd.prog 10 #[.agg #[.int .i64 a, .int .i64 b, .int .i64 c, .int .i64 d, .int .i64 p]] w fun e w' => PackedS w.heap.size ⟨a, b, c, d, p⟩ e w' ∧ Below w.heap.size w w') := refPackSuper_any ⟨a, b, c, d, p⟩
  have HSA0 : Hid (BlkIs (w.alloc (.cells #[.int .i64 a, .int .i64 b, .int .i64 c, .int .i64 d, .int .i64 p] 23)) w.heap.size 23 (supA a b c d p)) := BlkIs.new w _ _
  have HB0 := Lib.hid ((Below.refl w.heap.size w).alloc (Nat.le_refl _) (.cells #[.int .i64 a, .int .i64 b, .int .i64 c, .int .i64 d, .int .i64 p] 23))
  clear hd
  go_enter Tryd.func3, Tryd.ntmps3
  go_wp2_with fail
  refine (HC.out _).mono ?_
  rintro e w1 ⟨⟨v1, rfl, hown1⟩, hb1⟩
  have HB1 := Lib.hid (HB0.out.trans (hb1.mono HB0.out.size))
  have HO1 := Lib.hid hown1
  have hs1 := sup_at (BlkIs.below HSA0.out hb1)
  obtain ⟨A1, c1, rfl, _⟩ := hown1.form
  clear hown1 hb1 HSA0
  go_wp2_with fail
  refine (HCR.out _ (HD.out.below HB1.out)).mono ?_
  rintro e w2 ⟨⟨v2, rfl, hown2⟩, hb2⟩
  have HB2 := Lib.hid (HB1.out.trans (hb2.mono HB1.out.size))
  have HS1 := Lib.hid (HO1.out.below hb2).reads
  obtain ⟨A2, c2, rfl, hr2, _⟩ := hown2.form
  have HS2 := Lib.hid hr2
  have HLL := Lib.hid (packSN_len ⟨a, b, c, d, p⟩)
  clear hown2 hb2 hr2 HO1 HC HCR hs1
  generalize (packSN ⟨a, b, c, d, p⟩).1 = pg at *
  generalize (packSN ⟨a, b, c, d, p⟩).2 = er at *
  go_wp2_with fail
  refine (same_true HS1.out HS2.out (by have := HLL.out; omega) rfl).mono ?_
  rintro e w3 ⟨rfl, q, hw3⟩
  have HB3 : Hid (Below w.heap.size w w3) := by rw [hw3]; exact drewN_below HB2.out q
  clear hw3
  go_wp2_with fail
  go_ret
  exact ⟨rfl, HB3.out⟩
end Go.Proofs.YtbjbpgbpefkbhaaDoor
