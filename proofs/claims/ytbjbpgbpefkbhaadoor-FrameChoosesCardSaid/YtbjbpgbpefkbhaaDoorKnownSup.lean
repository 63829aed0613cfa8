/- ledgerlaw5.knownSuper: the one superblock that the document tells. -/
import Derived.Test.YtbjbpgbpefkbhaaDoorPackSuper
import Derived.Test.YtbjbpgbpefkbhaaDoorKnown5
namespace Go.Proofs.YtbjbpgbpefkbhaaDoor
open Go.RowKit
def ks : Sup := ⟨27, 0, 2, 0, 16⟩
set_option maxRecDepth 4000 in
theorem knownS : (superN ks).getD 60 0 = 152 ∧ (superN ks).getD 61 0 = 41 ∧ (superN ks).getD 62 0 = 106 ∧ (superN ks).getD 63 0 = 92 := by decide +kernel
set_option maxHeartbeats 800000 in
theorem knownSup_any (w : World) : Calls Tryd.prog 18 #[] w fun e w' => e = .returned (.bool true) ∧ Below w.heap.size w w' := by
  have HP := Lib.hid (packSN_ok (s := ks) (by decide))
  have HL := Lib.hid (superN_length ks)
  have HK : Hid ((superN ks).getD 0 0 = 76 ∧ (superN ks).getD 3 0 = 49 ∧ (superN ks).getD 4 0 = 27 ∧ (superN ks).getD 16 0 = 2 ∧ (superN ks).getD 24 0 = 16) := ⟨rfl, rfl, rfl, rfl, rfl⟩
  have HQ := Lib.hid knownS
  have HC : Hid (∀ w, Calls Tryd.prog 9 #[.agg #[.int .i64 27, .int .i64 0, .int .i64 2, .int .i64 0, .int .i64 16]] w fun e w' => PackedS w.heap.size ks e w' ∧ Below w.heap.size w w') := packSuper_any ks
  go_enter Tryd.func18, Tryd.ntmps18
  go_wp2_with fail
  refine (HC.out _).mono ?_
  rintro e w' ⟨⟨v, rfl, hown⟩, hb⟩
  have HB := Lib.hid hb
  rw [HP.out] at hown ⊢
  clear hb HP
  generalize superN ks = pg at *
  have hl := HL.out
  obtain ⟨g, c, rfl, hc⟩ := own_cells hown (by rw [hl]; omega)
  rw [hl]
  have c0 := hc 0 76 HK.out.1 (by rw [hl]; omega)
  have c3 := hc 3 49 HK.out.2.1 (by rw [hl]; omega)
  have c4 := hc 4 27 HK.out.2.2.1 (by rw [hl]; omega)
  have c16 := hc 16 2 HK.out.2.2.2.1 (by rw [hl]; omega)
  have c24 := hc 24 16 HK.out.2.2.2.2 (by rw [hl]; omega)
  have c60 := hc 60 152 HQ.out.1 (by rw [hl]; omega)
  have c61 := hc 61 41 HQ.out.2.1 (by rw [hl]; omega)
  have c62 := hc 62 106 HQ.out.2.2.1 (by rw [hl]; omega)
  have c63 := hc 63 92 HQ.out.2.2.2 (by rw [hl]; omega)
  clear hown hl hc
  go_wp2_with fail
  go_ret
  exact ⟨rfl, HB.out⟩
end Go.Proofs.YtbjbpgbpefkbhaaDoor
