/- ledgerlaw5.known: the one page that the document tells. -/
import Derived.Test.YtbjbpgbpefkbhaaDoorPack
import Derived.Lib.SlBytesConst
namespace Go.Proofs.YtbjbpgbpefkbhaaDoor
open Go.RowKit
theorem own_cells {w : World} {base : Nat} {v : Value} {xs : List Nat} (h : OwnU w base v xs) (hn : 0 < xs.length) : ∃ g c, v = .slice (some ⟨g, 0, none⟩) xs.length c ∧ ∀ j x, xs.getD j 0 = x → j < xs.length → w.cell? ⟨g, j, none⟩ = some (.int .u8 (x : Nat)) := by
  obtain ⟨g, c, e, _, _, _, hc⟩ := h.shape hn
  exact ⟨g, c, e, fun j x hx hj => by rw [hc j hj, hx]⟩
set_option maxRecDepth 4000 in
theorem knownP : (pageN 1 2 [97, 98, 99]).getD 252 0 = 149 ∧ (pageN 1 2 [97, 98, 99]).getD 253 0 = 73 ∧ (pageN 1 2 [97, 98, 99]).getD 254 0 = 117 ∧ (pageN 1 2 [97, 98, 99]).getD 255 0 = 75 := by decide +kernel
set_option maxHeartbeats 800000 in
theorem knownF_any (w : World) : Calls Tryd.prog 20 #[] w fun e w' => e = .returned (.bool true) ∧ Below w.heap.size w w' := by
  have kc := fun (w : World) (C : Array Value) (n c : Nat) => Lib.run_convert_bytes_const (P := Tryd.prog) w 24 5 C n c und_bytes (by kernel_rfl)
  have hp : packN 1 2 [97, 98, 99] = (pageN 1 2 [97, 98, 99], 0) := packN_ok (by unfold KindOk; omega) (by unfold PlaceOk; omega) (by decide)
  have HP := Lib.hid hp
  have HL : Hid ((pageN 1 2 [97, 98, 99]).length = 256) := pageN_length (by decide)
  have HK : Hid ((pageN 1 2 [97, 98, 99]).getD 0 0 = 1 ∧ (pageN 1 2 [97, 98, 99]).getD 1 0 = 3 ∧ (pageN 1 2 [97, 98, 99]).getD 2 0 = 2 ∧ (pageN 1 2 [97, 98, 99]).getD 6 0 = 97 ∧ (pageN 1 2 [97, 98, 99]).getD 8 0 = 99) := ⟨rfl, rfl, rfl, rfl, rfl⟩
  have HQ := Lib.hid knownP
  clear hp
  go_enter Tryd.func20, Tryd.ntmps20
  go_wp2_with fail
  refine (pack_any 1 2 (some ⟨w.heap.size, 0, none⟩) 3 3 [97, 98, 99] _ ⟨rfl, by unfold IsB; decide, fun _ => ⟨_, rfl, by simp, ?_⟩⟩ (by omega)).mono ?_
  · intro j x hj
    rw [add_lit, World.cell?_alloc_mark]
    rcases j with _ | _ | _ | j <;> simp at hj
    all_goals subst hj; rfl
  · rintro e w' ⟨⟨v, rfl, hown⟩, hb⟩
    have HB := Lib.hid (((Below.refl w.heap.size w).alloc (Nat.le_refl _) _).trans (hb.mono (by simp)))
    rw [HP.out] at hown ⊢
    clear hb HP
    generalize pageN 1 2 [97, 98, 99] = pg at *
    have hl := HL.out
    obtain ⟨g, c, rfl, hc⟩ := own_cells hown (by rw [hl]; omega)
    rw [hl]
    have c0 := hc 0 1 HK.out.1 (by rw [hl]; omega)
    have c1 := hc 1 3 HK.out.2.1 (by rw [hl]; omega)
    have c2 := hc 2 2 HK.out.2.2.1 (by rw [hl]; omega)
    have c6 := hc 6 97 HK.out.2.2.2.1 (by rw [hl]; omega)
    have c8 := hc 8 99 HK.out.2.2.2.2 (by rw [hl]; omega)
    have c252 := hc 252 149 HQ.out.1 (by rw [hl]; omega)
    have c253 := hc 253 73 HQ.out.2.1 (by rw [hl]; omega)
    have c254 := hc 254 117 HQ.out.2.2.1 (by rw [hl]; omega)
    have c255 := hc 255 75 HQ.out.2.2.2 (by rw [hl]; omega)
    clear hown hl hc
    go_wp2_with fail
    go_ret
    exact ⟨rfl, HB.out⟩
end Go.Proofs.YtbjbpgbpefkbhaaDoor
