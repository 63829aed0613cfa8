/- The register behind a text: what crc.feed computes. -/
import Derived.Test.YtbjbpgbpefkbhaaDoorChecked
import Derived.Test.YtbjbpgbpefkbhaaDoorLib
import Derived.Test.YtbjbpgbpefkbhaaDoorCrc
import Derived.Test.YtbjbpgbpefkbhaaDoorBits
namespace Go.Proofs.YtbjbpgbpefkbhaaDoor
open Go.RowKit
theorem tab_cell (w : World) (i : Nat) (h : i < 16) : (w.alloc (Obj.cells #[Value.int IntKind.u32 0, Value.int IntKind.u32 498536548, Value.int IntKind.u32 997073096,
              Value.int IntKind.u32 651767980, Value.int IntKind.u32 1994146192, Value.int IntKind.u32 1802195444,
              Value.int IntKind.u32 1303535960, Value.int IntKind.u32 1342533948, Value.int IntKind.u32 3988292384,
              Value.int IntKind.u32 4027552580, Value.int IntKind.u32 3604390888, Value.int IntKind.u32 3412177804,
              Value.int IntKind.u32 2607071920, Value.int IntKind.u32 2262029012, Value.int IntKind.u32 2685067896,
              Value.int IntKind.u32 3183342108] 89)).cell? ⟨w.heap.size, i, none⟩ = some (.int .u32 (tab i : Nat)) := by
  rw [cell_of_row _ _ i _ _ _ (heap_alloc_new w _)]
  match i, h with
  | 0, _ | 1, _ | 2, _ | 3, _ | 4, _ | 5, _ | 6, _ | 7, _ | 8, _ | 9, _ | 10, _ | 11, _ | 12, _ | 13, _ | 14, _ | 15, _ => rfl
  | m + 16, h => omega
set_option maxHeartbeats 400000 in
theorem feed_any (r : Nat) (A : Option Addr) (n c : Nat) (xs : List Nat) (w : World) (hr : r < 4294967296) (hx : RB w A n xs) (hn : n ≤ 281474976710656) :
    Calls Tryd.prog 62 #[.int .u32 r, .slice A n c] w fun e w' => e = .returned (.int .u32 (feedN r xs : Nat)) ∧ Below w.heap.size w w' := by
  have HX := Lib.hid hx
  have htab := tab_cell w
  clear hx
  go_enter Tryd.func62, Tryd.ntmps62
  go_wp2
  go_loop [0, 11] (fun s i => ∃ k : Nat, k ≤ n ∧ i = .int .i64 k ∧ s = .int .u32 (feedN r (xs.take k) : Nat)) (fun _ i => n - (intOf i).toNat)
  case atStart => exact ⟨0, by omega, rfl, rfl⟩
  case round =>
    obtain ⟨k, hk, rfl, rfl⟩ := hrel
    have hlen := HX.out.1
    have hx256 := HX.out.2.1
    have hlt32 : feedN r (xs.take k) < 4294967296 := feedN_lt (fun x h => hx256 x (List.mem_of_mem_take h)) hr
    by_cases hlt : k < n
    · obtain ⟨ad, rfl, hb, hcell⟩ := HX.out.2.2 (by omega)
      have hks := feedN_take r (show k < xs.length by omega)
      have hb0 : xs.getD k 0 < 256 := hx256 _ (List.mem_of_getElem? (getD_of_lt (show k < xs.length by omega)))
      have hc : ∀ o, (w.alloc o).cell? (ad.add k) = some (.int .u8 (xs.getD k 0 : Nat)) := fun o =>
        (((Below.refl w.heap.size w).alloc (Nat.le_refl _) o).cell (p := ad.add k) (by rw [block_add]; exact hb)).trans (hcell k _ (getD_of_lt (by omega)))
      have HK := Lib.hid hks
      clear hks hcell hlen hx256
      generalize feedN r (xs.take k) = x at *
      generalize xs.getD k 0 = b at *
      have h1 := xor32 x b hlt32 (by omega)
      have hy : x ^^^ b < 4294967296 := xor_lt32 hlt32 (by omega)
      have HS : Hid (stepN x b = nib (nib (x ^^^ b))) := rfl
      generalize x ^^^ b = y at *
      have h2 := and32_15 y hy
      have h3 := htab (y % 16) (Nat.mod_lt _ (by omega))
      have h4 := xor32 (tab (y % 16)) (y / 16) (tab_lt _) (by omega)
      have hz : nib y < 4294967296 := nib_lt hy
      have h4' : bits .xor .u32 (tab (y % 16) : Int) ((y : Int) / 16) = (nib y : Nat) := h4
      generalize nib y = z at *
      have h5 := and32_15 z hz
      have h6 := htab (z % 16) (Nat.mod_lt _ (by omega))
      have h7 : bits .xor .u32 (tab (z % 16) : Int) ((z : Int) / 16) = (nib z : Nat) := xor32 (tab (z % 16)) (z / 16) (tab_lt _) (by omega)
      clear h4 htab
      go_wp2
      go_round
      case rel => exact ⟨k + 1, by omega, by go_num, by rw [HK.out, HS.out]⟩
      case measure => simp [intOf]; omega
    · have hkn : k = n := by omega
      have htk : feedN r (xs.take k) = feedN r xs := by rw [List.take_of_length_le (by omega)]
      have HT := Lib.hid htk
      clear hkn htk hx256 hlen
      go_wp2
      go_ret
      exact ⟨by rw [HT.out]; rfl, (Below.refl _ _).alloc (Nat.le_refl _) _⟩
end Go.Proofs.YtbjbpgbpefkbhaaDoor
