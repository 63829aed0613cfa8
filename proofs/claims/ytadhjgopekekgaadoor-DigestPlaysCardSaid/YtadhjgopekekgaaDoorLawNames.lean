/- ledgerlaw1.DigestNames: the walk. -/
import Derived.Test.YtadhjgopekekgaaDoorWritten
import Derived.Test.YtadhjgopekekgaaDoorDSum
import Derived.Lib.SlBytesConst
import Derived.Laws.IdiomStrings
namespace Go.Proofs.YtadhjgopekekgaaDoor
open Go.RowKit
def s0 : ByteArray := ⟨#[101, 51, 98, 48, 99, 52, 52, 50, 57, 56, 102, 99, 49, 99, 49, 52, 57, 97, 102, 98, 102, 52, 99, 56, 57, 57, 54, 102, 98, 57, 50, 52, 50, 55, 97, 101, 52, 49, 101, 52, 54, 52, 57, 98, 57, 51, 52, 99, 97, 52, 57, 53, 57, 57, 49, 98, 55, 56, 53, 50, 98, 56, 53, 53]⟩
def s1 : ByteArray := ⟨#[98, 97, 55, 56, 49, 54, 98, 102, 56, 102, 48, 49, 99, 102, 101, 97, 52, 49, 52, 49, 52, 48, 100, 101, 53, 100, 97, 101, 50, 50, 50, 51, 98, 48, 48, 51, 54, 49, 97, 51, 57, 54, 49, 55, 55, 97, 57, 99, 98, 52, 49, 48, 102, 102, 54, 49, 102, 50, 48, 48, 49, 53, 97, 100]⟩
def s2 : ByteArray := ⟨#[50, 52, 56, 100, 54, 97, 54, 49, 100, 50, 48, 54, 51, 56, 98, 56, 101, 53, 99, 48, 50, 54, 57, 51, 48, 99, 51, 101, 54, 48, 51, 57, 97, 51, 51, 99, 101, 52, 53, 57, 54, 52, 102, 102, 50, 49, 54, 55, 102, 54, 101, 99, 101, 100, 100, 52, 49, 57, 100, 98, 48, 54, 99, 49]⟩
def abcN : List Nat := [97, 98, 99]
def longN : List Nat := [97, 98, 99, 100, 98, 99, 100, 101, 99, 100, 101, 102, 100, 101, 102, 103, 101, 102, 103, 104, 102, 103, 104, 105, 103, 104, 105, 106, 104, 105, 106, 107, 105, 106, 107, 108, 106, 107, 108, 109, 107, 108, 109, 110, 108, 109, 110, 111, 109, 110, 111, 112, 110, 111, 112, 113]
set_option maxRecDepth 100000 in
theorem known0 : shaN [] = wrN s0 := by decide +kernel
set_option maxRecDepth 100000 in
theorem known1 : shaN abcN = wrN s1 := by decide +kernel
set_option maxRecDepth 100000 in
theorem known2 : shaN longN = wrN s2 := by decide +kernel
theorem dig_eq (w : World) {xs ys : List Nat} (hx : IsB xs) (hy : IsB ys) (h1 : xs.length = 32) (h2 : ys.length = 32) : (Op.equalIn 10000 23 (.agg (bvs xs).toArray) (.agg (bvs ys).toArray)).run Tryd.prog w = .ok (decide (xs = ys)) w :=
  eq_arr (P := Tryd.prog) w 9998 23 5 32 Tryd.underlying23 Tryd.underlying5 byte_sizeOf hx hy h1 h2
theorem dig_same (w : World) {xs : List Nat} (hx : IsB xs) (h1 : xs.length = 32) : (Op.equalIn 10000 23 (.agg (bvs xs).toArray) (.agg (bvs xs).toArray)).run Tryd.prog w = .ok true w := by
  rw [dig_eq w hx hx h1 h1]
  simp
def longS : ByteArray := ⟨#[97, 98, 99, 100, 98, 99, 100, 101, 99, 100, 101, 102, 100, 101, 102, 103, 101, 102, 103, 104, 102, 103, 104, 105, 103, 104, 105, 106, 104, 105, 106, 107, 105, 106, 107, 108, 106, 107, 108, 109, 107, 108, 109, 110, 108, 109, 110, 111, 109, 110, 111, 112, 110, 111, 112, 113]⟩
theorem longS_bytes : longS.data.toList.map (fun b => b.toNat) = longN := by decide +kernel
theorem str_conv (w : World) (s : ByteArray) (xs : List Nat) (h : s.data.toList.map (fun b => b.toNat) = xs) : ∃ c w', (convert 9 26 (.string s)).run Tryd.prog w = .ok (.slice (some ⟨w.heap.size, 0, none⟩) s.size c) w' ∧
    Hid (s.size ≤ c ∧ w'.heap.size = w.heap.size + 1 ∧ RB w' (some ⟨w.heap.size, 0, none⟩) s.size xs ∧ Below w.heap.size w w') := by
  have hl : xs.length = s.size := by rw [← h]; simp
  refine ⟨_, _, run_bytes_of_string w 9 26 5 s Tryd.underlying9 und_bytes (by kernel_rfl), ?_, ?_, ⟨hl, ?_, fun _ => ⟨_, rfl, ?_, fun j x hj => ?_⟩⟩, ?_⟩
  · exact grownCap_ge _ _ _ _
  · simp
  · intro x hx
    rw [← h] at hx
    simp only [List.mem_map] at hx
    obtain ⟨b, _, rfl⟩ := hx
    exact b.toNat_lt
  · simp
  · rw [add_lit]
    have e := heap_alloc_new w.drew (.cells (bytesRow s (grownCap w s.size 0 5)) 5 ((bytesRow s (grownCap w s.size 0 5)).size, (bytesRow s (grownCap w s.size 0 5)).size + 1))
    rw [cell_of_row _ w.heap.size _ _ _ _ e, Nat.zero_add]
    have hjs : j < s.data.size := by
      rcases Nat.lt_or_ge j xs.length with h | h
      · have : s.size = s.data.size := rfl
        omega
      · rw [List.getElem?_eq_none h] at hj; cases hj
    unfold bytesRow
    rw [Array.getElem?_append_left (by simpa using hjs), Array.getElem?_map]
    rw [← h] at hj
    simp only [List.getElem?_map, Array.getElem?_toList] at hj
    rw [getElem?_pos s.data j hjs] at hj ⊢
    simp only [Option.map_some, Option.some.injEq] at hj ⊢
    rw [hj]
  · exact ((Below.refl w.heap.size w).drew).alloc (Nat.le_refl _) _
set_option maxRecDepth 100000 in
set_option maxHeartbeats 2000000 in
theorem names_walk (w : World) (ht : Tabs w) : Calls Tryd.prog 3 #[] w fun e w' => e = .returned (.bool true) ∧ Below w.heap.size w w' := by
  obtain ⟨D0, H0⟩ : ∃ D, Hid (∀ _ : Nat, shaN [] = D ∧ wrN s0 = D) := ⟨shaN [], fun _ => ⟨rfl, known0.symm⟩⟩
  obtain ⟨D1, H1⟩ : ∃ D, Hid (∀ _ : Nat, shaN abcN = D ∧ wrN s1 = D) := ⟨shaN abcN, fun _ => ⟨rfl, known1.symm⟩⟩
  obtain ⟨D2, H2⟩ : ∃ D, Hid (∀ _ : Nat, shaN longN = D ∧ wrN s2 = D) := ⟨shaN longN, fun _ => ⟨rfl, known2.symm⟩⟩
  have he0 := fun w => dig_same w (xs := D0) (by rw [← (H0.out 0).1]; exact shaN_isB _) (by rw [← (H0.out 0).1, shaN_length])
  have he1 := fun w => dig_same w (xs := D1) (by rw [← (H1.out 0).1]; exact shaN_isB _) (by rw [← (H1.out 0).1, shaN_length])
  have he2 := fun w => dig_same w (xs := D2) (by rw [← (H2.out 0).1]; exact shaN_isB _) (by rw [← (H2.out 0).1, shaN_length])
  have HT := Lib.hid ht
  clear ht
  have HS : Hid (∀ (A : Option Addr) (n c : Nat) (xs : List Nat) (W : World), RB W A n xs → n ≤ c → n ≤ 56 → Below w.heap.size w W → Calls Tryd.prog 8 #[.slice A n c] W fun e w' => e = .returned (.agg (bvs (shaN xs)).toArray) ∧ Below w.heap.size w w') :=
    fun A n c xs W h1 h2 h3 hb => (dsum_any A n c xs W h1 h2 (by omega) (HT.out.below hb)).mono fun _ _ ⟨he, h⟩ => ⟨he, hb.trans (h.mono hb.size)⟩
  have HW : Hid (∀ (s : ByteArray) (W : World), s.size = 64 → Below w.heap.size w W → Calls Tryd.prog 9 #[.string s] W fun e w' => e = .returned (.agg (bvs (wrN s)).toArray) ∧ Below w.heap.size w w') :=
    fun s W h1 hb => (written_any s W h1).mono fun _ _ ⟨he, h⟩ => ⟨he, hb.trans (h.mono hb.size)⟩
  have kc := fun (w : World) (C : Array Value) (n c : Nat) => Lib.run_convert_bytes_const (P := Tryd.prog) w 26 5 C n c und_bytes (by kernel_rfl)
  go_enter Tryd.func3, Tryd.ntmps3
  go_wp2_with fail
  refine (HS.out none 0 0 [] _ (RB.nil _ _) (by omega) (by omega) (Below.refl _ _)).mono ?_
  rintro e w1 ⟨rfl, hb⟩
  have HB1 := Lib.hid hb
  clear hb
  rw [(H0.out 0).1]
  go_wp2_with fail
  refine (HW.out s0 _ rfl HB1.out).mono ?_
  rintro e w2 ⟨rfl, hb⟩
  have HB2 := Lib.hid hb
  clear hb
  rw [(H0.out 0).2]
  go_wp2_with fail
  refine (HS.out (some ⟨w2.heap.size, 0, none⟩) 0 0 [] _ (RB.nil _ _) (by omega) (by omega) (HB2.out.alloc HB2.out.size _)).mono ?_
  rintro e w3 ⟨rfl, hb⟩
  have HB3 := Lib.hid hb
  clear hb
  rw [(H0.out 0).1]
  go_wp2_with fail
  refine (HW.out s0 _ rfl HB3.out).mono ?_
  rintro e w4 ⟨rfl, hb⟩
  have HB4 := Lib.hid hb
  clear hb
  rw [(H0.out 0).2]
  go_wp2_with fail
  refine (HS.out (some ⟨w4.heap.size, 0, none⟩) 3 3 abcN _ (RB_new w4 _ _ _ abcN (by unfold abcN; intro x hx; simp at hx; omega) rfl) (by omega) (by omega) (HB4.out.alloc HB4.out.size _)).mono ?_
  rintro e w5 ⟨rfl, hb⟩
  have HB5 := Lib.hid hb
  clear hb
  rw [(H1.out 0).1]
  go_wp2_with fail
  refine (HW.out s1 _ rfl HB5.out).mono ?_
  rintro e w6 ⟨rfl, hb⟩
  have HB6 := Lib.hid hb
  clear hb
  rw [(H1.out 0).2]
  obtain ⟨c7, w7, hk7, h7⟩ := str_conv w6 longS longN longS_bytes
  replace hk7 : (convert 9 26 (.string ⟨#[97, 98, 99, 100, 98, 99, 100, 101, 99, 100, 101, 102, 100, 101, 102, 103, 101, 102, 103, 104, 102, 103, 104, 105, 103, 104, 105, 106, 104, 105, 106, 107, 105, 106, 107, 108, 106, 107, 108, 109, 107, 108, 109, 110, 108, 109, 110, 111, 109, 110, 111, 112, 110, 111, 112, 113]⟩)).run Tryd.prog w6 = .ok (.slice (some ⟨w6.heap.size, 0, none⟩) 56 c7) w7 := hk7
  have H7 : Hid (56 ≤ c7 ∧ w7.heap.size = w6.heap.size + 1 ∧ RB w7 (some ⟨w6.heap.size, 0, none⟩) 56 longN ∧ Below w6.heap.size w6 w7) := h7
  have HB7 : Hid (Below w.heap.size w w7) := HB6.out.trans (H7.out.2.2.2.mono HB6.out.size)
  clear h7
  go_wp2_with fail
  refine (HS.out (some ⟨w6.heap.size, 0, none⟩) 56 c7 longN w7 H7.out.2.2.1 H7.out.1 (by omega) HB7.out).mono ?_
  rintro e w8 ⟨rfl, hb⟩
  have HB8 := Lib.hid hb
  clear hb hk7
  rw [(H2.out 0).1]
  go_wp2_with fail
  refine (HW.out s2 _ rfl HB8.out).mono ?_
  rintro e w9 ⟨rfl, hb⟩
  have HB9 := Lib.hid hb
  clear hb
  rw [(H2.out 0).2]
  go_wp2_with fail
  go_ret
  exact ⟨rfl, HB9.out⟩
end Go.Proofs.YtadhjgopekekgaaDoor
