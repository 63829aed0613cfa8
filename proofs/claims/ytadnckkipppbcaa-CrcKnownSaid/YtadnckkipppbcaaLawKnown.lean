/- ledgerlaw2.CrcKnown: the walk. -/
import Derived.Test.YtadnckkipppbcaaLib2
import Derived.Test.YtadnckkipppbcaaJoin
import Derived.Test.YtadnckkipppbcaaSeal
import Derived.Test.YtadnckkipppbcaaWhole
import Derived.Test.YtadnckkipppbcaaSame
import Derived.Lib.SlBytesConst
namespace Go.Proofs.Ytadnckkipppbcaa
open Go.RowKit
theorem und_bytes3 : Try.prog.underlying 22 = some (.slice 5) := by kernel_rfl
theorem sum_eq {A : Option Addr} {n c v : Nat} {xs : List Nat} {w : World} (hx : RB w A n xs) (hn : n ≤ 281474976710656) (h : updN 0 xs = v) :
    Calls Try.prog 14 #[.slice A n c] w fun e w' => e = .returned (.int .u32 (v : Nat)) ∧ Below w.heap.size w w' := by
  have := sum_any A n c xs w hx hn
  rwa [h] at this
theorem upd_eq {r : Nat} {A : Option Addr} {n c v : Nat} {xs : List Nat} {w : World} (hx : RB w A n xs) (hn : n ≤ 281474976710656) (hr : r < 4294967296) (h : updN r xs = v) :
    Calls Try.prog 23 #[.int .u32 (r : Nat), .slice A n c] w fun e w' => e = .returned (.int .u32 (v : Nat)) ∧ Below w.heap.size w w' := by
  have := upd_any r A n c xs w hr hx hn
  rwa [h] at this
theorem joinK {a b v : Nat} {n : Int} (h : joinN a b n = v) (w : World) (ha : a < 4294967296) (hb : b < 4294967296) (hn : n ≤ 9223372036854775807) :
    Calls Try.prog 21 #[.int .u32 a, .int .u32 b, .int .i64 n] w fun e w' => e = .returned (.int .u32 (v : Nat)) ∧ Below w.heap.size w w' := by
  have := join_any a b n w ha hb hn
  rwa [h] at this
theorem join_fast {a b v n : Nat} (ha : a < 4294967296) (hn : 8 * n < 2 ^ 40) (h : times a (pw 40 (8 * n)) ^^^ b = v) : joinN a b n = v := by
  unfold joinN
  rw [if_neg (by omega), Int.toNat_natCast, ← times_E ha, ← pw_E 40 _ hn]
  exact h
theorem k1 (W : World) : Calls Try.prog 14 #[.slice none 0 0] W fun e w' => e = .returned (.int .u32 0) ∧ Below W.heap.size W w' := by
  have h := sum_eq (A := none) (n := 0) (c := 0) (v := 0) (RB.nil W _) (by omega) (by decide +kernel)
  simpa using h
theorem k2 (W : World) : Calls Try.prog 14 #[.slice (some ⟨W.heap.size, 0, none⟩) 1 1] (W.alloc (.cells #[Value.int .u8 97] 5 (1, 2))) fun e w' => e = .returned (.int .u32 3904355907) ∧ Below (W.alloc (.cells #[Value.int .u8 97] 5 (1, 2))).heap.size (W.alloc (.cells #[Value.int .u8 97] 5 (1, 2))) w' := by
  have h := sum_eq (n := 1) (c := 1) (v := 3904355907) (RB_new W 5 #[Value.int .u8 97] (1, 2) [97] (by unfold IsB; decide) rfl) (by omega) (by decide +kernel)
  simpa using h
theorem k3 (W : World) : Calls Try.prog 14 #[.slice (some ⟨W.heap.size, 0, none⟩) 3 3] (W.alloc (.cells #[Value.int .u8 97, Value.int .u8 98, Value.int .u8 99] 5 (3, 4))) fun e w' => e = .returned (.int .u32 891568578) ∧ Below (W.alloc (.cells #[Value.int .u8 97, Value.int .u8 98, Value.int .u8 99] 5 (3, 4))).heap.size (W.alloc (.cells #[Value.int .u8 97, Value.int .u8 98, Value.int .u8 99] 5 (3, 4))) w' := by
  have h := sum_eq (n := 3) (c := 3) (v := 891568578) (RB_new W 5 #[Value.int .u8 97, Value.int .u8 98, Value.int .u8 99] (3, 4) [97, 98, 99] (by unfold IsB; decide) rfl) (by omega) (by decide +kernel)
  simpa using h
theorem k4 (W : World) : Calls Try.prog 14 #[.slice (some ⟨W.heap.size, 0, none⟩) 1 1] (W.alloc (.cells #[Value.int .u8 0] 5 (0, 0))) fun e w' => e = .returned (.int .u32 3523407757) ∧ Below (W.alloc (.cells #[Value.int .u8 0] 5 (0, 0))).heap.size (W.alloc (.cells #[Value.int .u8 0] 5 (0, 0))) w' := by
  have h := sum_eq (n := 1) (c := 1) (v := 3523407757) (RB_new W 5 #[Value.int .u8 0] (0, 0) [0] (by unfold IsB; decide) rfl) (by omega) (by decide +kernel)
  simpa using h
theorem k5 (W : World) : Calls Try.prog 14 #[.slice (some ⟨W.heap.size, 0, none⟩) 4 4] (W.alloc (.cells #[Value.int .u8 255, Value.int .u8 255, Value.int .u8 255, Value.int .u8 255] 5 (0, 0))) fun e w' => e = .returned (.int .u32 4294967295) ∧ Below (W.alloc (.cells #[Value.int .u8 255, Value.int .u8 255, Value.int .u8 255, Value.int .u8 255] 5 (0, 0))).heap.size (W.alloc (.cells #[Value.int .u8 255, Value.int .u8 255, Value.int .u8 255, Value.int .u8 255] 5 (0, 0))) w' := by
  have h := sum_eq (n := 4) (c := 4) (v := 4294967295) (RB_new W 5 #[Value.int .u8 255, Value.int .u8 255, Value.int .u8 255, Value.int .u8 255] (0, 0) [255, 255, 255, 255] (by unfold IsB; decide) rfl) (by omega) (by decide +kernel)
  simpa using h
theorem k6 (W : World) : Calls Try.prog 23 #[.int .u32 891568578, .slice (some ⟨W.heap.size, 0, none⟩) 2 2] (W.alloc (.cells #[Value.int .u8 100, Value.int .u8 101] 5 (2, 3))) fun e w' => e = .returned (.int .u32 2240272485) ∧ Below (W.alloc (.cells #[Value.int .u8 100, Value.int .u8 101] 5 (2, 3))).heap.size (W.alloc (.cells #[Value.int .u8 100, Value.int .u8 101] 5 (2, 3))) w' := by
  have h := upd_eq (r := 891568578) (n := 2) (c := 2) (v := 2240272485) (RB_new W 5 #[Value.int .u8 100, Value.int .u8 101] (2, 3) [100, 101] (by unfold IsB; decide) rfl) (by omega) (by omega) (by decide +kernel)
  simpa using h
theorem k7 (W : World) : Calls Try.prog 23 #[.int .u32 1, .slice (some ⟨W.heap.size, 0, none⟩) 1 1] (W.alloc (.cells #[Value.int .u8 0] 5 (0, 0))) fun e w' => e = .returned (.int .u32 2768625435) ∧ Below (W.alloc (.cells #[Value.int .u8 0] 5 (0, 0))).heap.size (W.alloc (.cells #[Value.int .u8 0] 5 (0, 0))) w' := by
  have h := upd_eq (r := 1) (n := 1) (c := 1) (v := 2768625435) (RB_new W 5 #[Value.int .u8 0] (0, 0) [0] (by unfold IsB; decide) rfl) (by omega) (by omega) (by decide +kernel)
  simpa using h
theorem k8 (W : World) : Calls Try.prog 23 #[.int .u32 4294967295, .slice (some ⟨W.heap.size, 0, none⟩) 1 1] (W.alloc (.cells #[Value.int .u8 0] 5 (0, 0))) fun e w' => e = .returned (.int .u32 4294967295) ∧ Below (W.alloc (.cells #[Value.int .u8 0] 5 (0, 0))).heap.size (W.alloc (.cells #[Value.int .u8 0] 5 (0, 0))) w' := by
  have h := upd_eq (r := 4294967295) (n := 1) (c := 1) (v := 4294967295) (RB_new W 5 #[Value.int .u8 0] (0, 0) [0] (by unfold IsB; decide) rfl) (by omega) (by omega) (by decide +kernel)
  simpa using h
theorem k9 (W : World) : Calls Try.prog 21 #[.int .u32 891568578, .int .u32 2106599819, .int .i64 2] W fun e w' => e = .returned (.int .u32 2240272485) ∧ Below W.heap.size W w' := by
  have h := joinK (a := 891568578) (b := 2106599819) (n := (2 : Nat)) (v := 2240272485) (join_fast (by omega) (by omega) (by decide +kernel)) W (by omega) (by omega) (by omega)
  simpa using h
theorem k10 (W : World) : Calls Try.prog 21 #[.int .u32 1, .int .u32 0, .int .i64 1] W fun e w' => e = .returned (.int .u32 1996959894) ∧ Below W.heap.size W w' := by
  have h := joinK (a := 1) (b := 0) (n := (1 : Nat)) (v := 1996959894) (join_fast (by omega) (by omega) (by decide +kernel)) W (by omega) (by omega) (by omega)
  simpa using h
theorem k11 (W : World) : Calls Try.prog 21 #[.int .u32 2147483648, .int .u32 0, .int .i64 4] W fun e w' => e = .returned (.int .u32 3988292384) ∧ Below W.heap.size W w' := by
  have h := joinK (a := 2147483648) (b := 0) (n := (4 : Nat)) (v := 3988292384) (join_fast (by omega) (by omega) (by decide +kernel)) W (by omega) (by omega) (by omega)
  simpa using h
theorem k12 (W : World) : Calls Try.prog 21 #[.int .u32 1, .int .u32 0, .int .i64 1000000] W fun e w' => e = .returned (.int .u32 42349236) ∧ Below W.heap.size W w' := by
  have h := joinK (a := 1) (b := 0) (n := (1000000 : Nat)) (v := 42349236) (join_fast (by omega) (by omega) (by decide +kernel)) W (by omega) (by omega) (by omega)
  simpa using h
theorem k13 (W : World) : Calls Try.prog 21 #[.int .u32 1, .int .u32 2, .int .i64 0] W fun e w' => e = .returned (.int .u32 3) ∧ Below W.heap.size W w' := by
  have h := joinK (a := 1) (b := 2) (n := (0 : Nat)) (v := 3) (join_fast (by omega) (by omega) (by decide +kernel)) W (by omega) (by omega) (by omega)
  simpa using h
theorem k14 (W : World) : Calls Try.prog 21 #[.int .u32 1, .int .u32 2, .int .i64 (-1)] W fun e w' => e = .returned (.int .u32 0) ∧ Below W.heap.size W w' := by
  have h := joinK (a := 1) (b := 2) (n := (-1)) (v := 0) (if_pos (by omega)) W (by omega) (by omega) (by omega)
  simpa using h
theorem kseal1 (W : World) : Calls Try.prog 16 #[.slice (some ⟨W.heap.size, 0, none⟩) 3 3] (W.alloc (.cells #[Value.int .u8 97, Value.int .u8 98, Value.int .u8 99] 5 (3, 4))) fun e w' => ∃ v, e = .returned v ∧ OwnU w' (W.alloc (.cells #[Value.int .u8 97, Value.int .u8 98, Value.int .u8 99] 5 (3, 4))).heap.size v [97, 98, 99, 194, 65, 36, 53] ∧ Below (W.alloc (.cells #[Value.int .u8 97, Value.int .u8 98, Value.int .u8 99] 5 (3, 4))).heap.size (W.alloc (.cells #[Value.int .u8 97, Value.int .u8 98, Value.int .u8 99] 5 (3, 4))) w' := by
  have h := seal_any _ 3 3 [97, 98, 99] _ (RB_new W 5 #[Value.int .u8 97, Value.int .u8 98, Value.int .u8 99] (3, 4) [97, 98, 99] (by unfold IsB; decide) rfl) (fun h => by cases h) (by omega)
  rwa [show sealN [97, 98, 99] = [97, 98, 99, 194, 65, 36, 53] by decide +kernel] at h
theorem kseal2 (W : World) : Calls Try.prog 16 #[.slice none 0 0] W fun e w' => ∃ v, e = .returned v ∧ OwnU w' W.heap.size v [0, 0, 0, 0] ∧ Below W.heap.size W w' := by
  have h := seal_any none 0 0 [] W (RB.nil W _) (fun _ => rfl) (by omega)
  rwa [show sealN [] = [0, 0, 0, 0] by decide +kernel] at h
theorem ks1 (W : World) (A : Option Addr) (c : Nat) (h : RB W A 7 [97, 98, 99, 194, 65, 36, 53]) : Calls Try.prog 20 #[.slice A 7 c, .slice (some ⟨W.heap.size, 0, none⟩) 7 7] (W.alloc (.cells #[Value.int .u8 97, Value.int .u8 98, Value.int .u8 99, Value.int .u8 194, Value.int .u8 65, Value.int .u8 36, Value.int .u8 53] 5)) fun e w' => e = .returned (.bool true) ∧ ∃ q, w' = (W.alloc (.cells #[Value.int .u8 97, Value.int .u8 98, Value.int .u8 99, Value.int .u8 194, Value.int .u8 65, Value.int .u8 36, Value.int .u8 53] 5)).drewN q :=
  same_true (h.alloc _) (RB_new W 5 #[Value.int .u8 97, Value.int .u8 98, Value.int .u8 99, Value.int .u8 194, Value.int .u8 65, Value.int .u8 36, Value.int .u8 53] (0, 0) [97, 98, 99, 194, 65, 36, 53] (by unfold IsB; decide) rfl) (by omega) rfl
theorem ks2 (W : World) (A : Option Addr) (c : Nat) (h : RB W A 4 [0, 0, 0, 0]) : Calls Try.prog 20 #[.slice A 4 c, .slice (some ⟨W.heap.size, 0, none⟩) 4 4] (W.alloc (.cells #[Value.int .u8 0, Value.int .u8 0, Value.int .u8 0, Value.int .u8 0] 5)) fun e w' => e = .returned (.bool true) ∧ ∃ q, w' = (W.alloc (.cells #[Value.int .u8 0, Value.int .u8 0, Value.int .u8 0, Value.int .u8 0] 5)).drewN q :=
  same_true (h.alloc _) (RB_new W 5 #[Value.int .u8 0, Value.int .u8 0, Value.int .u8 0, Value.int .u8 0] (0, 0) [0, 0, 0, 0] (by unfold IsB; decide) rfl) (by omega) rfl
theorem kw1 (W : World) : Calls Try.prog 17 #[.slice (some ⟨W.heap.size, 0, none⟩) 7 7] (W.alloc (.cells #[Value.int .u8 97, Value.int .u8 98, Value.int .u8 99, Value.int .u8 194, Value.int .u8 65, Value.int .u8 36, Value.int .u8 53] 5)) fun e w' => e = .returned (.bool true) ∧ Below (W.alloc (.cells #[Value.int .u8 97, Value.int .u8 98, Value.int .u8 99, Value.int .u8 194, Value.int .u8 65, Value.int .u8 36, Value.int .u8 53] 5)).heap.size (W.alloc (.cells #[Value.int .u8 97, Value.int .u8 98, Value.int .u8 99, Value.int .u8 194, Value.int .u8 65, Value.int .u8 36, Value.int .u8 53] 5)) w' :=
  whole_true (RB_new W 5 #[Value.int .u8 97, Value.int .u8 98, Value.int .u8 99, Value.int .u8 194, Value.int .u8 65, Value.int .u8 36, Value.int .u8 53] (0, 0) [97, 98, 99, 194, 65, 36, 53] (by unfold IsB; decide) rfl) (by omega) (by omega) (by decide +kernel)
theorem kw2 (W : World) : Calls Try.prog 17 #[.slice (some ⟨W.heap.size, 0, none⟩) 7 7] (W.alloc (.cells #[Value.int .u8 97, Value.int .u8 98, Value.int .u8 99, Value.int .u8 194, Value.int .u8 65, Value.int .u8 36, Value.int .u8 52] 5)) fun e w' => e = .returned (.bool false) ∧ Below (W.alloc (.cells #[Value.int .u8 97, Value.int .u8 98, Value.int .u8 99, Value.int .u8 194, Value.int .u8 65, Value.int .u8 36, Value.int .u8 52] 5)).heap.size (W.alloc (.cells #[Value.int .u8 97, Value.int .u8 98, Value.int .u8 99, Value.int .u8 194, Value.int .u8 65, Value.int .u8 36, Value.int .u8 52] 5)) w' :=
  whole_false (RB_new W 5 #[Value.int .u8 97, Value.int .u8 98, Value.int .u8 99, Value.int .u8 194, Value.int .u8 65, Value.int .u8 36, Value.int .u8 52] (0, 0) [97, 98, 99, 194, 65, 36, 52] (by unfold IsB; decide) rfl) (by omega) (by omega) (by decide +kernel)
theorem kw3 (W : World) : Calls Try.prog 17 #[.slice (some ⟨W.heap.size, 0, none⟩) 3 3] (W.alloc (.cells #[Value.int .u8 0, Value.int .u8 0, Value.int .u8 0] 5)) fun e w' => e = .returned (.bool false) ∧ Below (W.alloc (.cells #[Value.int .u8 0, Value.int .u8 0, Value.int .u8 0] 5)).heap.size (W.alloc (.cells #[Value.int .u8 0, Value.int .u8 0, Value.int .u8 0] 5)) w' :=
  whole_false (RB_new W 5 #[Value.int .u8 0, Value.int .u8 0, Value.int .u8 0] (0, 0) [0, 0, 0] (by unfold IsB; decide) rfl) (by omega) (by omega) (by decide +kernel)
theorem kw4 (W : World) : Calls Try.prog 17 #[.slice none 0 0] W fun e w' => e = .returned (.bool false) ∧ Below W.heap.size W w' :=
  whole_false (RB.nil W _) (by omega) (by omega) (by decide +kernel)
set_option maxHeartbeats 4000000 in
theorem knowns_walk (w : World) :
    Calls Try.prog 11 #[] w fun e w' => e = .returned (.bool true) ∧ Below w.heap.size w w' := by
  have kc := fun (w : World) (C : Array Value) (n c : Nat) => Lib.run_convert_bytes_const (P := Try.prog) w 22 5 C n c und_bytes3 (by kernel_rfl)
  go_enter Try.func11, Try.ntmps11
  go_wp2_with fail
  refine (known_any _).mono ?_
  rintro e w1 ⟨rfl, hb⟩
  have HB1 := Lib.hid (((Below.refl w.heap.size w)).trans (hb.mono ((Below.refl w.heap.size w)).size))
  clear hb
  go_wp2_with fail
  refine (k1 _).mono ?_
  rintro e w2 ⟨rfl, hb⟩
  have HB2 := Lib.hid ((HB1.out).trans (hb.mono (HB1.out).size))
  clear hb
  go_wp2_with fail
  refine (k2 _).mono ?_
  rintro e w3 ⟨rfl, hb⟩
  have HB3 := Lib.hid (((HB2.out).alloc (HB2.out).size _).trans (hb.mono (by have := (HB2.out).size; simp; omega)))
  clear hb
  go_wp2_with fail
  refine (k3 _).mono ?_
  rintro e w4 ⟨rfl, hb⟩
  have HB4 := Lib.hid (((HB3.out).alloc (HB3.out).size _).trans (hb.mono (by have := (HB3.out).size; simp; omega)))
  clear hb
  go_wp2_with fail
  refine (k4 _).mono ?_
  rintro e w5 ⟨rfl, hb⟩
  have HB5 := Lib.hid (((HB4.out).alloc (HB4.out).size _).trans (hb.mono (by have := (HB4.out).size; simp; omega)))
  clear hb
  go_wp2_with fail
  refine (k5 _).mono ?_
  rintro e w6 ⟨rfl, hb⟩
  have HB6 := Lib.hid (((HB5.out).alloc (HB5.out).size _).trans (hb.mono (by have := (HB5.out).size; simp; omega)))
  clear hb
  go_wp2_with fail
  refine (k6 _).mono ?_
  rintro e w7 ⟨rfl, hb⟩
  have HB7 := Lib.hid (((HB6.out).alloc (HB6.out).size _).trans (hb.mono (by have := (HB6.out).size; simp; omega)))
  clear hb
  go_wp2_with fail
  refine (k7 _).mono ?_
  rintro e w8 ⟨rfl, hb⟩
  have HB8 := Lib.hid (((HB7.out).alloc (HB7.out).size _).trans (hb.mono (by have := (HB7.out).size; simp; omega)))
  clear hb
  go_wp2_with fail
  refine (k8 _).mono ?_
  rintro e w9 ⟨rfl, hb⟩
  have HB9 := Lib.hid (((HB8.out).alloc (HB8.out).size _).trans (hb.mono (by have := (HB8.out).size; simp; omega)))
  clear hb
  go_wp2_with fail
  refine (k9 _).mono ?_
  rintro e w10 ⟨rfl, hb⟩
  have HB10 := Lib.hid ((HB9.out).trans (hb.mono (HB9.out).size))
  clear hb
  go_wp2_with fail
  refine (k10 _).mono ?_
  rintro e w11 ⟨rfl, hb⟩
  have HB11 := Lib.hid ((HB10.out).trans (hb.mono (HB10.out).size))
  clear hb
  go_wp2_with fail
  refine (k11 _).mono ?_
  rintro e w12 ⟨rfl, hb⟩
  have HB12 := Lib.hid ((HB11.out).trans (hb.mono (HB11.out).size))
  clear hb
  go_wp2_with fail
  refine (k12 _).mono ?_
  rintro e w13 ⟨rfl, hb⟩
  have HB13 := Lib.hid ((HB12.out).trans (hb.mono (HB12.out).size))
  clear hb
  go_wp2_with fail
  refine (k13 _).mono ?_
  rintro e w14 ⟨rfl, hb⟩
  have HB14 := Lib.hid ((HB13.out).trans (hb.mono (HB13.out).size))
  clear hb
  go_wp2_with fail
  refine (k14 _).mono ?_
  rintro e w15 ⟨rfl, hb⟩
  have HB15 := Lib.hid ((HB14.out).trans (hb.mono (HB14.out).size))
  clear hb
  go_wp2_with fail
  refine (kseal1 _).mono ?_
  rintro e w16 ⟨v, rfl, hown, hb⟩
  have HB16 := Lib.hid (((HB15.out).alloc (HB15.out).size _).trans (hb.mono (by have := (HB15.out).size; simp; omega)))
  obtain ⟨A16, c16, rfl, hr, _⟩ := hown.form
  have HR16 := Lib.hid hr
  clear hb hown hr
  go_wp2_with fail
  refine (ks1 w16 A16 c16 HR16.out).mono ?_
  rintro e w17 ⟨rfl, q, hq⟩
  have HB17 : Hid (Below w.heap.size w w17) := by
    rw [hq]
    exact drewN_below (HB16.out.alloc HB16.out.size (.cells #[Value.int .u8 97, Value.int .u8 98, Value.int .u8 99, Value.int .u8 194, Value.int .u8 65, Value.int .u8 36, Value.int .u8 53] 5)) q
  clear hq
  go_wp2_with fail
  refine (kseal2 _).mono ?_
  rintro e w18 ⟨v, rfl, hown, hb⟩
  have HB18 := Lib.hid ((HB17.out).trans (hb.mono (HB17.out).size))
  obtain ⟨A18, c18, rfl, hr, _⟩ := hown.form
  have HR18 := Lib.hid hr
  clear hb hown hr
  go_wp2_with fail
  refine (ks2 w18 A18 c18 HR18.out).mono ?_
  rintro e w19 ⟨rfl, q, hq⟩
  have HB19 : Hid (Below w.heap.size w w19) := by
    rw [hq]
    exact drewN_below (HB18.out.alloc HB18.out.size (.cells #[Value.int .u8 0, Value.int .u8 0, Value.int .u8 0, Value.int .u8 0] 5)) q
  clear hq
  go_wp2_with fail
  refine (kw1 _).mono ?_
  rintro e w20 ⟨rfl, hb⟩
  have HB20 := Lib.hid (((HB19.out).alloc (HB19.out).size _).trans (hb.mono (by have := (HB19.out).size; simp; omega)))
  clear hb
  go_wp2_with fail
  refine (kw2 _).mono ?_
  rintro e w21 ⟨rfl, hb⟩
  have HB21 := Lib.hid (((HB20.out).alloc (HB20.out).size _).trans (hb.mono (by have := (HB20.out).size; simp; omega)))
  clear hb
  go_wp2_with fail
  refine (kw3 _).mono ?_
  rintro e w22 ⟨rfl, hb⟩
  have HB22 := Lib.hid (((HB21.out).alloc (HB21.out).size _).trans (hb.mono (by have := (HB21.out).size; simp; omega)))
  clear hb
  go_wp2_with fail
  refine (kw4 _).mono ?_
  rintro e w23 ⟨rfl, hb⟩
  go_wp2_with fail
  go_ret
  exact ⟨rfl, (HB22.out).trans (hb.mono (HB22.out).size)⟩
end Go.Proofs.Ytadnckkipppbcaa
