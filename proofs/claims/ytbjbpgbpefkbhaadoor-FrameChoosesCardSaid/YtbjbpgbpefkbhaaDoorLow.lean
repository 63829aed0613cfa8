/- frame's small functions: kindOf, place, allZero, get, put. -/
import Derived.Test.YtbjbpgbpefkbhaaDoorShort
import Derived.Test.YtbjbpgbpefkbhaaDoorFrame
import Derived.Test.YtbjbpgbpefkbhaaDoorBits
import Derived.Test.YtbjbpgbpefkbhaaDoorSuper
import Derived.Test.YtbjbpgbpefkbhaaDoorLib2
import Derived.Laws.CopyOwn
namespace Go.Proofs.YtbjbpgbpefkbhaaDoor
open Go.RowKit
theorem kindOf_any (k : Int) (w : World) : Calls Tryd.prog 47 #[.int .i64 k] w fun e w' => e = .returned (.bool (decide (KindOk k))) ∧ w' = w := by
  by_cases h1 : k = 1
  · subst h1
    go_enter Tryd.func47, Tryd.ntmps47
    go_wp2
    go_ret
    exact ⟨rfl, rfl⟩
  · by_cases h2 : k = 2
    · subst h2
      go_enter Tryd.func47, Tryd.ntmps47
      go_wp2
      go_ret
      exact ⟨rfl, rfl⟩
    · by_cases h3 : k = 3
      · subst h3
        go_enter Tryd.func47, Tryd.ntmps47
        go_wp2
        go_ret
        exact ⟨rfl, rfl⟩
      · have HD : Hid (decide (KindOk k) = false) := decide_eq_false (by unfold KindOk; omega)
        have e1 : (k == 1) = false := by rw [beq_eq_false_iff_ne]; exact h1
        have e2 : (k == 2) = false := by rw [beq_eq_false_iff_ne]; exact h2
        have e3 : (k == 3) = false := by rw [beq_eq_false_iff_ne]; exact h3
        clear h1 h2 h3
        go_enter Tryd.func47, Tryd.ntmps47
        go_wp2
        go_ret
        exact ⟨by rw [HD.out]; rfl, rfl⟩
theorem place_any (p : Int) (w : World) : Calls Tryd.prog 48 #[.int .i64 p] w fun e w' => e = .returned (.bool (decide (PlaceOk p))) ∧ w' = w := by
  by_cases h1 : 2 ≤ p
  · by_cases h2 : p < 4096
    · have HD : Hid (decide (PlaceOk p) = true) := decide_eq_true (by unfold PlaceOk; omega)
      go_enter Tryd.func48, Tryd.ntmps48
      go_wp2
      go_ret
      exact ⟨by rw [HD.out]; rfl, rfl⟩
    · have HD : Hid (decide (PlaceOk p) = false) := decide_eq_false (by unfold PlaceOk; omega)
      go_enter Tryd.func48, Tryd.ntmps48
      go_wp2
      go_ret
      exact ⟨by rw [HD.out]; rfl, rfl⟩
  · have HD : Hid (decide (PlaceOk p) = false) := decide_eq_false (by unfold PlaceOk; omega)
    go_enter Tryd.func48, Tryd.ntmps48
    go_wp2
    go_ret
    exact ⟨by rw [HD.out]; rfl, rfl⟩
/-- Are all bytes zero? -/
def allZ (xs : List Nat) : Bool := xs.all (· == 0)
theorem allZ_at {xs : List Nat} {k : Nat} (hk : k < xs.length) (h : ¬ xs.getD k 0 = 0) : allZ xs = false := by
  unfold allZ
  rw [List.all_eq_false]
  exact ⟨_, getD_mem hk, by simpa using h⟩
theorem allZ_end {xs : List Nat} {k : Nat} (hk : xs.length ≤ k) (h : ∀ x ∈ xs.take k, x = 0) : allZ xs = true := by
  unfold allZ
  rw [List.take_of_length_le hk] at h
  rw [List.all_eq_true]
  exact fun x hx => by simpa using h x hx
theorem allZ_iff {xs : List Nat} : allZ xs = true ↔ ∀ x ∈ xs, x = 0 := by
  unfold allZ
  rw [List.all_eq_true]
  simp
set_option maxHeartbeats 400000 in
theorem allZero_any (A : Option Addr) (n c : Nat) (xs : List Nat) (w : World) (hx : RB w A n xs) (hn : n ≤ 281474976710656) :
    Calls Tryd.prog 51 #[.slice A n c] w fun e w' => e = .returned (.bool (allZ xs)) ∧ w' = w := by
  have HX := Lib.hid hx
  clear hx
  go_enter Tryd.func51, Tryd.ntmps51
  go_wp2
  go_loop [7] (fun i => ∃ k : Nat, k ≤ n ∧ i = .int .i64 k ∧ Hid (∀ x ∈ xs.take k, x = 0)) (fun i => n - (intOf i).toNat)
  case atStart => exact ⟨0, by omega, rfl, by show ∀ x ∈ xs.take 0, x = 0; simp⟩
  case round =>
    obtain ⟨k, hk, rfl, HZ⟩ := hrel
    have hlen := HX.out.1
    by_cases hlt : k < n
    · obtain ⟨ad, rfl, hb, hc⟩ := HX.out.at_ hlt
      by_cases h0 : xs.getD k 0 = 0
      · have HZ2 : Hid (∀ x ∈ xs.take (k + 1), x = 0) := by
          show ∀ x ∈ xs.take (k + 1), x = 0
          rw [take_succ_getD (by omega), h0]
          intro x hx
          rcases List.mem_append.1 hx with h | h
          · exact HZ.out x h
          · simpa using h
        rw [h0] at hc
        clear hlen h0
        go_wp2
        go_round
        case rel => exact ⟨k + 1, by omega, by go_num, HZ2⟩
        case measure => simp [intOf]; omega
      · have HF := Lib.hid (allZ_at (by omega) h0)
        have hn0 : (((xs.getD k 0 : Nat) : Int) != 0) = true := by rw [bne_iff_ne]; omega
        clear hlen h0
        generalize xs.getD k 0 = b at *
        go_wp2
        go_ret
        exact ⟨by rw [HF.out]; rfl, rfl⟩
    · have HF := Lib.hid (allZ_end (by omega) HZ.out)
      clear hlen
      go_wp2
      go_ret
      exact ⟨by rw [HF.out]; rfl, rfl⟩
theorem or64 (v x : Nat) (hv : v < 36028797018963968) (hx : x < 256) : bits .or .i64 (((v : Int)) * 256) (x : Int) = ((x + 256 * v : Nat) : Int) := by
  show IntKind.i64.wrap ((BitVec.ofInt 64 (((v : Int)) * 256) ||| BitVec.ofInt 64 (x : Int)).toNat : Int) = _
  have e : ((v : Int)) * 256 = ((256 * v : Nat) : Int) := by omega
  rw [e, BitVec.toNat_or, ofInt64 _ (by omega), ofInt64 _ (by omega)]
  have h := Nat.two_pow_add_eq_or_of_lt (show x < 2 ^ 8 by omega) v
  rw [show 256 * v ||| x = 2 ^ 8 * v + x from h.symm, IntKind.wrap_i64]
  omega
theorem drop_getD {xs : List Nat} {k : Nat} (h : k < xs.length) : xs.drop k = xs.getD k 0 :: xs.drop (k + 1) := by
  rw [List.drop_eq_getElem_cons h]
  simp [List.getD, h]
theorem leVal_step {xs : List Nat} {k : Nat} (h : k < xs.length) : leVal (xs.drop k) = xs.getD k 0 + 256 * leVal (xs.drop (k + 1)) := by
  rw [drop_getD h]; rfl
theorem get_any (A : Option Addr) (m c n : Nat) (xs : List Nat) (w : World) (hx0 : RB w A m xs) (hn : n ≤ m) (h7 : n ≤ 7) :
    Calls Tryd.prog 52 #[.slice A m c, .int .i64 n] w fun e w' => e = .returned (.int .i64 (leVal (xs.take n) : Nat)) ∧ w' = w := by
  have HX := Lib.hid (hx0.take hn)
  generalize xs.take n = ys at *
  have hlen := HX.out.1
  clear hx0
  go_enter Tryd.func52, Tryd.ntmps52
  go_wp2
  go_loop [5, 6] (fun v i => ∃ j : Nat, j ≤ n ∧ i = .int .i64 ((j : Int) - 1) ∧ v = .int .i64 (leVal (ys.drop j) : Nat)) (fun _ i => (intOf i + 1).toNat)
  case atStart => exact ⟨n, by omega, rfl, by rw [List.drop_of_length_le (by omega)]; rfl⟩
  case round =>
    obtain ⟨j, hj, rfl, rfl⟩ := hrel
    rcases j with _ | k
    · go_wp2
      go_ret
      exact ⟨rfl, rfl⟩
    · obtain ⟨ad, rfl, hb, hc⟩ := HX.out.at_ (show k < n by omega)
      have hx8 := HX.out.lt (show k < n by omega)
      have HS := Lib.hid (leVal_step (xs := ys) (k := k) (by omega))
      have hv : leVal (ys.drop (k + 1)) < 281474976710656 := by
        have h1 := leVal_lt (HX.out.isB.drop (k + 1))
        have h2 : 256 ^ (ys.drop (k + 1)).length ≤ 256 ^ 6 := Nat.pow_le_pow_right (by omega) (by rw [List.length_drop]; omega)
        omega
      generalize leVal (ys.drop (k + 1)) = v at *
      generalize ys.getD k 0 = x at *
      have hor := or64 v x (by omega) hx8
      clear hlen
      go_wp2
      go_round
      case rel => exact ⟨k, by omega, rfl, by rw [HS.out]; go_num⟩
      case measure => simp [intOf]
/-! ### A block of bytes that a call lays out -/
def BlkB (w : World) (g : Nat) (t : TypeId) (xs : List Nat) : Prop := BlkIs w g t (bvs xs).toArray
section
variable {w : World} {g : Nat} {t : TypeId} {xs : List Nat}
theorem BlkB.cell (h : BlkB w g t xs) {i : Nat} (hi : i < xs.length) : w.cell? ⟨g, i, none⟩ = some (.int .u8 (xs.getD i 0 : Nat)) := by
  rw [BlkIs.cell h i]
  simp [bvs, bv, List.getD, hi]
theorem BlkB.set (h : BlkB w g t xs) (i x : Nat) : BlkB (w.setCell ⟨g, i, none⟩ (.int .u8 (x : Int))) g t (xs.set i x) := by
  have := BlkIs.stored h i (.int .u8 (x : Int))
  unfold BlkB
  rw [show (bvs (xs.set i x)).toArray = (bvs xs).toArray.setIfInBounds i (.int .u8 (x : Int)) by simp [bvs, bv, List.map_set]]
  exact this
theorem BlkB.reads (h : BlkB w g t xs) (hB : IsB xs) {o n : Nat} (hn : o + n ≤ xs.length) : RB w (some ⟨g, o, none⟩) n ((xs.drop o).take n) := by
  refine ⟨by rw [List.length_take, List.length_drop]; omega, (hB.drop _).take _, fun _ => ⟨_, rfl, BlkIs.lt h, fun j x hj => ?_⟩⟩
  rw [add_lit, BlkIs.cell h]
  rw [List.getElem?_take] at hj
  split at hj
  · rw [List.getElem?_drop] at hj
    simp [bvs, bv, hj]
  · cases hj
end
theorem put_step {L : List Nat} {o v k : Nat} (h : o + k < L.length) : (splice L o (leN v k)).set (o + k) (v / 256 ^ k % 256) = splice L o (leN v (k + 1)) := by
  unfold splice
  rw [leN_length, leN_length, List.set_append_right _ _ (by rw [List.length_take]; omega), List.length_take, show o + k - min o L.length = k by omega, List.set_append_right _ _ (by rw [leN_length]; omega), leN_length, Nat.sub_self, leN_succ, List.append_assoc]
  congr 2
  rw [List.drop_eq_getElem_cons h]
  rfl
theorem splice_length' {L : List Nat} {o : Nat} {cs : List Nat} (h : o + cs.length ≤ L.length) : (splice L o cs).length = L.length := length_splice L o cs h
theorem splice_nil (L : List Nat) (o : Nat) : splice L o [] = L := by
  unfold splice
  simp
theorem shr_byte (v k : Nat) : ((v : Int) / 2 ^ (8 * k)) % 256 = ((v / 256 ^ k % 256 : Nat) : Int) := by
  have h : (2 : Int) ^ (8 * k) = ((256 ^ k : Nat) : Int) := by
    rw [Int.pow_mul]
    simp
  rw [h]
  omega
theorem put_any (g o m c n v : Nat) (t : TypeId) (L : List Nat) (w : World) (hL : BlkB w g t L) (hn : n ≤ m) (hfit : o + n ≤ L.length) (h8 : n ≤ 8) :
    Calls Tryd.prog 27 #[.slice (some ⟨g, o, none⟩) m c, .int .i64 v, .int .i64 n] w fun e w' => e = .returned (.tuple #[]) ∧ BlkB w' g t (splice L o (leN v n)) ∧ w.grownBy w' (some g) := by
  have HL0 := Lib.hid hL
  clear hL
  go_enter Tryd.func27, Tryd.ntmps27
  go_wp2
  go_loopw [8] (fun i wr => ∃ k : Nat, k ≤ n ∧ i = .int .i64 k ∧ Hid (BlkB wr g t (splice L o (leN v k))) ∧ Hid (w.grownBy wr (some g))) (fun i _ => n - (intOf i).toNat)
  case atStart => exact ⟨0, by omega, rfl, by show BlkB _ _ _ _; rw [leN_zero, splice_nil]; exact HL0.out, World.grownBy.refl _ _⟩
  case round =>
    clear HL0
    obtain ⟨k, hk, rfl, HL, HG⟩ := hrel
    by_cases hlt : k < n
    · have hc := HL.out.cell (i := o + k) (by rw [splice_length' (by rw [leN_length]; omega)]; omega)
      have hf := BlkIs.frozen HL.out (o + k)
      have hs := HL.out.set (o + k) (v / 256 ^ k % 256)
      rw [put_step (by omega)] at hs
      have HS := Lib.hid hs
      have HG2 := Lib.hid (grown_trans HG.out (grown_setCell wr (g := g) (o + k) (.int .u8 ((v / 256 ^ k % 256 : Nat) : Int))))
      have hsh := shr_byte v k
      clear hs
      generalize (splice L o (leN v k)).getD (o + k) 0 = z at *
      generalize v / 256 ^ k % 256 = y at *
      go_wp2
      go_roundw
      case rel => exact ⟨k + 1, by omega, by go_num, HS.out, HG2.out⟩
      case measure => simp [intOf]; omega
    · go_wp2
      go_end0
      exact ⟨rfl, by have h := HL.out; rwa [show k = n by omega] at h, HG.out⟩
end Go.Proofs.YtbjbpgbpefkbhaaDoor
