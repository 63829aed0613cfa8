/- crc.Seal: a text with its sum behind it, in new memory. -/
import Derived.Test.YtbjbpgbpefkbhaaDoorSum
import Derived.Test.YtbjbpgbpefkbhaaDoorShort
namespace Go.Proofs.YtbjbpgbpefkbhaaDoor
open Go.RowKit
set_option maxHeartbeats 400000 in
theorem seal_any (A : Option Addr) (n c : Nat) (xs : List Nat) (w : World) (hx : RB w A n xs) (hA : A = none → c = 0) (hn : n + 4 ≤ 140737488355328) :
    Calls Tryd.prog 28 #[.slice A n c] w fun e w' => ∃ v, e = .returned v ∧ OwnU w' w.heap.size v (sealN xs) ∧ Below w.heap.size w w' := by
  obtain ⟨i0, hi, hz0, hz1, hz2⟩ := info_parts info_byte
  have HX := Lib.hid hx
  have HA := Lib.hid hA
  have HF := Lib.hid (sum_any A n c xs w hx (by omega))
  have HI := Lib.hid (And.intro hi (And.intro hz0 (And.intro hz1 hz2)))
  have HS : Hid (sealN xs = xs ++ le4 (updN 0 xs)) := rfl
  have hs := updN_lt 0 xs
  clear hx hi hz0 hz1 hz2 hA
  generalize updN 0 xs = s at *
  go_enter Tryd.func28, Tryd.ntmps28
  go_wp2_with fail
  refine HF.out.mono ?_
  rintro e w1 ⟨rfl, hb⟩
  have HB := Lib.hid hb
  clear hb
  have hcs : #[Value.int IntKind.u8 (↑s % 256), Value.int IntKind.u8 (↑s / 256 % 256), Value.int IntKind.u8 (↑s / 65536 % 256), Value.int IntKind.u8 (↑s / 16777216)] = (bvs (le4 s)).toArray := by
    simp [bvs, bv, le4]
    omega
  have HC := Lib.hid hcs
  clear hcs
  have HN : Hid (xs.length = n) := HX.out.1
  go_wp2_with (first
    | (at_make; refine wpList_make_own w1 rfl _ _ _ rfl w.heap.size 5 i0 (.int .u8 0) 1 und_bytes HI.out.1 HI.out.2.1 HI.out.2.2.1 .i64 .i64 _ (n + 4) rfl rfl (by simp) (by rw [HI.out.2.2.2]; omega) (by unfold maxLen; omega) HB.out.size ?_; intro w2 hown2 hg2; have HO2 : Hid (OwnU w2 w.heap.size (.slice (some ⟨w1.heap.size, 0, none⟩) 0 (n + 4)) []) := ⟨hown2, IsB.nil⟩; have HB2 := Lib.hid (HB.out.grown hg2 HB.out.size (fun k hk => by cases hk)); clear hown2 hg2)
    | (at_builtin; refine appendRB und_bytes info_byte w2 rfl (.tmp 11) (.tmp 12) rfl w.heap.size _ [] HO2.out A n c xs (HX.out.keep HB2.out.size fun _ _ hp => HB2.out.cell hp) HA.out rfl rfl (by simp; omega) HB2.out.size ?_; intro v3 w3 hown3 hg3; have HO3 := Lib.hid hown3; have HB3 := Lib.hid (HB2.out.grown hg3 HB2.out.size HO2.out.ge); clear hown3 hg3)
    | (at_builtin; refine appendRB und_bytes info_byte (w3.alloc _) rfl (.tmp 14) (.tmp 26) rfl w.heap.size _ ([] ++ xs) (HO3.out.below ((Below.refl _ _).alloc (Nat.le_refl _) _)) _ _ _ (le4 s) (RB_new w3 5 _ _ (le4 s) (le4_isB s) HC.out) (fun h => by cases h) rfl rfl (by rw [List.nil_append, HN.out]; exact hn) (by have := HB3.out.size; simp; omega) ?_; intro v4 w4 hown4 hg4)
    | fail)
  go_ret
  refine ⟨_, rfl, by rw [HS.out]; exact hown4, ?_⟩
  exact ((HB3.out.alloc HB3.out.size _).grown hg4 (by have := HB3.out.size; simp; omega) HO3.out.ge)
end Go.Proofs.YtbjbpgbpefkbhaaDoor
