/- ledgerlaw5.place: a text is written over another one of its length, where that stands. -/
import Derived.Test.YtbjbpgbpefkbhaaDoorRoomy
import Derived.Test.YtbjbpgbpefkbhaaDoorApp
namespace Go.Proofs.YtbjbpgbpefkbhaaDoor
open Go.RowKit
theorem place_step {L ys : List Nat} {k : Nat} (h1 : k < ys.length) (h2 : ys.length ≤ L.length) : (ys.take k ++ L.drop k).set k (ys.getD k 0) = ys.take (k + 1) ++ L.drop (k + 1) := by
  rw [List.set_append_right _ _ (by rw [List.length_take]; omega), List.length_take, show k - min k ys.length = 0 by omega, take_succ_getD h1, List.append_assoc]
  congr 1
  rw [List.drop_eq_getElem_cons (show k < L.length by omega)]
  rfl
set_option maxHeartbeats 800000 in
theorem place_over (base : Nat) (A B : Option Addr) (n c N d : Nat) (L ys : List Nat) (w : World) (hown : OwnU w base (.slice A N c) L) (hN : L.length = N) (hnN : n ≤ N) (hy : RB w B n ys)
    (hap : ∀ ad bd, A = some ad → B = some bd → ad.block ≠ bd.block) (hn : N ≤ 140737488355328) :
    Calls Tryd.prog 16 #[.slice A n c, .slice B n d] w fun e w' => e = .returned (.tuple #[]) ∧ OwnU w' base (.slice A N c) (ys ++ L.drop n) ∧ w.grownBy w' (Value.slice A N c).ownBlock := by
  have HY := Lib.hid hy
  have HO0 := Lib.hid hown
  have HN := Lib.hid hN
  have HAP := Lib.hid hap
  clear hy hown hN hap
  go_enter Tryd.func16, Tryd.ntmps16
  go_wp2
  go_loopw [4] (fun i wr => ∃ k : Nat, k ≤ n ∧ i = .int .i64 k ∧ Hid (OwnU wr base (.slice A N c) (ys.take k ++ L.drop k)) ∧ Hid (w.grownBy wr (Value.slice A N c).ownBlock)) (fun i _ => n - (intOf i).toNat)
  case atStart => exact ⟨0, by omega, rfl, HO0.out, World.grownBy.refl _ _⟩
  case round =>
    obtain ⟨k, hk, rfl, HO, HG⟩ := hrel
    by_cases hlt : k < n
    · have hll : (ys.take k ++ L.drop k).length = N := by
        have h1 := HY.out.1
        have h2 := HN.out
        simp; omega
      obtain ⟨g, c', e', _, _, hfr, hcell⟩ := HO.out.shape (by omega)
      injection e' with e1 _ e3
      subst e1 e3
      obtain ⟨bd, rfl, hbb, hcb⟩ := HY.out.at_ hlt
      have hne := HAP.out _ _ rfl rfl
      have hcy : wr.cell? (bd.add k) = some (.int .u8 (ys.getD k 0 : Nat)) := by
        rw [← hcb]
        refine World.cell?_of_block ?_
        rw [block_add]
        exact HG.out.block _ hbb (fun e => hne (by injection e with e; exact e.symm))
      have hc := hcell k (by omega)
      have hf := hfr k
      have hy8 := HY.out.lt hlt
      have hset := HO.out
      unfold OwnU at hset
      rw [← hll] at hset
      have hset2 := hset.set k (ys.getD k 0) hy8
      rw [place_step (by rw [HY.out.1]; exact hlt) (by rw [HY.out.1, HN.out]; exact hnN), hll] at hset2
      have HS := Lib.hid hset2
      have HG2 := Lib.hid (grown_trans HG.out (grown_setCell wr (g := g) k (.int .u8 ((ys.getD k 0 : Nat) : Int))))
      generalize (ys.take k ++ L.drop k).getD k 0 = z at *
      clear hcell hfr hset hset2 hll hcb hne
      generalize ys.getD k 0 = y at *
      go_wp2
      go_roundw
      case rel => exact ⟨k + 1, by omega, by go_num, HS.out, HG2.out⟩
      case measure => simp [intOf]; omega
    · have HF : Hid (OwnU wr base (.slice A N c) (ys ++ L.drop n)) := by
        have h := HO.out
        rw [show k = n by omega, List.take_of_length_le (by rw [HY.out.1]; omega)] at h
        exact h
      go_wp2
      go_end0
      exact ⟨rfl, HF.out, HG.out⟩
end Go.Proofs.YtbjbpgbpefkbhaaDoor
