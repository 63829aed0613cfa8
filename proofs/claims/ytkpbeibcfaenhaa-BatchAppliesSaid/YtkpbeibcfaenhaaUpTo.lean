/- ledgerlaw3.plays at the kinds 1 to 3; ledgerlaw3.upTo. -/
import Derived.Test.YtkpbeibcfaenhaaKeysPlay
import Derived.Test.YtkpbeibcfaenhaaGb
namespace Go.Proofs.Ytkpbeibcfaenhaa
open Go.RowKit
/-- The list at P holds N steps. -/
structure OpN where
  kind : Int
  n : Int
  ds : List Nat
  es : List Nat
  rest : List Value
def OpN.cells (x : OpN) : List Value := opC x.kind x.n x.ds x.es x.rest
structure OpN.ok (x : OpN) : Prop where
  b1 : IsB x.ds
  l1 : x.ds.length = 32
  b2 : IsB x.es
  l2 : x.es.length = 32
  l3 : x.rest.length = 3
  one : ∀ v ∈ x.rest, v.oneCell' = true
def OpsAt (w : World) (P : Option Addr) (N : Nat) (X : Nat → OpN) : Prop :=
  N ≤ maxLen ∧ ∀ k, k < N → ∃ b o, P = some ⟨b, o, none⟩ ∧ b < w.heap.size ∧ w.rangeAt b (o + k * 69) (X k).cells ∧ (X k).ok
theorem OpsAt.below {w w' : World} {P : Option Addr} {N : Nat} {X : Nat → OpN} (h : OpsAt w P N X) (hb : Below w.heap.size w w') : OpsAt w' P N X := ⟨h.1, fun k hk => by
  obtain ⟨b, o, h1, h2, h3, h4⟩ := h.2 k hk
  exact ⟨b, o, h1, Nat.lt_of_lt_of_le h2 hb.size, range_below hb h2 h3, h4⟩⟩
theorem info_op : (Try.prog.info? 87).map (fun i => (i.zero, i.size)) = some (some (.agg (opC 0 0 (zs 32) (zs 32) [.slice none 0 0, .slice none 0 0, .slice none 0 0]).toArray), 69) := by kernel_rfl
theorem OpN.ones {x : OpN} (h : x.ok) : ∀ v ∈ x.cells, v.oneCell' = true := fun v hv => by
  simp only [OpN.cells, opC, bvs, List.mem_cons, List.mem_append, List.mem_map] at hv
  rcases hv with rfl | rfl | ⟨y, _, rfl⟩ | ⟨y, _, rfl⟩ | hv
  · rfl
  · rfl
  · rfl
  · rfl
  · exact h.one v hv
theorem OpN.length {x : OpN} (h : x.ok) : x.cells.length = 69 := opC_length _ _ h.l1 h.l2 h.l3
/-- What 'plays' is asked for: the step is as the document says. -/
def PlaysRet (x : OpN) (w : World) : Prop := Calls Try.prog 58 #[.agg x.cells.toArray] w fun e w' => e = .returned (.bool true) ∧ Below w.heap.size w w'
set_option maxRecDepth 100000 in
set_option maxHeartbeats 1600000 in
theorem plays_key (k : Nat) (hk : k = 1 ∨ k = 2 ∨ k = 3) (n : Int) (ds es : List Nat) (rest : List Value) (w : World) (hB : IsB ds) (hl : ds.length = 32) (hB2 : IsB es) (hl2 : es.length = 32) (h3 : rest.length = 3) :
    Calls Try.prog 58 #[.agg (opC k n ds es rest).toArray] w fun e w' => e = .returned (.bool true) ∧ Below w.heap.size w w' := by
  have HK : Hid (∀ W : World, Calls Try.prog 65 #[.agg (opC k n ds es rest).toArray] W fun e w' => e = .returned (.bool true) ∧ Below W.heap.size W w') := fun W => by
    rcases hk with rfl | rfl | rfl
    · exact keysplay_1 n ds es rest W hB hl hl2 h3
    · exact keysplay_2 n ds es rest W hB hl hB2 hl2 h3
    · exact keysplay_3 n ds es rest W hB hl hB2 hl2 h3
  have hsz : (Try.prog.info? 87).map (·.size) = some (opC k n ds es rest).length := by rw [size_op, opC_length _ _ hl hl2 h3]
  clear hB hl hB2 hl2 h3
  go_enter Try.func58, Try.ntmps58
  rcases hk with rfl | rfl | rfl
  all_goals
    go_wp2_with (first
      | ((with_reducible refine stopAt (o := ⟨some 1, _, _, _, _, _⟩) ?_); refine boxNew (o := ⟨some 1, _, _, _, _, _⟩) (by rfl) 87 (.tmp 0) rfl _ rfl ?_; intro w1 HA1 HW1 HS1; have b0 := op_kind HA1.out)
      | ((with_reducible refine stopAt (o := ⟨some 9, _, _, _, _, _⟩) ?_); refine loadRange (o := ⟨some 9, _, _, _, _, _⟩) (by rfl) 87 (.tmp 1) rfl w.heap.size 0 _ rfl (BlkIs.range HA1.out) row_op hsz ?_))
    refine (HK.out _).mono ?_
    rintro e w2 ⟨rfl, hb⟩
    have HW2 := Lib.hid (HW1.out.trans (hb.mono HW1.out.size))
    clear hb
    go_wp2_with fail
    go_ret
    exact ⟨rfl, HW2.out⟩
set_option maxRecDepth 100000 in
set_option maxHeartbeats 1600000 in
theorem upto_any (lo hi : Int) (P : Option Addr) (N c : Nat) (X : Nat → OpN) (w : World) (hx : OpsAt w P N X) (hp : ∀ k, k < N → lo ≤ (X k).kind → (X k).kind ≤ hi → ∀ W, Below w.heap.size w W → PlaysRet (X k) W) :
    Calls Try.prog 42 #[.slice P N c, .int .i64 lo, .int .i64 hi] w fun e w' => e = .returned (.bool true) ∧ Below w.heap.size w w' := by
  have HX := Lib.hid hx
  have HP := Lib.hid hp
  have hN := hx.1
  unfold maxLen at hN
  clear hx hp
  go_enter Try.func42, Try.ntmps42
  go_wp2_with fail
  go_loopw [7] (fun i wr => ∃ k : Nat, k ≤ N ∧ i = .int .i64 k ∧ Hid (Below w.heap.size w wr)) (fun i _ => N - (intOf i).toNat)
  case atStart => exact ⟨0, by omega, rfl, Below.refl _ _⟩
  case round =>
    obtain ⟨k, hk, rfl, HB⟩ := hrel
    obtain ⟨w1, rfl⟩ : ∃ w1, w1 = wr := ⟨_, rfl⟩
    by_cases hlt : k < N
    · obtain ⟨b, o, rfl, hb, hr, hok⟩ := (HX.out.below HB.out).2 k hlt
      have HPk := Lib.hid (HP.out k hlt)
      have HR := Lib.hid hr
      have hlt' : (k : Int) < N := by omega
      have hsz : (Try.prog.info? 87).map (·.size) = some (X k).cells.length := by rw [size_op, (OpN.length hok)]
      have HOK := Lib.hid hok
      have HL69 : Hid ((opC 0 0 (zs 32) (zs 32) [.slice none 0 0, .slice none 0 0, .slice none 0 0]).length = (X k).cells.length) := by show _ = _; rw [(OpN.length hok)]; rfl
      obtain ⟨kd, hkd⟩ : ∃ kd, kd = (X k).kind := ⟨_, rfl⟩
      clear hr hok
      by_cases hin : lo ≤ kd ∧ kd ≤ hi
      · obtain ⟨hlo, hhi⟩ := hin
        have hlo2 : decide (lo ≤ kd) = true := decide_eq_true hlo
        have hhi2 : decide (kd ≤ hi) = true := decide_eq_true hhi
        go_wp2_with (first
          | ((with_reducible refine stopAt (o := ⟨some 19, _, _, _, _, _⟩) ?_); refine loadRange (o := ⟨some 19, _, _, _, _, _⟩) (by rfl) 87 (.tmp 18) rfl b (o + k * 69) _ rfl HR.out row_op hsz ?_)
          | ((with_reducible refine stopAt (o := ⟨some 8, _, _, _, _, _⟩) ?_); refine allocNew (o := ⟨some 8, _, _, _, _, _⟩) (by rfl) 87 rfl _ _ info_op ?_; intro w2 HA2 HW2 HS2)
          | ((with_reducible refine stopAt (o := ⟨none, .store _ (.tmp 8) _, _, _, _, _⟩) ?_); refine storeV (o := ⟨none, _, _, _, _, _⟩) (by rfl) 87 (.tmp 8) (.tmp 19) rfl w1.heap.size _ _ 87 rfl rfl HA2.out hsz HL69.out (OpN.ones HOK.out) ?_; intro w3 HA3 HG3 HS3; have b0 := op_kind HA3.out; rw [← hkd] at b0)
          | ((with_reducible refine stopAt (o := ⟨some 30, _, _, _, _, _⟩) ?_); refine loadRange (o := ⟨some 30, _, _, _, _, _⟩) (by rfl) 87 (.tmp 8) rfl w1.heap.size 0 _ rfl (BlkIs.range HA3.out) row_op hsz ?_))
        have HB3 : Hid (Below w.heap.size w w3) := (HB.out.trans (HW2.out.mono HB.out.size)).grown HG3.out (Nat.le_trans HB.out.size HW2.out.size) (fun k hk => by injection hk with hk; rw [← hk]; exact HB.out.size)
        refine (HPk.out (hkd ▸ hlo) (hkd ▸ hhi) w3 HB3.out).mono ?_
        rintro e w4 ⟨rfl, hb⟩
        have HB4 := Lib.hid (HB3.out.trans (hb.mono HB3.out.size))
        clear hb b0 HA2 HA3 HG3 HS2 HS3
        go_wp2_with fail
        go_roundw
        case rel => exact ⟨k + 1, by omega, by go_num, HB4.out⟩
        case measure => simp [intOf]; omega
      · by_cases hlo : lo ≤ kd
        · have hhi : ¬ kd ≤ hi := fun h => hin ⟨hlo, h⟩
          have hlo2 : decide (lo ≤ kd) = true := decide_eq_true hlo
          have hhi2 : decide (kd ≤ hi) = false := decide_eq_false hhi
          go_wp2_with (first
            | ((with_reducible refine stopAt (o := ⟨some 19, _, _, _, _, _⟩) ?_); refine loadRange (o := ⟨some 19, _, _, _, _, _⟩) (by rfl) 87 (.tmp 18) rfl b (o + k * 69) _ rfl HR.out row_op hsz ?_)
            | ((with_reducible refine stopAt (o := ⟨some 8, _, _, _, _, _⟩) ?_); refine allocNew (o := ⟨some 8, _, _, _, _, _⟩) (by rfl) 87 rfl _ _ info_op ?_; intro w2 HA2 HW2 HS2)
            | ((with_reducible refine stopAt (o := ⟨none, .store _ (.tmp 8) _, _, _, _, _⟩) ?_); refine storeV (o := ⟨none, _, _, _, _, _⟩) (by rfl) 87 (.tmp 8) (.tmp 19) rfl w1.heap.size _ _ 87 rfl rfl HA2.out hsz HL69.out (OpN.ones HOK.out) ?_; intro w3 HA3 HG3 HS3; have b0 := op_kind HA3.out; rw [← hkd] at b0))
          have HB3 : Hid (Below w.heap.size w w3) := (HB.out.trans (HW2.out.mono HB.out.size)).grown HG3.out (Nat.le_trans HB.out.size HW2.out.size) (fun k hk => by injection hk with hk; rw [← hk]; exact HB.out.size)
          go_roundw
          case rel => exact ⟨k + 1, by omega, by go_num, HB3.out⟩
          case measure => simp [intOf]; omega
        · have hlo2 : decide (lo ≤ kd) = false := decide_eq_false hlo
          go_wp2_with (first
            | ((with_reducible refine stopAt (o := ⟨some 19, _, _, _, _, _⟩) ?_); refine loadRange (o := ⟨some 19, _, _, _, _, _⟩) (by rfl) 87 (.tmp 18) rfl b (o + k * 69) _ rfl HR.out row_op hsz ?_)
            | ((with_reducible refine stopAt (o := ⟨some 8, _, _, _, _, _⟩) ?_); refine allocNew (o := ⟨some 8, _, _, _, _, _⟩) (by rfl) 87 rfl _ _ info_op ?_; intro w2 HA2 HW2 HS2)
            | ((with_reducible refine stopAt (o := ⟨none, .store _ (.tmp 8) _, _, _, _, _⟩) ?_); refine storeV (o := ⟨none, _, _, _, _, _⟩) (by rfl) 87 (.tmp 8) (.tmp 19) rfl w1.heap.size _ _ 87 rfl rfl HA2.out hsz HL69.out (OpN.ones HOK.out) ?_; intro w3 HA3 HG3 HS3; have b0 := op_kind HA3.out; rw [← hkd] at b0))
          have HB3 : Hid (Below w.heap.size w w3) := (HB.out.trans (HW2.out.mono HB.out.size)).grown HG3.out (Nat.le_trans HB.out.size HW2.out.size) (fun k hk => by injection hk with hk; rw [← hk]; exact HB.out.size)
          go_roundw
          case rel => exact ⟨k + 1, by omega, by go_num, HB3.out⟩
          case measure => simp [intOf]; omega
    · have hnlt : ¬ (k : Int) < N := by omega
      go_wp2_with fail
      go_ret
      exact ⟨rfl, HB.out⟩
end Go.Proofs.Ytkpbeibcfaenhaa
