/- batch.Build. -/
import Derived.Test.YtkpbeibcfaenhaaHeld
import Derived.Test.YtkpbeibcfaenhaaRepeated
namespace Go.Proofs.Ytkpbeibcfaenhaa
open Go.RowKit
def BuildPost (X : Nat → Chg) (N : Nat) (w : World) (e : Ending) (w' : World) : Prop :=
  ∃ v, e = .returned (.tuple #[v, .int .i64 (buildE X N : Nat)]) ∧ Below w.heap.size w w' ∧ (buildE X N = 0 → OwnU w' w.heap.size v (layN X N)) ∧ (buildE X N ≠ 0 → v = .slice none 0 0)
theorem own_two {w : World} (a b : Nat) (ha : a < 256) (hb : b < 256) : OwnU (w.alloc (.cells #[.int .u8 (a : Int), .int .u8 (b : Int)] 5)) w.heap.size (.slice (some ⟨w.heap.size, 0, none⟩) 2 2) [a, b] :=
  ⟨⟨rfl, .inr ⟨w.heap.size, 2, #[.int .u8 (a : Int), .int .u8 (b : Int)], rfl, Nat.le_refl _, heap_alloc_new w _, Nat.le_refl _, by simp [maxLen], rfl, rfl⟩⟩, fun x hx => by
    simp only [List.mem_cons, List.not_mem_nil, or_false] at hx
    rcases hx with rfl | rfl <;> assumption⟩
/-- In a round: the bytes so far, and the change in its own block. -/
structure BIt (w0 : World) (g : Nat) (x : Chg) (A : Option Addr) (C : Nat) (v : Value) (xs : List Nat) (w : World) : Prop where
  below : Below w0.heap.size w0 w
  own : OwnU w w0.heap.size v xs
  blk : BlkIs w g 45 (chC x A C).toArray
  ne : v.ownBlock ≠ some g
section
variable {w0 w w' : World} {g : Nat} {x : Chg} {A : Option Addr} {C : Nat} {v v' : Value} {xs ys : List Nat}
theorem BIt.step (h : BIt w0 g x A C v xs w) (ho : OwnU w' w0.heap.size v' ys) (hg : w.grownBy w' v.ownBlock) (hl : Lies w v v') : BIt w0 g x A C v' ys w' :=
  { below := h.below.grown hg h.below.size h.own.ge
    own := ho
    blk := BlkIs.grown h.blk hg (fun e => h.ne e.symm)
    ne := fun e => by
      rcases hl g e with h1 | h1
      · exact h.ne h1
      · have := BlkIs.lt h.blk
        omega }
theorem BIt.later (h : BIt w0 g x A C v xs w) (hb : Below w.heap.size w w') : BIt w0 g x A C v xs w' :=
  { h with below := h.below.trans (hb.mono h.below.size), own := h.own.below hb, blk := BlkIs.below h.blk hb }
theorem BIt.key (h : BIt w0 g x A C v xs w) (hk : IsB x.key ∧ x.key.length = 32) : RB w (some ⟨g, 0, none⟩) 32 x.key := by
  refine ⟨hk.2, hk.1, fun _ => ⟨_, rfl, BlkIs.lt h.blk, fun j y hj => ?_⟩⟩
  have h1 := ch_key (BlkIs.range h.blk) j (.int .u8 (y : Int)) (by simp [bvs, hj, bv])
  rw [add_lit]
  exact h1
theorem BIt.begin_ (hb : Below w0.heap.size w0 w) (ho : OwnU w w0.heap.size v xs) {w2 w3 : World} {cs : Array Value} (h2 : Below w.heap.size w w2) (h3 : w2.grownBy w3 (some w.heap.size)) (hc : BlkIs w3 w.heap.size 45 (chC x A C).toArray) (_ : BlkIs w2 w.heap.size 45 cs) : BIt w0 w.heap.size x A C v xs w3 :=
  { below := (hb.trans (h2.mono hb.size)).grown h3 (Nat.le_trans hb.size h2.size) (fun k hk => by injection hk with hk; rw [← hk]; exact hb.size)
    own := (ho.below h2).kept h3 (by
      rcases hv : v.ownBlock with _ | k
      · exact .inl rfl
      · refine .inr fun e => ?_
        injection e with e
        have := (ho.lt k hv).2
        omega)
    blk := hc
    ne := fun e => by
      have := (ho.lt _ e).2
      omega }
end
def layP (X : Nat → Chg) (N k : Nat) : List Nat := N % 256 :: N / 256 % 256 :: layF X k
theorem layP_next (X : Nat → Chg) (N k : Nat) : layP X N (k + 1) = layP X N k ++ chB (X k) := rfl
set_option maxRecDepth 100000 in
set_option maxHeartbeats 4000000 in
theorem build_any (A : Option Addr) (N c : Nat) (X : Nat → Chg) (w : World) (hx : ChsAt w A N X) :
    Calls Try.prog 21 #[.slice A N c] w (BuildPost X N w) := by
  have HX := Lib.hid hx
  have HH := Lib.hid (held_any A N c 64 X w hx (by omega))
  clear hx
  go_enter Try.func21, Try.ntmps21
  go_wp2_with fail
  refine HH.out.mono ?_
  rintro e w1 ⟨rfl, hb⟩
  have HB1 := Lib.hid hb
  have HX1 := Lib.hid (HX.out.below hb)
  clear hb HH
  by_cases h0 : heldN X N 64 = 0
  · have hN := (heldN_le h0).1
    have HLO := Lib.hid (heldN_le h0).2
    rw [h0]
    go_wp2_with fail
    refine (repeated_any A N c X w1 HX1.out).mono ?_
    rintro e w2 ⟨rfl, q, hq⟩
    have HB2 : Hid (Below w.heap.size w w2) := by rw [hq]; exact drewN_below HB1.out q
    clear hq HB1 HX1
    by_cases hr : 0 ≤ repN X N
    · have HE : Hid (buildE X N = 33) := by show _ = _; unfold buildE; rw [if_pos h0, if_pos hr]
      generalize repN X N = z at *
      go_wp2_with fail
      go_ret2
      exact ⟨_, by rw [HE.out]; rfl, HB2.out, (fun h => by rw [HE.out] at h; cases h), fun _ => rfl⟩
    · have HE : Hid (buildE X N = 0) := by show _ = _; unfold buildE; rw [if_pos h0, if_neg hr]
      generalize repN X N = z at *
      go_wp2_with fail
      have HO3 : Hid (OwnU (w2.alloc (.cells #[.int .u8 (N : Int), .int .u8 ((N : Int) / 256)] 5)) w.heap.size (.slice (some ⟨w2.heap.size, 0, none⟩) 2 2) (layP X N 0)) := by
        show OwnU _ _ _ _
        have h1 := (own_two (w := w2) N (N / 256) (by omega) (by omega)).mono (base' := w.heap.size) HB2.out.size
        rw [show ((N / 256 : Nat) : Int) = (N : Int) / 256 by simp] at h1
        rwa [show [N, N / 256] = layP X N 0 by unfold layP layF; rw [Nat.mod_eq_of_lt (by omega), Nat.mod_eq_of_lt (a := N / 256) (by omega)]] at h1
      have HB3 : Hid (Below w.heap.size w (w2.alloc (.cells #[.int .u8 (N : Int), .int .u8 ((N : Int) / 256)] 5))) := HB2.out.alloc HB2.out.size _
      generalize w2.alloc (.cells #[.int .u8 (N : Int), .int .u8 ((N : Int) / 256)] 5) = w4 at *
      have HKL : Hid (∀ i, i < N → (X i).key.length = 32) := fun i hi => by
        obtain ⟨_, _, _, _, _, _, _, _, h, _⟩ := HX.out.2 i hi
        exact h
      have HLL : Hid (∀ k, k ≤ N → (layP X N k).length ≤ 20000) := fun k hk => by
        have h1 := layF_length (X := X) (n := k) (fun i hi => HKL.out i (by omega)) (by
          cases h : anyLong X k with
          | false => rfl
          | true =>
            have h2 := HLO.out
            have : ∀ n, k ≤ n → anyLong X n = true := fun n hn => by
              induction n with
              | zero => rw [show k = 0 by omega] at h; exact h
              | succ n ih =>
                by_cases e : k = n + 1
                · rw [← e]; exact h
                · rw [anyLong, ih (by omega), Bool.true_or]
            rw [this N hk] at h2
            cases h2)
        unfold layP
        simp only [List.length_cons]
        have : k * 163 ≤ 64 * 163 := Nat.mul_le_mul_right _ (by omega)
        omega
      clear HB2
      go_loopw [5, 26] (fun u i wr => ∃ k : Nat, k ≤ N ∧ i = .int .i64 k ∧ Hid (OwnU wr w.heap.size u (layP X N k)) ∧ Hid (Below w.heap.size w wr)) (fun _ i _ => N - (intOf i).toNat)
      case atStart => exact ⟨0, by omega, rfl, HO3.out, HB3.out⟩
      case round =>
        clear HO3
        obtain ⟨k, hk, rfl, HO, HB⟩ := hrel
        obtain ⟨w1, rfl⟩ : ∃ w1, w1 = wr := ⟨_, rfl⟩
        by_cases hlt : k < N
        · obtain ⟨b, o, Av, Cv, rfl, hb, hr, hkB, hkl, hvr, hvC, hCm, hnil⟩ := HX.out.2 k hlt
          have hlt' : (k : Int) < N := by omega
          have HR := Lib.hid (range_below HB.out hb hr)
          have hsz : (Try.prog.info? 45).map (·.size) = some (chC (X k) Av Cv).length := by rw [size_chg, chC_length hkl]
          have HL34 : Hid (((zarr 32) ++ #[(.bool false : Value), .slice none 0 0]).toList.length = (chC (X k) Av Cv).length) := by show _ = _; rw [chC_length hkl, zero_chg]
          have HK := Lib.hid (show IsB (X k).key ∧ (X k).key.length = 32 from ⟨hkB, hkl⟩)
          have HV := Lib.hid hvr
          have HN := Lib.hid hnil
          have hll := HLL.out k hk
          have HNX : Hid (layP X N (k + 1) = layP X N k ++ chB (X k)) := layP_next X N k
          have hlong : Hid (long (X k) = false) := anyLong_not HLO.out hlt
          clear hr hkB hkl hvr hvC hCm hnil
          generalize X k = x at *
          obtain ⟨ky, dl, vl⟩ := x
          have hk32 : ky.length = 32 := HK.out.2
          cases dl
          · have hv128 : vl.length ≤ 128 := by
              have := hlong.out
              unfold long at this
              simpa using this
            have HOW : Hid (∀ W : World, OwnU (W.alloc (.cells #[.int .u8 (vl.length : Int), .int .u8 ((vl.length : Int) / 256)] 5)) W.heap.size (.slice (some ⟨W.heap.size, 0, none⟩) 2 2) [vl.length, vl.length / 256]) := fun W => by
              have h := own_two (w := W) vl.length (vl.length / 256) (by omega) (by omega)
              rwa [show ((vl.length / 256 : Nat) : Int) = (vl.length : Int) / 256 by simp] at h
            go_wp2_with (first
            | ((with_reducible refine stopAt (o := ⟨some 29, _, _, _, _, _⟩) ?_); refine loadRange (o := ⟨some 29, _, _, _, _, _⟩) (by rfl) 45 (.tmp 28) rfl b (o + k * 34) _ rfl HR.out row_chg hsz ?_)
            | ((with_reducible refine stopAt (o := ⟨some 7, _, _, _, _, _⟩) ?_); refine allocNew (o := ⟨some 7, _, _, _, _, _⟩) (by rfl) 45 rfl _ _ info_chg ?_; intro w2 HA2 HW2 HS2)
            | ((with_reducible refine stopAt (o := ⟨none, .store _ (.tmp 7) _, _, _, _, _⟩) ?_); refine storeV (o := ⟨none, _, _, _, _, _⟩) (by rfl) 45 (.tmp 7) (.tmp 29) rfl w1.heap.size _ _ 45 rfl rfl HA2.out hsz HL34.out chC_one ?_; intro w3 HA3 HG3 HS3; have HI3 := Lib.hid (BIt.begin_ HB.out HO.out HW2.out HG3.out HA3.out HA2.out); have b1 : w3.cell? ⟨w1.heap.size, 32, none⟩ = some (.bool false) := (by have h := ch_del (BlkIs.range HI3.out.blk) HK.out.2; rwa [Nat.zero_add] at h); clear HA2 HW2 HS2 HA3 HG3 HS3)
            | ((with_reducible refine stopAt (o := ⟨some 41, _, _, _, _, _⟩) ?_); refine append1At und_bytes info_byte w3 rfl (.tmp 39) (.tmp 40) rfl w.heap.size u5 _ HI3.out.own 1 (by omega) rfl rfl (by (try simp only [List.length_append, List.length_cons, List.length_nil]); omega) HI3.out.below.size ?_; intro v4 y4 ho hg hl; have HI4 := Lib.hid (HI3.out.step ho hg hl); have b4v : y4.cell? ⟨w1.heap.size, 33, none⟩ = some (.slice Av vl.length Cv) := (by have h := ch_val (BlkIs.range HI4.out.blk) HK.out.2; rwa [Nat.zero_add] at h); clear HI3 ho hg hl)
            | ((with_reducible refine stopAt (o := ⟨some 45, _, _, _, _, _⟩) ?_); refine appendRBAt und_bytes info_byte y4 rfl (.tmp 42) (.tmp 44) rfl w.heap.size v4 _ HI4.out.own (some ⟨w1.heap.size, 0, none⟩) 32 32 ky (HI4.out.key HK.out) (fun e => by cases e) rfl rfl (by (try simp only [List.length_append, List.length_cons, List.length_nil]); omega) HI4.out.below.size ?_; intro v5 y5 ho hg hl; have HI5 := Lib.hid (HI4.out.step ho hg hl); have b5v : y5.cell? ⟨w1.heap.size, 33, none⟩ = some (.slice Av vl.length Cv) := (by have h := ch_val (BlkIs.range HI5.out.blk) HK.out.2; rwa [Nat.zero_add] at h); clear HI4 ho hg hl)
            | ((with_reducible refine stopAt (o := ⟨some 57, _, _, _, _, _⟩) ?_); have HI5a : BIt w w1.heap.size ⟨ky, false, vl⟩ Av Cv v5 (layP X N k ++ [1] ++ ky) (y5.alloc (.cells #[.int .u8 (vl.length : Int), .int .u8 ((vl.length : Int) / 256)] 5)) := HI5.out.later ((Below.refl _ _).alloc (Nat.le_refl _) _); refine appendRBAt und_bytes info_byte (y5.alloc (.cells #[.int .u8 (vl.length : Int), .int .u8 ((vl.length : Int) / 256)] 5)) rfl (.tmp 46) (.tmp 56) rfl w.heap.size v5 _ HI5a.own (some ⟨y5.heap.size, 0, none⟩) 2 2 [vl.length, vl.length / 256] (HOW.out y5).reads (fun e => by cases e) rfl rfl (by (try simp only [List.length_append, List.length_cons, List.length_nil]); omega) HI5a.below.size ?_; intro v6 y6 ho hg hl; have HI6 := Lib.hid (HI5a.step ho hg hl); have b6v : y6.cell? ⟨w1.heap.size, 33, none⟩ = some (.slice Av vl.length Cv) := (by have h := ch_val (BlkIs.range HI6.out.blk) HK.out.2; rwa [Nat.zero_add] at h); clear HI5 HI5a ho hg hl)
            | ((with_reducible refine stopAt (o := ⟨some 61, _, _, _, _, _⟩) ?_); refine appendRBAt und_bytes info_byte y6 rfl (.tmp 58) (.tmp 60) rfl w.heap.size v6 _ HI6.out.own Av vl.length Cv vl (HV.out.below HI6.out.below) HN.out rfl rfl (by (try simp only [List.length_append, List.length_cons, List.length_nil]); omega) HI6.out.below.size ?_; intro v7 y7 ho hg hl; have HI7 := Lib.hid (HI6.out.step ho hg hl); clear HI6 ho hg hl)
            )
            go_roundw
            case rel => exact ⟨k + 1, by omega, by go_num, by
              show OwnU _ _ _ _
              rw [HNX.out]
              have h := HI7.out.own
              rwa [show layP X N k ++ [1] ++ ky ++ [vl.length, vl.length / 256] ++ vl = layP X N k ++ chB ⟨ky, false, vl⟩ by
                unfold chB
                rw [if_neg (by simp)]
                simp only
                rw [Nat.mod_eq_of_lt (a := vl.length) (by omega), Nat.mod_eq_of_lt (a := vl.length / 256) (by omega)]
                simp] at h, HI7.out.below⟩
            case measure => simp [intOf]; omega
          · go_wp2_with (first
            | ((with_reducible refine stopAt (o := ⟨some 29, _, _, _, _, _⟩) ?_); refine loadRange (o := ⟨some 29, _, _, _, _, _⟩) (by rfl) 45 (.tmp 28) rfl b (o + k * 34) _ rfl HR.out row_chg hsz ?_)
            | ((with_reducible refine stopAt (o := ⟨some 7, _, _, _, _, _⟩) ?_); refine allocNew (o := ⟨some 7, _, _, _, _, _⟩) (by rfl) 45 rfl _ _ info_chg ?_; intro w2 HA2 HW2 HS2)
            | ((with_reducible refine stopAt (o := ⟨none, .store _ (.tmp 7) _, _, _, _, _⟩) ?_); refine storeV (o := ⟨none, _, _, _, _, _⟩) (by rfl) 45 (.tmp 7) (.tmp 29) rfl w1.heap.size _ _ 45 rfl rfl HA2.out hsz HL34.out chC_one ?_; intro w3 HA3 HG3 HS3; have HI3 := Lib.hid (BIt.begin_ HB.out HO.out HW2.out HG3.out HA3.out HA2.out); have b1 : w3.cell? ⟨w1.heap.size, 32, none⟩ = some (.bool true) := (by have h := ch_del (BlkIs.range HI3.out.blk) HK.out.2; rwa [Nat.zero_add] at h); clear HA2 HW2 HS2 HA3 HG3 HS3)
            | ((with_reducible refine stopAt (o := ⟨some 34, _, _, _, _, _⟩) ?_); refine append1At und_bytes info_byte w3 rfl (.tmp 32) (.tmp 33) rfl w.heap.size u5 _ HI3.out.own 2 (by omega) rfl rfl (by (try simp only [List.length_append, List.length_cons, List.length_nil]); omega) HI3.out.below.size ?_; intro v4 y4 ho hg hl; have HI4 := Lib.hid (HI3.out.step ho hg hl); have b4v : y4.cell? ⟨w1.heap.size, 33, none⟩ = some (.slice Av vl.length Cv) := (by have h := ch_val (BlkIs.range HI4.out.blk) HK.out.2; rwa [Nat.zero_add] at h); clear HI3 ho hg hl)
            | ((with_reducible refine stopAt (o := ⟨some 38, _, _, _, _, _⟩) ?_); refine appendRBAt und_bytes info_byte y4 rfl (.tmp 35) (.tmp 37) rfl w.heap.size v4 _ HI4.out.own (some ⟨w1.heap.size, 0, none⟩) 32 32 ky (HI4.out.key HK.out) (fun e => by cases e) rfl rfl (by (try simp only [List.length_append, List.length_cons, List.length_nil]); omega) HI4.out.below.size ?_; intro v5 y5 ho hg hl; have HI5 := Lib.hid (HI4.out.step ho hg hl); have b5v : y5.cell? ⟨w1.heap.size, 33, none⟩ = some (.slice Av vl.length Cv) := (by have h := ch_val (BlkIs.range HI5.out.blk) HK.out.2; rwa [Nat.zero_add] at h); clear HI4 ho hg hl)
            )
            go_roundw
            case rel => exact ⟨k + 1, by omega, by go_num, by
              show OwnU _ _ _ _
              rw [HNX.out]
              have h := HI5.out.own
              rwa [show layP X N k ++ [2] ++ ky = layP X N k ++ chB ⟨ky, true, vl⟩ by
                unfold chB
                rw [if_pos rfl]
                simp] at h, HI5.out.below⟩
            case measure => simp [intOf]; omega
        · have hnlt : ¬ (k : Int) < N := by omega
          obtain rfl : k = N := by omega
          go_wp2_with fail
          go_ret2
          exact ⟨_, by rw [HE.out]; rfl, HB.out, fun _ => HO.out, fun h => absurd HE.out h⟩
  · have HE : Hid (buildE X N = heldN X N 64) := by show _ = _; unfold buildE; rw [if_neg h0]
    have h1 : ((heldN X N 64 : Nat) : Int) ≠ 0 := by omega
    have h2 : (((heldN X N 64 : Nat) : Int) != 0) = true := by rw [bne_iff_ne]; exact h1
    generalize heldN X N 64 = z at *
    go_wp2_with fail
    go_ret2
    exact ⟨_, by rw [HE.out]; rfl, HB1.out, (fun h => by rw [HE.out] at h; exact absurd h h0), fun _ => rfl⟩
end Go.Proofs.Ytkpbeibcfaenhaa
