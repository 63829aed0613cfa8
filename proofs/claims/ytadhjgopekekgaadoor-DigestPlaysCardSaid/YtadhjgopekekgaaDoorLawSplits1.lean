/- ledgerlaw1.DigestSplits: the walk. -/
import Derived.Test.YtadhjgopekekgaaDoorLawNames
import Derived.Test.YtadhjgopekekgaaDoorRoomF
namespace Go.Proofs.YtadhjgopekekgaaDoor
open Go.RowKit
theorem catL_lt {X : Nat → List Nat} {N k : Nat} {r : Int} (h : (sumL X N : Int) + r ≤ 2147483647) (h0 : 0 ≤ r) (hk : k ≤ N) : (catL X k).length ≤ 2147483647 := by
  have h1 := catL_length X k
  have h2 := sumL_mono X hk
  omega
theorem own_ne {e : TypeId} {w : World} {base g : Nat} {v : Value} {xs : List Nat} (h : Own e w base v xs) (hg : g < base) : v.ownBlock = none ∨ v.ownBlock ≠ some g := by
  rcases hv : v.ownBlock with _ | k
  · exact .inl rfl
  · refine .inr fun e => ?_
    injection e with e
    have := (h.lt k hv).1
    omega
theorem own_ne' {e : TypeId} {w : World} {base g : Nat} {v : Value} {xs : List Nat} (h : Own e w base v xs) (hg : g < base) : some g ≠ v.ownBlock := fun e => by
  rcases own_ne h hg with h | h
  · rw [h] at e
    cases e
  · exact h e.symm
set_option maxRecDepth 100000 in
set_option maxHeartbeats 4000000 in
theorem splits_walk (P : Option Addr) (N c : Nat) (X : Nat → List Nat) (ask : Int) (w : World) (hx : RBf w P N X) (ht : Tabs w) :
    Calls Tryd.prog 6 #[.slice P N c, .int .i64 ask] w fun e w' => e = .returned (.bool true) ∧ Below w.heap.size w w' := by
  obtain ⟨D0, H0⟩ : ∃ D, Hid (∀ _ : Nat, shaN [] = D ∧ wrN s0 = D) := ⟨shaN [], fun _ => ⟨rfl, known0.symm⟩⟩
  have he : Hid (∀ (xs : List Nat) (w : World), (Op.equalIn 10000 23 (.agg (bvs (shaN xs)).toArray) (.agg (bvs (shaN xs)).toArray)).run Tryd.prog w = .ok true w) := fun xs w => dig_same w (shaN_isB xs) (shaN_length xs)
  have HX := Lib.hid hx
  have HT := Lib.hid ht
  have hN := hx.1
  unfold maxLen at hN
  clear hx ht
  go_enter Tryd.func6, Tryd.ntmps6
  go_wp2_with fail
  refine (room_any 2147483647 P N c X w (by omega) (by omega) HX.out).mono ?_
  rintro e w0 ⟨r, rfl, rfl, hr0, hr1, hr2⟩
  obtain ⟨w, rfl⟩ : ∃ w, w = w0 := ⟨_, rfl⟩
  by_cases hr : 0 ≤ r
  · have HS : Hid (∀ k, k ≤ N → (catL X k).length ≤ 2147483647) := fun k hk => catL_lt (hr2 hr) hr hk
    clear hr2
    go_wp2_with fail
    refine (new_any _ HT.out.1).mono ?_
    rintro e w1 ⟨g, rfl, hg, hh, hb⟩
    have HH1 := Lib.hid hh
    have HB1 := Lib.hid hb
    have hgl := hh.lt
    clear hh hb
    have he0 : ∀ w, (Op.equalIn 10000 23 (.agg (bvs D0).toArray) (.agg (bvs D0).toArray)).run Tryd.prog w = .ok true w := fun w => by rw [← (H0.out 0).1]; exact he.out [] w
    have HSd : Hid (∀ (A : Option Addr) (n c : Nat) (xs : List Nat) (W : World), RB W A n xs → n ≤ c → n ≤ 2147483647 → Below w.heap.size w W → Calls Tryd.prog 8 #[.slice A n c] W fun e w' => e = .returned (.agg (bvs (shaN xs)).toArray) ∧ Below W.heap.size W w') :=
      fun A n c xs W h1 h2 h3 hb => dsum_any A n c xs W h1 h2 (by omega) (HT.out.below hb)
    have HSh : Hid (∀ (xs : List Nat) (W : World), HashIs W g xs → Below w.heap.size w W → Calls Tryd.prog 17 #[.pointer (some ⟨g, 0, none⟩)] W fun e w' => e = .returned (.agg (bvs (shaN xs)).toArray) ∧ Below W.heap.size W w') :=
      fun xs W h1 hb => hsum_any g xs W h1 (HT.out.below hb).2
    go_wp2_with fail
    refine (HSd.out none 0 0 [] _ (RB.nil _ _) (by omega) (by omega) HB1.out).mono ?_
    rintro e w2 ⟨rfl, hb⟩
    have HB2 := Lib.hid (HB1.out.trans (hb.mono HB1.out.size))
    have HH2 := Lib.hid (HH1.out.below hb)
    clear hb
    rw [(H0.out 0).1]
    go_wp2_with fail
    refine (written_any s0 _ rfl).mono ?_
    rintro e w3 ⟨rfl, hb⟩
    have HB3 := Lib.hid (HB2.out.trans (hb.mono HB2.out.size))
    have HH3 := Lib.hid (HH2.out.below hb)
    have hg3 : g < w3.heap.size := HH3.out.lt
    clear hb hgl
    rw [(H0.out 0).2]
    go_wp2_with fail
    clear he0 hr hr0 hr1
    have HB3s : Hid (w.heap.size ≤ w3.heap.size) := HB3.out.size
    go_loopw [6, 7] (fun u i wr => ∃ (k : Nat) (B : Option Addr) (d : Nat), k ≤ N ∧ i = .int .i64 k ∧ u = .slice B (catL X k).length d ∧ Hid (OwnU wr w3.heap.size (.slice B (catL X k).length d) (catL X k)) ∧ Hid (HashIs wr g (catL X k)) ∧ Hid (Below w.heap.size w wr) ∧ Hid (w3.heap.size ≤ wr.heap.size)) (fun _ i _ => N - (intOf i).toNat)
    case atStart => exact ⟨0, none, 0, by omega, rfl, rfl, Own.nil _ _ _, HH3.out, HB3.out, Nat.le_refl _⟩
    case round =>
      clear HB3 HB2 HB1 HH1 HH2 HH3
      obtain ⟨k, B, d, hk, rfl, rfl, HO, HH, HB, HZ⟩ := hrel
      obtain ⟨w4, rfl⟩ : ∃ w4, w4 = wr := ⟨_, rfl⟩
      by_cases hlt : k < N
      · obtain ⟨a, A, C, rfl, hab, hcell, hr, hC, hCm, hAC⟩ := (HX.out.below HB.out).2 k hlt
        unfold maxLen at hCm
        have hcat : (catL X (k + 1)).length ≤ 2147483647 := HS.out (k + 1) (by omega)
        have HCT : Hid (∀ _ : Nat, catL X (k + 1) = catL X k ++ X k) := fun _ => rfl
        have hcl : (catL X k).length + (X k).length ≤ 2147483647 := by
          rw [HCT.out 0, List.length_append] at hcat
          exact hcat
        have HR := Lib.hid hr
        have HAC := Lib.hid hAC
        clear hr hAC
        have hgr : g ≠ 3 := fun e => by
          have := HT.out.2.1
          omega
        have HAb : Hid (0 < (X k).length → ∀ ad, A = some ad → ad.block < w.heap.size) := fun h0 ad e => by
          obtain ⟨a', A', C', e1, _, hc', hr', _⟩ := HX.out.2 k hlt
          injection e1 with e1
          subst e1
          have hcc := cell_later (k := k) (by assumption) (HB.out) hc'
          rw [hcell] at hcc
          injection hcc with hcc
          injection hcc with q1 _ q3
          subst q1
          obtain ⟨ad', e2, hb2, _⟩ := hr'.2.2 h0
          rw [e] at e2
          injection e2 with e2
          rw [e2]
          exact hb2
        have HGR := Lib.hid hgr
        clear hgr
        go_wp2_with fail
        refine (write_any g A (X k).length C (catL X k) (X k) _ HR.out hC (by omega) (fun h0 ad e => by have h1 := HAb.out h0 ad e; omega) HH.out (HT.out.below HB.out).2 HGR.out).mono ?_
        rintro e w5 ⟨rfl, hh5, hg5⟩
        have HH5 : Hid (HashIs w5 g (catL X (k + 1))) := by
          rw [HCT.out 0]
          exact hh5
        have HG5 := Lib.hid hg5
        have HB5 : Hid (Below w.heap.size w w5) := HB.out.grown hg5 HB.out.size (fun k hk => by injection hk with hk; omega)
        have HO5 : Hid (OwnU w5 w3.heap.size (.slice B (catL X k).length d) (catL X k)) := HO.out.kept hg5 (own_ne HO.out hg3)
        have HZ5 : Hid (w3.heap.size ≤ w5.heap.size) := Nat.le_trans HZ.out hg5.size
        have HR5 : Hid (RB w5 A (X k).length (X k)) := HR.out.grownBy hg5 (fun h0 ad e he => by have h1 := HAb.out h0 ad e; injection he with he; omega)
        have hab5 : a.block < w.heap.size := by
          obtain ⟨a', A', C', e1, hb', _⟩ := HX.out.2 k hlt
          injection e1 with e1
          rw [e1]
          exact hb'
        have hcell5 : w5.cell? (a.add k) = some (.slice A (X k).length C) := by
          rw [← hcell]
          refine World.cell?_of_block (w := w4) ?_
          rw [block_add]
          exact hg5.block _ hab (fun e => by injection e with e; omega)
        clear hh5 hg5 hcell hab
        have hl5 : (catL X k).length + (X k).length ≤ 140737488355328 := by omega
        go_wp2_with (at_builtin; refine appendRB und_bytes info_byte w5 rfl (.tmp 31) (.tmp 35) rfl w3.heap.size _ (catL X k) HO5.out A (X k).length C (X k) HR5.out HAC.out rfl rfl hl5 HZ5.out ?_; intro v6 w6 hown6 hgrow6; rw [← HCT.out 0] at hown6; obtain ⟨A6, c6, rfl, hr6, _, _, hc6⟩ := hown6.form; have HO6 := Lib.hid hown6; have HR6 := Lib.hid hr6; have HC6 := Lib.hid hc6; have HH6 := Lib.hid (HH5.out.grown hgrow6 (own_ne' HO5.out hg3)); have HB6 := Lib.hid (HB5.out.grown hgrow6 HB5.out.size (fun k hk => by have h1 := (HO5.out.lt k hk).1; have h2 := HB3s.out; omega)); have HZ6 := Lib.hid (Nat.le_trans HZ5.out hgrow6.size); clear hown6 hgrow6 hr6 hc6)
        · have he1 := he.out (catL X (k + 1))
          refine (HSh.out (catL X (k + 1)) _ HH6.out HB6.out).mono ?_
          rintro e w7 ⟨rfl, hb⟩
          have HB7 := Lib.hid (HB6.out.trans (hb.mono HB6.out.size))
          have HH7 := Lib.hid (HH6.out.below hb)
          have HO7 := Lib.hid (HO6.out.below hb)
          have HR7 := Lib.hid (HR6.out.below hb)
          have HZ7 : Hid (w3.heap.size ≤ w7.heap.size) := Nat.le_trans HZ6.out hb.size
          clear hb
          go_wp2_with fail
          refine (HSd.out A6 (catL X (k + 1)).length c6 (catL X (k + 1)) _ HR7.out HC6.out hcat HB7.out).mono ?_
          rintro e w8 ⟨rfl, hb⟩
          have HB8 := Lib.hid (HB7.out.trans (hb.mono HB7.out.size))
          have HH8 := Lib.hid (HH7.out.below hb)
          have HO8 := Lib.hid (HO7.out.below hb)
          have HZ8 : Hid (w3.heap.size ≤ w8.heap.size) := Nat.le_trans HZ7.out hb.size
          clear hb
          go_wp2_with fail
          go_roundw
          case rel => exact ⟨k + 1, A6, c6, by omega, by go_num, rfl, HO8.out, HH8.out, HB8.out, HZ8.out⟩
          case measure => simp [intOf]; omega
        · go_roundw
          case rel => exact ⟨k + 1, A6, c6, by omega, by go_num, rfl, HO6.out, HH6.out, HB6.out, HZ6.out⟩
          case measure => simp [intOf]; omega
      · have HF : Hid (∀ _ : Nat, k = N) := fun _ => by omega
        have hcat : (catL X k).length ≤ 2147483647 := HS.out k hk
        obtain ⟨hl4, hr4, hc4, _⟩ := HO.out.reads'
        have HR4 := Lib.hid hr4
        have HC4 := Lib.hid hc4
        have he1 := he.out (catL X k)
        clear hl4 hr4 hc4
        go_wp2_with fail
        refine (HSh.out (catL X k) _ HH.out HB.out).mono ?_
        rintro e w5 ⟨rfl, hb⟩
        have HB5 := Lib.hid (HB.out.trans (hb.mono HB.out.size))
        have HH5 := Lib.hid (HH.out.below hb)
        have HR5 := Lib.hid (HR4.out.below hb)
        clear hb
        go_wp2_with fail
        refine (HSd.out B (catL X k).length d (catL X k) _ HR5.out HC4.out hcat HB5.out).mono ?_
        rintro e w6 ⟨rfl, hb⟩
        have HB6 := Lib.hid (HB5.out.trans (hb.mono HB5.out.size))
        have HH6 := Lib.hid (HH5.out.below hb)
        have HR6 := Lib.hid (HR5.out.below hb)
        clear hb
        go_wp2_with fail
        refine (HSh.out (catL X k) _ HH6.out HB6.out).mono ?_
        rintro e w7 ⟨rfl, hb⟩
        have HB7 := Lib.hid (HB6.out.trans (hb.mono HB6.out.size))
        have HH7 := Lib.hid (HH6.out.below hb)
        have HR7 := Lib.hid (HR6.out.below hb)
        clear hb
        go_wp2_with fail
        refine (HSd.out B (catL X k).length d (catL X k) _ HR7.out HC4.out hcat HB7.out).mono ?_
        rintro e w8 ⟨rfl, hb⟩
        have HB8 := Lib.hid (HB7.out.trans (hb.mono HB7.out.size))
        clear hb
        go_wp2_with fail
        go_ret
        exact ⟨rfl, HB8.out⟩
  · go_wp2_with fail
    go_ret
    exact ⟨rfl, Below.refl _ _⟩
end Go.Proofs.YtadhjgopekekgaaDoor
