/- client: climb, the walk. -/
import Derived.Test.YtfnlhfaihoojfaaDoorMg
import Derived.Deep.CutRange
import Derived.Deep.LoopGhost
namespace Go.Proofs.YtfnlhfaihoojfaaDoor
open Go.RowKit
theorem wpOp_alloc {P : Program} {ops : Array Oper} {K : Act → World → Prop} {E : Prop} {o : Oper} {a : Act} {w : World} {Q : Exit → Act → World → Prop} (hw : Region.wanted o (yielded ops a.tmps) = true) (t : TypeId) (ho : o.op = .alloc t) (cs : Array Value) (n : Nat)
    (hi : (P.info? t).map (fun i => (i.zero, i.size)) = some (some (.agg cs), n)) (h : ∀ w', Hid (BlkIs w' w.heap.size t cs) → Hid (Below w.heap.size w w') → Hid (w'.heap.size = w.heap.size + 1) → K (a.put o.dst (.pointer (some ⟨w.heap.size, 0, none⟩))) w') : if Region.wanted o (yielded ops a.tmps) = true then o.wp P a w K Q else E := by
  rw [if_pos hw]
  have hz : (zeroValue t).run P w = .ok (.agg cs) w := by
    cases hq : P.info? t with
    | none => simp [hq] at hi
    | some i =>
      have h1 : i.zero = some (.agg cs) := by
        simp [hq] at hi
        exact hi.1
      simp [zeroValue, typeInfo, hq, h1]
  have hrun : (Instr.alloc t true (.tuple #[])).run P w = .ok (.pointer (some ⟨w.heap.size, 0, none⟩)) (w.alloc (.cells cs t)) := by
    simp [Instr.alloc, newVar, newRow, Sem.run_bind, hz, Value.cells]
  unfold Oper.wp execOp
  simp only [ho, Sem.run_bind, Sem.run_pure, hrun, Result.andThen_ok]
  exact h _ (BlkIs.new _ _ _) ((Below.refl _ _).alloc (Nat.le_refl _) _) (by show _ = _; simp)
set_option maxRecDepth 20000 in
set_option maxHeartbeats 4000000 in
theorem climb_any (fn : Nat) (cap : Array Value) (g : Nat) (c : Ck) (p : Pr) (d0 : List Nat) (J : Nat → (Nat → Prop) → World → Prop) (U : Nat → Prop) (b : Value) (w : World)
    (hE : Eye fn cap g c p (pathD c.wd c.key d0 (nearP c.wd p)) J) (hj : J 0 U w) (hr : Ready w g (c.blanked b) p) (hf : Far U g (c.blanked b)) (hl : d0.length = 32) (hB : IsB d0) :
    Calls Tryd.prog 35 #[.pointer (some ⟨g, 0, none⟩), .agg (bvs d0).toArray, .func (.func fn) #[] cap] w (Climbed g c p d0 J U b w) := by
  have HE := Lib.hid hE
  have HJ := Lib.hid hj
  have HR := Lib.hid hr
  have HF := Lib.hid hf
  have HL := Lib.hid hl
  have HBB := Lib.hid hB
  have hen := hE.enters
  clear hE hj hr hf hl hB
  go_enter Tryd.func35, Tryd.ntmps35
  go_wp2_with fail
  refine start2 (G := fun w2 => Code.wp _ _ _ _ w2) fun w2 H1 H2 HW HS => ?_
  have HD0 : Hid (BlkB w2 w.heap.size 29 d0) := H1
  have HZ0 : Hid (BlkB w2 (w.heap.size + 1) 29 (zs 32)) := H2
  have HR2 : Hid (Ready w2 g (c.blanked b) p) := HR.out.below HW.out
  have HJ2 : Hid (J 0 U w2) := HE.out.keep HJ.out (Touch.ofBelow HW.out) fun _ h => h.elim
  clear H1 H2
  have hpd : ∀ h, (pathD c.wd c.key d0 (nearP c.wd p) h).length = 32 ∧ IsB (pathD c.wd c.key d0 (nearP c.wd p) h) := fun h => pathD_facts _ _ _ HL.out HBB.out h
  have HPD := Lib.hid hpd
  have HPS : Hid (∀ h, pathD c.wd c.key d0 (nearP c.wd p) (h + 1) = nodeD c.wd (branchT c.wd (sidesN c.key h (pathD c.wd c.key d0 (nearP c.wd p) h) (nearP c.wd p h)).1 (sidesN c.key h (pathD c.wd c.key d0 (nearP c.wd p) h) (nearP c.wd p h)).2)) := fun h => pathD_succ _ _ _ _ h
  have HP0 : Hid (pathD c.wd c.key d0 (nearP c.wd p) 0 = d0) := rfl
  clear hpd
  go_loopg [7, 12] 256 (fun gh nx i wr => ∃ h : Nat, h ≤ 256 ∧ gh = 256 - h ∧ i = .int .i64 h ∧ nx = .int .i64 (cntP p.bits h : Nat) ∧ Hid (∃ U' b', J h U' wr ∧ Ready wr g (c.blanked b') p ∧ NewB w2 b b' ∧ NewU w U U' ∧ Far U' g (c.blanked b') ∧ ¬ U' w.heap.size ∧ ¬ U' (w.heap.size + 1)) ∧ Hid (Touch (fun B => U B ∨ B = g) w wr) ∧ Hid (BlkB wr w.heap.size 29 (pathD c.wd c.key d0 (nearP c.wd p) h)) ∧ Hid (BlkB wr (w.heap.size + 1) 29 (zs 32)))
  case atStart => exact ⟨0, by omega, rfl, rfl, rfl, ⟨U, b, HJ2.out, HR2.out, .inl rfl, NewU.refl _ _, HF.out, fun h => by have := HE.out.lt HJ.out _ h; omega, fun h => by have := HE.out.lt HJ.out _ h; omega⟩, (Touch.ofBelow HW.out).mono fun _ _ h => h.elim, HD0.out, HZ0.out⟩
  case round =>
    obtain ⟨h, hh, rfl, rfl, rfl, HI, HT, HD, HZ⟩ := hrel
    by_cases hlt : h < 256
    · have hlt' : (h : Int) < 256 := by omega
      obtain ⟨Ui, bi, hj, hr, hnb, hnu, hf, hn1, hn2⟩ := HI.out
      have HJi := Lib.hid hj
      have HRi := Lib.hid hr
      have HNB := Lib.hid hnb
      have HNU := Lib.hid hnu
      have HFi := Lib.hid hf
      have HN1 := Lib.hid hn1
      have HN2 := Lib.hid hn2
      have HLU := Lib.hid (HE.out.lt hj)
      clear hj hr hnb hnu hf hn1 hn2 HI
      go_wp2_with fail
      refine (HRi.out.bare hlt).mono ?_
      rintro e w3 ⟨rfl, ⟨b3, hr3, hnb3⟩, ht3⟩
      have hwd : (c.blanked bi).wd = c.wd := rfl
      rw [hwd]
      have HR3 : Hid (Ready w3 g (c.blanked b3) p) := hr3
      have HJ3 : Hid (J h Ui w3) := HE.out.keep HJi.out ht3 fun B hB hU => HFi.out.ck (hB ▸ hU)
      have HNB3 : Hid (NewB w2 b b3) := HNB.out.trans hnb3 (by have := HZ.out.lt; have := HS.out; omega)
      have HF3 : Hid (Far Ui g (c.blanked b3)) := HFi.out.bare hnb3 HLU.out
      have HT3 : Hid (Touch (fun B => U B ∨ B = g) w w3) := HT.out.trans (ht3.mono fun _ _ h => .inr h)
      have HGw : Hid (g < w.heap.size) := HR.out.ck.lt
      have HD3 : Hid (BlkB w3 w.heap.size 29 (pathD c.wd c.key d0 (nearP c.wd p) h)) := ht3.blk HD.out (by have := HGw.out; omega)
      have HZ3 : Hid (BlkB w3 (w.heap.size + 1) 29 (zs 32)) := ht3.blk HZ.out (by have := HGw.out; omega)
      have HLU3 : Hid (∀ B, Ui B → B < w3.heap.size) := fun B hB => Nat.lt_of_lt_of_le (HLU.out B hB) ht3.size
      clear hwd hr3 hnb3 ht3 HRi HJi HNB HFi HT HD HZ HLU
      have HN3 : Hid (∀ B, Ui B → B ≠ w3.heap.size) := fun B hB => by have := HLU3.out B hB; omega
      have HG3 : Hid (g < w3.heap.size) := HR3.out.ck.lt
      have HW3 : Hid (w.heap.size + 1 < w3.heap.size) := HZ3.out.lt
      go_wp2_with (first
        | ((with_reducible refine stopAt (o := ⟨some 9, _, _, _, _, _⟩) ?_); refine allocNew (o := ⟨some 9, _, _, _, _, _⟩) (by rfl) 29 rfl _ _ info_dig ?_; intro w4 HE4 HW4 HS4)
        | (refine wpList_store_part (o := ⟨none, _, _, _, _, _⟩) (by rfl) 29 (.tmp 9) (.tmp 17) rfl 0 [] (bvs (zs 32)) (bvs (emptyD c.wd h)) [] rfl rfl (blk_in HE4.out) rfl (by simp [bvs, zs, emptyD_length]) (by rw [size_dig]; simp [bvs, emptyD_length]) (fun u hu => bvs_oneCell _ u hu) ?_; intro w5 h5 g5)
        | (with_reducible refine stopAt (o := ⟨some 20, _, _, _, _, _⟩) ?_))
      have HFM : Hid (Far (fun B => B = w3.heap.size) g (c.blanked b3)) := HR3.out.farNew.mono fun B hB => by rw [hB]; exact Nat.le_refl _
      have hb35 : Below w3.heap.size w3 w5 := HW4.out.grown g5 HW4.out.size fun k hk => by injection hk with hk; omega
      have HR5 : Hid (Ready w5 g (c.blanked b3) p) := HR3.out.below hb35
      have HJ5 : Hid (J h Ui w5) := HE.out.keep HJ3.out (Touch.ofBelow hb35) fun _ h => h.elim
      have HT5 : Hid (Touch (fun B => U B ∨ B = g) w w5) := HT3.out.trans ((Touch.ofBelow hb35).mono fun _ _ h => h.elim)
      have HD5 : Hid (BlkB w5 w.heap.size 29 (pathD c.wd c.key d0 (nearP c.wd p) h)) := BlkIs.below HD3.out hb35
      have HZ5 : Hid (BlkB w5 (w.heap.size + 1) 29 (zs 32)) := BlkIs.below HZ3.out hb35
      have HX5 : Hid (BlkB w5 w3.heap.size 29 (emptyD c.wd h)) := blk_out h5
      clear hb35 h5 g5 HE4 HW4 HS4 HJ3 HT3 HD3 HZ3 HR3
      generalize w3.heap.size = M at *
      refine Lib.hid ?_
      go_wp2_with fail
      refine (bitOf_any g 66 p.bits h w5 (by rw [HR5.out.bits]; exact ck_bits HR5.out.ck HR5.out.ok) hlt).mono ?_
      rintro e w6 ⟨rfl, rfl⟩
      have hci3 : ((cntP p.bits h : Nat) : Int) ≤ 256 := by
        have h1 := cntP_le p.bits hh
        rw [← onesN_cnt HR5.out.pok.bl] at h1
        have := onesN_le (ds := p.bits)
        have := HR5.out.pok.bl
        omega
      go_upto_if 22 with fail
      go_cut [7, 12] from 12 to 56 (fun s7 s12 wx => ∃ q : Nat, Hid (q = cntP p.bits (h + 1)) ∧ s7 = .int .i64 q ∧ s12 = .int .i64 h ∧ Hid (Ready wx g (c.blanked b3) p) ∧ Hid (J h Ui wx) ∧ Hid (Touch (fun B => U B ∨ B = g) w wx) ∧ Hid (BlkB wx w.heap.size 29 (pathD c.wd c.key d0 (nearP c.wd p) h)) ∧ Hid (BlkB wx (w.heap.size + 1) 29 (zs 32)) ∧ Hid (BlkB wx M 29 (nearP c.wd p h)))
      case first =>
        cases hbit : bitP p.bits h with
        | false =>
          have HC1 : Hid (cntP p.bits (h + 1) = cntP p.bits h) := by show _ = _; rw [cntP, hbit]; rfl
          have HX6 : Hid (BlkB w6 M 29 (nearP c.wd p h)) := by
            show BlkB _ _ _ _
            unfold nearP
            rw [if_neg (by rw [hbit]; decide)]
            exact HX5.out
          clear hbit
          go_wp2_with fail
          go_meet
          case rel => exact ⟨_, HC1.out.symm, rfl, rfl, HR5.out, HJ5.out, HT5.out, HD5.out, HZ5.out, HX6.out⟩
        | true =>
          have hci : cntP p.bits h < p.sums.length := by
            rw [HR5.out.pok.sl, onesN_cnt HR5.out.pok.bl]
            exact cntP_lt hbit hlt
          have HC1 : Hid (cntP p.bits (h + 1) = cntP p.bits h + 1) := by show _ = _; rw [cntP, hbit]; rfl
          have HNE : Hid (nearP c.wd p h = p.sums.getD (cntP p.bits h) (zs 32)) := by
            show nearP c.wd p h = _
            unfold nearP
            rw [if_pos hbit]
          have HDB := Lib.hid (HR5.out.pok.sB (p.sums.getD (cntP p.bits h) (zs 32)) (by rw [getD_idx _ _ hci]; exact List.getElem_mem hci))
          obtain ⟨B, n, k, hs, hn, hx, hn2⟩ := HR5.out.sumAt hci
          have hci2 : ((cntP p.bits h : Nat) : Int) < (n : Int) := by omega
          obtain ⟨_, _, _, _, cs, _⟩ := ck_cells (c := c.blanked b3) HR5.out.ck HR5.out.ok
          rw [hs] at cs
          have HX := Lib.hid hx
          clear hs hn hx hn2 hci hbit
          generalize cntP p.bits h = q at *
          generalize p.sums.getD q (zs 32) = ds at *
          go_wp2_with (first
            | (refine wpList_load_arr (o := ⟨some 30, _, _, _, _, _⟩) (by rfl) 29 (.tmp 29) rfl ⟨B, q * 32, none⟩ 32 ds rfl HX.out (by omega) (by kernel_rfl) (by kernel_rfl) ?_)
            | (refine wpList_store_part (o := ⟨none, _, _, _, _, _⟩) (by rfl) 29 (.tmp 9) (.tmp 30) rfl 0 [] (bvs (emptyD c.wd h)) (bvs ds) [] rfl rfl (blk_in HX5.out) rfl (by simp [bvs, emptyD_length, HDB.out.2]) (by rw [size_dig]; simp [bvs, HDB.out.2]) (fun u hu => bvs_oneCell _ u hu) ?_; intro w7 h7 g7))
          have hb67 : Touch (fun B => B = M) w6 w7 := Touch.one g7
          have HX7 : Hid (BlkB w7 M 29 (nearP c.wd p h)) := by
            show BlkB _ _ _ _
            rw [HNE.out]
            exact blk_out h7
          have HR7 : Hid (Ready w7 g (c.blanked b3) p) := HR5.out.far hb67 HFM.out
          have HJ7 : Hid (J h Ui w7) := HE.out.keep HJ5.out hb67 fun B hB h1 => HN3.out B h1 hB
          have HT7 : Hid (Touch (fun B => U B ∨ B = g) w w7) := HT5.out.andThen hb67 fun B hB h1 => by have := HW3.out; omega
          have HD7 : Hid (BlkB w7 w.heap.size 29 (pathD c.wd c.key d0 (nearP c.wd p) h)) := hb67.blk HD5.out (by have := HW3.out; omega)
          have HZ7 : Hid (BlkB w7 (w.heap.size + 1) 29 (zs 32)) := hb67.blk HZ5.out (by have := HW3.out; omega)
          clear h7 g7 hb67
          go_wp2_with fail
          go_meet
          case rel => exact ⟨q + 1, HC1.out.symm, by go_num, rfl, HR7.out, HJ7.out, HT7.out, HD7.out, HZ7.out, HX7.out⟩
      case rest =>
        obtain ⟨q, HQ, rfl, rfl, HR6, HJ6, HT6, HD6, HZ6, HX6⟩ := hcut
        have HNF := Lib.hid (nearP_facts (w := c.wd) HR6.out.pok hlt)
        go_wp2_with (first
          | (refine wpList_load_arr (o := ⟨some 35, _, _, _, _, _⟩) (by rfl) 29 (.tmp 4) rfl ⟨w.heap.size, 0, none⟩ 32 (pathD c.wd c.key d0 (nearP c.wd p) h) rfl (HD6.out.whole (HPD.out h).2 (HPD.out h).1) (by omega) (by kernel_rfl) (by kernel_rfl) ?_)
          | (refine wpList_load_arr (o := ⟨some 36, _, _, _, _, _⟩) (by rfl) 29 (.tmp 9) rfl ⟨M, 0, none⟩ 32 (nearP c.wd p h) rfl (HX6.out.whole HNF.out.2 HNF.out.1) (by omega) (by kernel_rfl) (by kernel_rfl) ?_))
        refine (HE.out.call h Ui b3 wc hlt HJ6.out HR6.out HF3.out).mono ?_
        rintro e w7 ⟨rfl, U7, b7, hj7, hr7, hnb7, ht7, hnu7, hf7⟩
        have HR7 : Hid (Ready w7 g (c.blanked b7) p) := hr7
        have HJ7 : Hid (J (h + 1) U7 w7) := hj7
        have HNB7 : Hid (NewB w2 b b7) := HNB3.out.trans hnb7 (by have := HZ6.out.lt; have := HS.out; omega)
        have HT7 : Hid (Touch (fun B => U B ∨ B = g) w w7) := HT6.out.andThen ht7 fun B hB h1 => by
          rcases h1 with h1 | h1
          · rcases HNU.out B h1 with h2 | h2
            · exact .inl h2
            · omega
          · exact .inr h1
        have HNU7 : Hid (NewU w U U7) := HNU.out.trans hnu7 HT6.out.size
        have HF7 : Hid (Far U7 g (c.blanked b7)) := hf7
        have HD7 : Hid (BlkB w7 w.heap.size 29 (pathD c.wd c.key d0 (nearP c.wd p) h)) := ht7.blk HD6.out fun h1 => by
          rcases h1 with h1 | h1
          · exact HN1.out h1
          · have := HGw.out; omega
        have HZ7 : Hid (BlkB w7 (w.heap.size + 1) 29 (zs 32)) := ht7.blk HZ6.out fun h1 => by
          rcases h1 with h1 | h1
          · exact HN2.out h1
          · have := HGw.out; omega
        have HX7 : Hid (BlkB w7 M 29 (nearP c.wd p h)) := ht7.blk HX6.out fun h1 => by
          rcases h1 with h1 | h1
          · exact HN3.out M h1 rfl
          · have := HG3.out; omega
        have HN17 : Hid (¬ U7 w.heap.size) := hnu7.not HD6.out.lt HN1.out
        have HN27 : Hid (¬ U7 (w.heap.size + 1)) := hnu7.not HZ6.out.lt HN2.out
        have HMw : Hid (M < w7.heap.size) := HX7.out.lt
        clear hj7 hr7 hnb7 ht7 hnu7 hf7 HR6 HJ6 HT6 HD6 HZ6 HX6 HNU HN1 HN2 HLU3 HN3 HF3 HNB3 hen
        have HKL : Hid (c.key.length = 32 ∧ IsB c.key) := ⟨HR7.out.ok.kl, HR7.out.ok.kB⟩
        have HSD := Lib.hid (sidesN_facts (k := c.key) (h := h) (HPD.out h).2 (HPD.out h).1 HNF.out.2 HNF.out.1)
        go_upto_region 10 with fail
        go_cut [10, 11, 12] from 12 to 56 (fun s10 s11 s12 wx => ∃ a1 a2 : Nat, s10 = .pointer (some ⟨a1, 0, none⟩) ∧ s11 = .pointer (some ⟨a2, 0, none⟩) ∧ s12 = .int .i64 h ∧ Hid (M < a1 ∧ M < a2) ∧ Hid (Below w7.heap.size w7 wx) ∧ Hid (BlkB wx a1 29 (sidesN c.key h (pathD c.wd c.key d0 (nearP c.wd p) h) (nearP c.wd p h)).1) ∧ Hid (BlkB wx a2 29 (sidesN c.key h (pathD c.wd c.key d0 (nearP c.wd p) h) (nearP c.wd p h)).2))
        case first =>
          have hu := und_dig
          have hszp : (Tryd.prog.info? 29).map (·.size) = some (bvs (pathD c.wd c.key d0 (nearP c.wd p) h)).length := by rw [size_dig]; simp [bvs, (HPD.out h).1]
          have hszn : (Tryd.prog.info? 29).map (·.size) = some (bvs (nearP c.wd p h)).length := by rw [size_dig]; simp [bvs, HNF.out.1]
          have huk := und_key
          have hszk : (Tryd.prog.info? 31).map (·.size) = some (bvs c.key).length := by rw [size_key]; simp [bvs, HKL.out.1]
          have hrk : w7.rangeAt g 1 (bvs c.key) := by
            have h : BlkIs w7 g _ (c.blanked b7).C.toArray := HR7.out.ck
            rw [Ck.byKey] at h
            exact h.rangeOf rfl
          have HSS : Hid (∀ wx, Below w7.heap.size w7 wx → wx.rangeAt g 1 (bvs c.key) ∧ wx.rangeAt w.heap.size 0 (bvs (pathD c.wd c.key d0 (nearP c.wd p) h)) ∧ wx.rangeAt M 0 (bvs (nearP c.wd p h))) := fun wx hb =>
            ⟨fun j v hj => (hb.cell (p := ⟨g, 1 + j, none⟩) HR7.out.ck.lt).trans (hrk j v hj), BlkIs.range (BlkIs.below HD7.out hb), BlkIs.range (BlkIs.below HX7.out hb)⟩
          clear hrk
          refine wp_region_held_drew (S := fun w' => w'.rangeAt g 1 (bvs c.key) ∧ w'.rangeAt w.heap.size 0 (bvs (pathD c.wd c.key d0 (nearP c.wd p) h)) ∧ w'.rangeAt M 0 (bvs (nearP c.wd p h))) (by kernel_rfl) (HSS.out _ (drewN_below (Below.refl _ _) 1)) fun hH => ?_
          have HB0 : Hid (Below w7.heap.size w7 w7.drew) := drewN_below (Below.refl _ _) 1
          generalize w7.drew = w7d at *
          refine wpAnyH_take (i := 0) (oi := ⟨some 39, _, _, _, _, _⟩) rfl (by kernel_rfl) (by kernel_rfl) (by kernel_rfl) (fun _ _ _ h => h) (Or.inl ⟨by rfl, fun w hw => by ((try dsimp only at hw); go_split_ands; go_simp; with_reducible rfl)⟩) (by assumption) ?_
          try simp only [Act.put, List.setIfInBounds_toArray, List.set_cons_zero, List.set_cons_succ]
          refine wpAnyH_take (i := 1) (oi := ⟨some 40, _, _, _, _, _⟩) rfl (by kernel_rfl) (by kernel_rfl) (by kernel_rfl) (fun _ _ _ h => h) (Or.inl ⟨by rfl, fun w hw => by ((try dsimp only at hw); go_split_ands; go_simp; with_reducible rfl)⟩) (by assumption) ?_
          try simp only [Act.put, List.setIfInBounds_toArray, List.set_cons_zero, List.set_cons_succ]
          refine wpAnyH_take (i := 2) (oi := ⟨some 41, _, _, _, _, _⟩) rfl (by kernel_rfl) (by kernel_rfl) (by kernel_rfl) (fun _ _ _ h => h) (Or.inl ⟨by rfl, fun w hw => by ((try dsimp only at hw); go_split_ands; go_simp; with_reducible rfl)⟩) (by assumption) ?_
          try simp only [Act.put, List.setIfInBounds_toArray, List.set_cons_zero, List.set_cons_succ]
          refine wpAnyH_take (i := 3) (oi := ⟨some 42, _, _, _, _, _⟩) rfl (by kernel_rfl) (by kernel_rfl) (by kernel_rfl) (fun _ _ _ h => h) (yieldsIf_load_mid (by rfl) _ _ rfl _ _ rfl _ _ (fun w hw => by (try dsimp only at hw); go_split_ands; assumption) (by assumption) rfl (by assumption)) (by assumption) ?_
          try simp only [Act.put, List.setIfInBounds_toArray, List.set_cons_zero, List.set_cons_succ]
          refine wpAnyH_take (i := 4) (oi := ⟨some 43, _, _, _, _, _⟩) rfl (by kernel_rfl) (by kernel_rfl) (by kernel_rfl) (fun _ _ _ h => h) (Or.inl ⟨by rfl, fun w hw => by ((try dsimp only at hw); go_split_ands; go_simp; with_reducible rfl)⟩) (by assumption) ?_
          try simp only [Act.put, List.setIfInBounds_toArray, List.set_cons_zero, List.set_cons_succ]
          refine wpAnyH_take (i := 5) (oi := ⟨some 44, _, _, _, _, _⟩) rfl (by kernel_rfl) (by kernel_rfl) (by kernel_rfl) (fun _ _ _ h => h) (yieldsIf_load_mid (by rfl) _ _ rfl _ _ rfl _ _ (fun w hw => by (try dsimp only at hw); go_split_ands; assumption) (by assumption) rfl (by assumption)) (by assumption) ?_
          try simp only [Act.put, List.setIfInBounds_toArray, List.set_cons_zero, List.set_cons_succ]
          refine wpAnyH_take (i := 6) (oi := ⟨some 45, _, _, _, _, _⟩) rfl (by kernel_rfl) (by kernel_rfl) (by kernel_rfl) (fun _ _ _ h => h) (yieldsIf_load_mid (by rfl) _ _ rfl _ _ rfl _ _ (fun w hw => by (try dsimp only at hw); go_split_ands; assumption) (by assumption) rfl (by assumption)) (by assumption) ?_
          try simp only [Act.put, List.setIfInBounds_toArray, List.set_cons_zero, List.set_cons_succ]
          clear hu hszp hszn huk hszk
          refine wpAnyH_ready (rs := [7, 11, 12]) (by kernel_rfl) (by simp) ?_
          refine AllReadyH.cons rfl (fun K hK => ?_) (AllReadyH.cons rfl (fun K hK => ?_) (AllReadyH.cons rfl (fun K hK => ?_) AllReadyH.nil))
          · go_simp
            go_at_call 56
            refine (sides_any c.key (pathD c.wd c.key d0 (nearP c.wd p) h) (nearP c.wd p h) h w7d HKL.out.2 HKL.out.1 (HPD.out h).2 (HPD.out h).1 HNF.out.2 HNF.out.1 hlt).mono ?_
            rintro e y1 ⟨rfl, hb1⟩
            have HB1 : Hid (Below w7.heap.size w7 y1) := HB0.out.trans (hb1.mono HB0.out.size)
            refine hK.out _ _ (HSS.out y1 HB1.out) (fun hH => ?_)
            clear hK hb1
            refine wpAnyH_take (i := 8) (oi := ⟨some 38, _, _, _, _, _⟩) rfl (by kernel_rfl) (by kernel_rfl) (by kernel_rfl) (fun _ _ _ h => h) (Or.inl ⟨by rfl, fun w hw => by ((try dsimp only at hw); go_split_ands; go_simp; with_reducible rfl)⟩) (by assumption) ?_
            try simp only [Act.put, List.setIfInBounds_toArray, List.set_cons_zero, List.set_cons_succ]
            refine wpAnyH_take (i := 9) (oi := ⟨some 47, _, _, _, _, _⟩) rfl (by kernel_rfl) (by kernel_rfl) (by kernel_rfl) (fun _ _ _ h => h) (Or.inl ⟨by rfl, fun w hw => by ((try dsimp only at hw); go_split_ands; go_simp; with_reducible rfl)⟩) (by assumption) ?_
            try simp only [Act.put, List.setIfInBounds_toArray, List.set_cons_zero, List.set_cons_succ]
            refine wpAnyH_take (i := 10) (oi := ⟨some 48, _, _, _, _, _⟩) rfl (by kernel_rfl) (by kernel_rfl) (by kernel_rfl) (fun _ _ _ h => h) (Or.inl ⟨by rfl, fun w hw => by ((try dsimp only at hw); go_split_ands; go_simp; with_reducible rfl)⟩) (by assumption) ?_
            try simp only [Act.put, List.setIfInBounds_toArray, List.set_cons_zero, List.set_cons_succ]
            refine wpAnyH_ready (rs := [11, 12]) (by kernel_rfl) (by simp) ?_
            refine AllReadyH.cons rfl (fun K hK => ?_) (AllReadyH.cons rfl (fun K hK => ?_) AllReadyH.nil)
            · refine wpOp_alloc (o := ⟨some 10, _, _, _, _, _⟩) (by rfl) 29 rfl _ _ info_dig ?_
              intro y2 hz2 hb2 hs2
              have hb2 := hb2.out
              have HB2 : Hid (Below w7.heap.size w7 y2) := HB1.out.trans (hb2.mono HB1.out.size)
              have HZ11_2 : Hid (BlkB y2 y1.heap.size 29 (zs 32)) := hz2.out
              have HL11_2 : Hid (M < y1.heap.size) := by have h1 := HB1.out.size; have h2 := HMw.out; show _ < _; omega
              have HG11_2 : Hid (w7.heap.size ≤ y1.heap.size) := by have h1 := HB1.out.size; have h2 := HMw.out; show _ ≤ _; omega
              refine hK.out _ _ (HSS.out y2 HB2.out) (fun hH => ?_)
              clear hK hb2
              refine wpAnyH_ready (rs := [12]) (by kernel_rfl) (by simp) ?_
              refine AllReadyH.cons rfl (fun K hK => ?_) AllReadyH.nil
              refine wpOp_alloc (o := ⟨some 11, _, _, _, _, _⟩) (by rfl) 29 rfl _ _ info_dig ?_
              intro y3 hz3 hb3 hs3
              have hb3 := hb3.out
              have HB3 : Hid (Below w7.heap.size w7 y3) := HB2.out.trans (hb3.mono HB2.out.size)
              have HZ11_3 : Hid (BlkB y3 y1.heap.size 29 (zs 32)) := BlkIs.below HZ11_2.out hb3
              have HL11_3 : Hid (M < y1.heap.size) := HL11_2
              have HG11_3 : Hid (w7.heap.size ≤ y1.heap.size) := HG11_2
              have HZ12_3 : Hid (BlkB y3 y2.heap.size 29 (zs 32)) := hz3.out
              have HL12_3 : Hid (M < y2.heap.size) := by have h1 := HB2.out.size; have h2 := HMw.out; show _ < _; omega
              have HG12_3 : Hid (w7.heap.size ≤ y2.heap.size) := by have h1 := HB2.out.size; have h2 := HMw.out; show _ ≤ _; omega
              have HNE3 : Hid (y1.heap.size ≠ y2.heap.size) := by have := HZ11_2.out.lt; show _ ≠ _; omega
              refine hK.out _ _ (HSS.out y3 HB3.out) (fun hH => ?_)
              clear hK hb3
              refine wpAnyH_ready (rs := [13]) (by kernel_rfl) (by simp) ?_
              refine AllReadyH.cons (o := ⟨none, _, _, _, _, _⟩) rfl (fun K hK => ?_) AllReadyH.nil
              refine wpOp_store_part (o := ⟨none, _, _, _, _, _⟩) (by rfl) 29 (.tmp 10) (.tmp 47) rfl 0 [] (bvs (zs 32)) (bvs (sidesN c.key h (pathD c.wd c.key d0 (nearP c.wd p) h) (nearP c.wd p h)).1) [] rfl rfl (blk_in HZ11_3.out) rfl (by simp [bvs, zs, HSD.out.2.1]) (by rw [size_dig]; simp [bvs, HSD.out.2.1]) (fun u hu => bvs_oneCell _ u hu) ?_
              intro z1 hz1 gz1
              have HBz1 : Hid (Below w7.heap.size w7 z1) := HB3.out.grown gz1 HB3.out.size fun k hk => by injection hk with hk; have := HG11_3.out; omega
              have HZb : Hid (BlkB z1 y2.heap.size 29 (zs 32)) := (Touch.one gz1).blk HZ12_3.out (Ne.symm HNE3.out)
              refine hK.out _ _ (HSS.out z1 HBz1.out) (fun hH => ?_)
              clear hK
              refine wpAnyH_ready (rs := [14]) (by kernel_rfl) (by simp) ?_
              refine AllReadyH.cons (o := ⟨none, _, _, _, _, _⟩) rfl (fun K hK => ?_) AllReadyH.nil
              refine wpOp_store_part (o := ⟨none, _, _, _, _, _⟩) (by rfl) 29 (.tmp 11) (.tmp 48) rfl 0 [] (bvs (zs 32)) (bvs (sidesN c.key h (pathD c.wd c.key d0 (nearP c.wd p) h) (nearP c.wd p h)).2) [] rfl rfl (blk_in HZb.out) rfl (by simp [bvs, zs, HSD.out.2.2.2]) (by rw [size_dig]; simp [bvs, HSD.out.2.2.2]) (fun u hu => bvs_oneCell _ u hu) ?_
              intro z2 hz2 gz2
              have HBz2 : Hid (Below w7.heap.size w7 z2) := HBz1.out.grown gz2 HBz1.out.size fun k hk => by injection hk with hk; have := HG12_3.out; omega
              refine hK.out _ _ (HSS.out z2 HBz2.out) (fun hH => ?_)
              clear hK
              refine wpAnyH_done (by kernel_rfl) ?_ _
              go_wp2_with fail
              go_meet
              case rel => exact ⟨y1.heap.size, y2.heap.size, rfl, rfl, rfl, ⟨HL11_3.out, HL12_3.out⟩, HBz2.out, (Touch.one gz2).blk (blk_out hz1) HNE3.out, blk_out hz2⟩
            · refine wpOp_alloc (o := ⟨some 11, _, _, _, _, _⟩) (by rfl) 29 rfl _ _ info_dig ?_
              intro y4 hz4 hb4 hs4
              have hb4 := hb4.out
              have HB4 : Hid (Below w7.heap.size w7 y4) := HB1.out.trans (hb4.mono HB1.out.size)
              have HZ12_4 : Hid (BlkB y4 y1.heap.size 29 (zs 32)) := hz4.out
              have HL12_4 : Hid (M < y1.heap.size) := by have h1 := HB1.out.size; have h2 := HMw.out; show _ < _; omega
              have HG12_4 : Hid (w7.heap.size ≤ y1.heap.size) := by have h1 := HB1.out.size; have h2 := HMw.out; show _ ≤ _; omega
              refine hK.out _ _ (HSS.out y4 HB4.out) (fun hH => ?_)
              clear hK hb4
              refine wpAnyH_ready (rs := [11]) (by kernel_rfl) (by simp) ?_
              refine AllReadyH.cons rfl (fun K hK => ?_) AllReadyH.nil
              refine wpOp_alloc (o := ⟨some 10, _, _, _, _, _⟩) (by rfl) 29 rfl _ _ info_dig ?_
              intro y5 hz5 hb5 hs5
              have hb5 := hb5.out
              have HB5 : Hid (Below w7.heap.size w7 y5) := HB4.out.trans (hb5.mono HB4.out.size)
              have HZ12_5 : Hid (BlkB y5 y1.heap.size 29 (zs 32)) := BlkIs.below HZ12_4.out hb5
              have HL12_5 : Hid (M < y1.heap.size) := HL12_4
              have HG12_5 : Hid (w7.heap.size ≤ y1.heap.size) := HG12_4
              have HZ11_5 : Hid (BlkB y5 y4.heap.size 29 (zs 32)) := hz5.out
              have HL11_5 : Hid (M < y4.heap.size) := by have h1 := HB4.out.size; have h2 := HMw.out; show _ < _; omega
              have HG11_5 : Hid (w7.heap.size ≤ y4.heap.size) := by have h1 := HB4.out.size; have h2 := HMw.out; show _ ≤ _; omega
              have HNE5 : Hid (y4.heap.size ≠ y1.heap.size) := by have := HZ12_4.out.lt; show _ ≠ _; omega
              refine hK.out _ _ (HSS.out y5 HB5.out) (fun hH => ?_)
              clear hK hb5
              refine wpAnyH_ready (rs := [13]) (by kernel_rfl) (by simp) ?_
              refine AllReadyH.cons (o := ⟨none, _, _, _, _, _⟩) rfl (fun K hK => ?_) AllReadyH.nil
              refine wpOp_store_part (o := ⟨none, _, _, _, _, _⟩) (by rfl) 29 (.tmp 10) (.tmp 47) rfl 0 [] (bvs (zs 32)) (bvs (sidesN c.key h (pathD c.wd c.key d0 (nearP c.wd p) h) (nearP c.wd p h)).1) [] rfl rfl (blk_in HZ11_5.out) rfl (by simp [bvs, zs, HSD.out.2.1]) (by rw [size_dig]; simp [bvs, HSD.out.2.1]) (fun u hu => bvs_oneCell _ u hu) ?_
              intro z1 hz1 gz1
              have HBz1 : Hid (Below w7.heap.size w7 z1) := HB5.out.grown gz1 HB5.out.size fun k hk => by injection hk with hk; have := HG11_5.out; omega
              have HZb : Hid (BlkB z1 y1.heap.size 29 (zs 32)) := (Touch.one gz1).blk HZ12_5.out (Ne.symm HNE5.out)
              refine hK.out _ _ (HSS.out z1 HBz1.out) (fun hH => ?_)
              clear hK
              refine wpAnyH_ready (rs := [14]) (by kernel_rfl) (by simp) ?_
              refine AllReadyH.cons (o := ⟨none, _, _, _, _, _⟩) rfl (fun K hK => ?_) AllReadyH.nil
              refine wpOp_store_part (o := ⟨none, _, _, _, _, _⟩) (by rfl) 29 (.tmp 11) (.tmp 48) rfl 0 [] (bvs (zs 32)) (bvs (sidesN c.key h (pathD c.wd c.key d0 (nearP c.wd p) h) (nearP c.wd p h)).2) [] rfl rfl (blk_in HZb.out) rfl (by simp [bvs, zs, HSD.out.2.2.2]) (by rw [size_dig]; simp [bvs, HSD.out.2.2.2]) (fun u hu => bvs_oneCell _ u hu) ?_
              intro z2 hz2 gz2
              have HBz2 : Hid (Below w7.heap.size w7 z2) := HBz1.out.grown gz2 HBz1.out.size fun k hk => by injection hk with hk; have := HG12_5.out; omega
              refine hK.out _ _ (HSS.out z2 HBz2.out) (fun hH => ?_)
              clear hK
              refine wpAnyH_done (by kernel_rfl) ?_ _
              go_wp2_with fail
              go_meet
              case rel => exact ⟨y4.heap.size, y1.heap.size, rfl, rfl, rfl, ⟨HL11_5.out, HL12_5.out⟩, HBz2.out, (Touch.one gz2).blk (blk_out hz1) HNE5.out, blk_out hz2⟩
          · refine wpOp_alloc (o := ⟨some 10, _, _, _, _, _⟩) (by rfl) 29 rfl _ _ info_dig ?_
            intro y6 hz6 hb6 hs6
            have hb6 := hb6.out
            have HB6 : Hid (Below w7.heap.size w7 y6) := HB0.out.trans (hb6.mono HB0.out.size)
            have HZ11_6 : Hid (BlkB y6 w7d.heap.size 29 (zs 32)) := hz6.out
            have HL11_6 : Hid (M < w7d.heap.size) := by have h1 := HB0.out.size; have h2 := HMw.out; show _ < _; omega
            have HG11_6 : Hid (w7.heap.size ≤ w7d.heap.size) := by have h1 := HB0.out.size; have h2 := HMw.out; show _ ≤ _; omega
            refine hK.out _ _ (HSS.out y6 HB6.out) (fun hH => ?_)
            clear hK hb6
            refine wpAnyH_ready (rs := [7, 12]) (by kernel_rfl) (by simp) ?_
            refine AllReadyH.cons rfl (fun K hK => ?_) (AllReadyH.cons rfl (fun K hK => ?_) AllReadyH.nil)
            · go_simp
              go_at_call 56
              refine (sides_any c.key (pathD c.wd c.key d0 (nearP c.wd p) h) (nearP c.wd p h) h y6 HKL.out.2 HKL.out.1 (HPD.out h).2 (HPD.out h).1 HNF.out.2 HNF.out.1 hlt).mono ?_
              rintro e y7 ⟨rfl, hb7⟩
              have HB7 : Hid (Below w7.heap.size w7 y7) := HB6.out.trans (hb7.mono HB6.out.size)
              have HZ11_7 : Hid (BlkB y7 w7d.heap.size 29 (zs 32)) := BlkIs.below HZ11_6.out hb7
              have HL11_7 : Hid (M < w7d.heap.size) := HL11_6
              have HG11_7 : Hid (w7.heap.size ≤ w7d.heap.size) := HG11_6
              refine hK.out _ _ (HSS.out y7 HB7.out) (fun hH => ?_)
              clear hK hb7
              refine wpAnyH_take (i := 8) (oi := ⟨some 38, _, _, _, _, _⟩) rfl (by kernel_rfl) (by kernel_rfl) (by kernel_rfl) (fun _ _ _ h => h) (Or.inl ⟨by rfl, fun w hw => by ((try dsimp only at hw); go_split_ands; go_simp; with_reducible rfl)⟩) (by assumption) ?_
              try simp only [Act.put, List.setIfInBounds_toArray, List.set_cons_zero, List.set_cons_succ]
              refine wpAnyH_take (i := 9) (oi := ⟨some 47, _, _, _, _, _⟩) rfl (by kernel_rfl) (by kernel_rfl) (by kernel_rfl) (fun _ _ _ h => h) (Or.inl ⟨by rfl, fun w hw => by ((try dsimp only at hw); go_split_ands; go_simp; with_reducible rfl)⟩) (by assumption) ?_
              try simp only [Act.put, List.setIfInBounds_toArray, List.set_cons_zero, List.set_cons_succ]
              refine wpAnyH_take (i := 10) (oi := ⟨some 48, _, _, _, _, _⟩) rfl (by kernel_rfl) (by kernel_rfl) (by kernel_rfl) (fun _ _ _ h => h) (Or.inl ⟨by rfl, fun w hw => by ((try dsimp only at hw); go_split_ands; go_simp; with_reducible rfl)⟩) (by assumption) ?_
              try simp only [Act.put, List.setIfInBounds_toArray, List.set_cons_zero, List.set_cons_succ]
              refine wpAnyH_ready (rs := [12]) (by kernel_rfl) (by simp) ?_
              refine AllReadyH.cons rfl (fun K hK => ?_) AllReadyH.nil
              refine wpOp_alloc (o := ⟨some 11, _, _, _, _, _⟩) (by rfl) 29 rfl _ _ info_dig ?_
              intro y8 hz8 hb8 hs8
              have hb8 := hb8.out
              have HB8 : Hid (Below w7.heap.size w7 y8) := HB7.out.trans (hb8.mono HB7.out.size)
              have HZ11_8 : Hid (BlkB y8 w7d.heap.size 29 (zs 32)) := BlkIs.below HZ11_7.out hb8
              have HL11_8 : Hid (M < w7d.heap.size) := HL11_7
              have HG11_8 : Hid (w7.heap.size ≤ w7d.heap.size) := HG11_7
              have HZ12_8 : Hid (BlkB y8 y7.heap.size 29 (zs 32)) := hz8.out
              have HL12_8 : Hid (M < y7.heap.size) := by have h1 := HB7.out.size; have h2 := HMw.out; show _ < _; omega
              have HG12_8 : Hid (w7.heap.size ≤ y7.heap.size) := by have h1 := HB7.out.size; have h2 := HMw.out; show _ ≤ _; omega
              have HNE8 : Hid (w7d.heap.size ≠ y7.heap.size) := by have := HZ11_7.out.lt; show _ ≠ _; omega
              refine hK.out _ _ (HSS.out y8 HB8.out) (fun hH => ?_)
              clear hK hb8
              refine wpAnyH_ready (rs := [13]) (by kernel_rfl) (by simp) ?_
              refine AllReadyH.cons (o := ⟨none, _, _, _, _, _⟩) rfl (fun K hK => ?_) AllReadyH.nil
              refine wpOp_store_part (o := ⟨none, _, _, _, _, _⟩) (by rfl) 29 (.tmp 10) (.tmp 47) rfl 0 [] (bvs (zs 32)) (bvs (sidesN c.key h (pathD c.wd c.key d0 (nearP c.wd p) h) (nearP c.wd p h)).1) [] rfl rfl (blk_in HZ11_8.out) rfl (by simp [bvs, zs, HSD.out.2.1]) (by rw [size_dig]; simp [bvs, HSD.out.2.1]) (fun u hu => bvs_oneCell _ u hu) ?_
              intro z1 hz1 gz1
              have HBz1 : Hid (Below w7.heap.size w7 z1) := HB8.out.grown gz1 HB8.out.size fun k hk => by injection hk with hk; have := HG11_8.out; omega
              have HZb : Hid (BlkB z1 y7.heap.size 29 (zs 32)) := (Touch.one gz1).blk HZ12_8.out (Ne.symm HNE8.out)
              refine hK.out _ _ (HSS.out z1 HBz1.out) (fun hH => ?_)
              clear hK
              refine wpAnyH_ready (rs := [14]) (by kernel_rfl) (by simp) ?_
              refine AllReadyH.cons (o := ⟨none, _, _, _, _, _⟩) rfl (fun K hK => ?_) AllReadyH.nil
              refine wpOp_store_part (o := ⟨none, _, _, _, _, _⟩) (by rfl) 29 (.tmp 11) (.tmp 48) rfl 0 [] (bvs (zs 32)) (bvs (sidesN c.key h (pathD c.wd c.key d0 (nearP c.wd p) h) (nearP c.wd p h)).2) [] rfl rfl (blk_in HZb.out) rfl (by simp [bvs, zs, HSD.out.2.2.2]) (by rw [size_dig]; simp [bvs, HSD.out.2.2.2]) (fun u hu => bvs_oneCell _ u hu) ?_
              intro z2 hz2 gz2
              have HBz2 : Hid (Below w7.heap.size w7 z2) := HBz1.out.grown gz2 HBz1.out.size fun k hk => by injection hk with hk; have := HG12_8.out; omega
              refine hK.out _ _ (HSS.out z2 HBz2.out) (fun hH => ?_)
              clear hK
              refine wpAnyH_done (by kernel_rfl) ?_ _
              go_wp2_with fail
              go_meet
              case rel => exact ⟨w7d.heap.size, y7.heap.size, rfl, rfl, rfl, ⟨HL11_8.out, HL12_8.out⟩, HBz2.out, (Touch.one gz2).blk (blk_out hz1) HNE8.out, blk_out hz2⟩
            · refine wpOp_alloc (o := ⟨some 11, _, _, _, _, _⟩) (by rfl) 29 rfl _ _ info_dig ?_
              intro y9 hz9 hb9 hs9
              have hb9 := hb9.out
              have HB9 : Hid (Below w7.heap.size w7 y9) := HB6.out.trans (hb9.mono HB6.out.size)
              have HZ11_9 : Hid (BlkB y9 w7d.heap.size 29 (zs 32)) := BlkIs.below HZ11_6.out hb9
              have HL11_9 : Hid (M < w7d.heap.size) := HL11_6
              have HG11_9 : Hid (w7.heap.size ≤ w7d.heap.size) := HG11_6
              have HZ12_9 : Hid (BlkB y9 y6.heap.size 29 (zs 32)) := hz9.out
              have HL12_9 : Hid (M < y6.heap.size) := by have h1 := HB6.out.size; have h2 := HMw.out; show _ < _; omega
              have HG12_9 : Hid (w7.heap.size ≤ y6.heap.size) := by have h1 := HB6.out.size; have h2 := HMw.out; show _ ≤ _; omega
              have HNE9 : Hid (w7d.heap.size ≠ y6.heap.size) := by have := HZ11_6.out.lt; show _ ≠ _; omega
              refine hK.out _ _ (HSS.out y9 HB9.out) (fun hH => ?_)
              clear hK hb9
              refine wpAnyH_ready (rs := [7]) (by kernel_rfl) (by simp) ?_
              refine AllReadyH.cons rfl (fun K hK => ?_) AllReadyH.nil
              go_simp
              go_at_call 56
              refine (sides_any c.key (pathD c.wd c.key d0 (nearP c.wd p) h) (nearP c.wd p h) h y9 HKL.out.2 HKL.out.1 (HPD.out h).2 (HPD.out h).1 HNF.out.2 HNF.out.1 hlt).mono ?_
              rintro e y10 ⟨rfl, hb10⟩
              have HB10 : Hid (Below w7.heap.size w7 y10) := HB9.out.trans (hb10.mono HB9.out.size)
              have HZ11_10 : Hid (BlkB y10 w7d.heap.size 29 (zs 32)) := BlkIs.below HZ11_9.out hb10
              have HL11_10 : Hid (M < w7d.heap.size) := HL11_9
              have HG11_10 : Hid (w7.heap.size ≤ w7d.heap.size) := HG11_9
              have HZ12_10 : Hid (BlkB y10 y6.heap.size 29 (zs 32)) := BlkIs.below HZ12_9.out hb10
              have HL12_10 : Hid (M < y6.heap.size) := HL12_9
              have HG12_10 : Hid (w7.heap.size ≤ y6.heap.size) := HG12_9
              refine hK.out _ _ (HSS.out y10 HB10.out) (fun hH => ?_)
              clear hK hb10
              refine wpAnyH_take (i := 8) (oi := ⟨some 38, _, _, _, _, _⟩) rfl (by kernel_rfl) (by kernel_rfl) (by kernel_rfl) (fun _ _ _ h => h) (Or.inl ⟨by rfl, fun w hw => by ((try dsimp only at hw); go_split_ands; go_simp; with_reducible rfl)⟩) (by assumption) ?_
              try simp only [Act.put, List.setIfInBounds_toArray, List.set_cons_zero, List.set_cons_succ]
              refine wpAnyH_take (i := 9) (oi := ⟨some 47, _, _, _, _, _⟩) rfl (by kernel_rfl) (by kernel_rfl) (by kernel_rfl) (fun _ _ _ h => h) (Or.inl ⟨by rfl, fun w hw => by ((try dsimp only at hw); go_split_ands; go_simp; with_reducible rfl)⟩) (by assumption) ?_
              try simp only [Act.put, List.setIfInBounds_toArray, List.set_cons_zero, List.set_cons_succ]
              refine wpAnyH_take (i := 10) (oi := ⟨some 48, _, _, _, _, _⟩) rfl (by kernel_rfl) (by kernel_rfl) (by kernel_rfl) (fun _ _ _ h => h) (Or.inl ⟨by rfl, fun w hw => by ((try dsimp only at hw); go_split_ands; go_simp; with_reducible rfl)⟩) (by assumption) ?_
              try simp only [Act.put, List.setIfInBounds_toArray, List.set_cons_zero, List.set_cons_succ]
              refine wpAnyH_ready (rs := [13]) (by kernel_rfl) (by simp) ?_
              refine AllReadyH.cons (o := ⟨none, _, _, _, _, _⟩) rfl (fun K hK => ?_) AllReadyH.nil
              refine wpOp_store_part (o := ⟨none, _, _, _, _, _⟩) (by rfl) 29 (.tmp 10) (.tmp 47) rfl 0 [] (bvs (zs 32)) (bvs (sidesN c.key h (pathD c.wd c.key d0 (nearP c.wd p) h) (nearP c.wd p h)).1) [] rfl rfl (blk_in HZ11_10.out) rfl (by simp [bvs, zs, HSD.out.2.1]) (by rw [size_dig]; simp [bvs, HSD.out.2.1]) (fun u hu => bvs_oneCell _ u hu) ?_
              intro z1 hz1 gz1
              have HBz1 : Hid (Below w7.heap.size w7 z1) := HB10.out.grown gz1 HB10.out.size fun k hk => by injection hk with hk; have := HG11_10.out; omega
              have HZb : Hid (BlkB z1 y6.heap.size 29 (zs 32)) := (Touch.one gz1).blk HZ12_10.out (Ne.symm HNE9.out)
              refine hK.out _ _ (HSS.out z1 HBz1.out) (fun hH => ?_)
              clear hK
              refine wpAnyH_ready (rs := [14]) (by kernel_rfl) (by simp) ?_
              refine AllReadyH.cons (o := ⟨none, _, _, _, _, _⟩) rfl (fun K hK => ?_) AllReadyH.nil
              refine wpOp_store_part (o := ⟨none, _, _, _, _, _⟩) (by rfl) 29 (.tmp 11) (.tmp 48) rfl 0 [] (bvs (zs 32)) (bvs (sidesN c.key h (pathD c.wd c.key d0 (nearP c.wd p) h) (nearP c.wd p h)).2) [] rfl rfl (blk_in HZb.out) rfl (by simp [bvs, zs, HSD.out.2.2.2]) (by rw [size_dig]; simp [bvs, HSD.out.2.2.2]) (fun u hu => bvs_oneCell _ u hu) ?_
              intro z2 hz2 gz2
              have HBz2 : Hid (Below w7.heap.size w7 z2) := HBz1.out.grown gz2 HBz1.out.size fun k hk => by injection hk with hk; have := HG12_10.out; omega
              refine hK.out _ _ (HSS.out z2 HBz2.out) (fun hH => ?_)
              clear hK
              refine wpAnyH_done (by kernel_rfl) ?_ _
              go_wp2_with fail
              go_meet
              case rel => exact ⟨w7d.heap.size, y6.heap.size, rfl, rfl, rfl, ⟨HL11_10.out, HL12_10.out⟩, HBz2.out, (Touch.one gz2).blk (blk_out hz1) HNE9.out, blk_out hz2⟩
          · refine wpOp_alloc (o := ⟨some 11, _, _, _, _, _⟩) (by rfl) 29 rfl _ _ info_dig ?_
            intro y11 hz11 hb11 hs11
            have hb11 := hb11.out
            have HB11 : Hid (Below w7.heap.size w7 y11) := HB0.out.trans (hb11.mono HB0.out.size)
            have HZ12_11 : Hid (BlkB y11 w7d.heap.size 29 (zs 32)) := hz11.out
            have HL12_11 : Hid (M < w7d.heap.size) := by have h1 := HB0.out.size; have h2 := HMw.out; show _ < _; omega
            have HG12_11 : Hid (w7.heap.size ≤ w7d.heap.size) := by have h1 := HB0.out.size; have h2 := HMw.out; show _ ≤ _; omega
            refine hK.out _ _ (HSS.out y11 HB11.out) (fun hH => ?_)
            clear hK hb11
            refine wpAnyH_ready (rs := [7, 11]) (by kernel_rfl) (by simp) ?_
            refine AllReadyH.cons rfl (fun K hK => ?_) (AllReadyH.cons rfl (fun K hK => ?_) AllReadyH.nil)
            · go_simp
              go_at_call 56
              refine (sides_any c.key (pathD c.wd c.key d0 (nearP c.wd p) h) (nearP c.wd p h) h y11 HKL.out.2 HKL.out.1 (HPD.out h).2 (HPD.out h).1 HNF.out.2 HNF.out.1 hlt).mono ?_
              rintro e y12 ⟨rfl, hb12⟩
              have HB12 : Hid (Below w7.heap.size w7 y12) := HB11.out.trans (hb12.mono HB11.out.size)
              have HZ12_12 : Hid (BlkB y12 w7d.heap.size 29 (zs 32)) := BlkIs.below HZ12_11.out hb12
              have HL12_12 : Hid (M < w7d.heap.size) := HL12_11
              have HG12_12 : Hid (w7.heap.size ≤ w7d.heap.size) := HG12_11
              refine hK.out _ _ (HSS.out y12 HB12.out) (fun hH => ?_)
              clear hK hb12
              refine wpAnyH_take (i := 8) (oi := ⟨some 38, _, _, _, _, _⟩) rfl (by kernel_rfl) (by kernel_rfl) (by kernel_rfl) (fun _ _ _ h => h) (Or.inl ⟨by rfl, fun w hw => by ((try dsimp only at hw); go_split_ands; go_simp; with_reducible rfl)⟩) (by assumption) ?_
              try simp only [Act.put, List.setIfInBounds_toArray, List.set_cons_zero, List.set_cons_succ]
              refine wpAnyH_take (i := 9) (oi := ⟨some 47, _, _, _, _, _⟩) rfl (by kernel_rfl) (by kernel_rfl) (by kernel_rfl) (fun _ _ _ h => h) (Or.inl ⟨by rfl, fun w hw => by ((try dsimp only at hw); go_split_ands; go_simp; with_reducible rfl)⟩) (by assumption) ?_
              try simp only [Act.put, List.setIfInBounds_toArray, List.set_cons_zero, List.set_cons_succ]
              refine wpAnyH_take (i := 10) (oi := ⟨some 48, _, _, _, _, _⟩) rfl (by kernel_rfl) (by kernel_rfl) (by kernel_rfl) (fun _ _ _ h => h) (Or.inl ⟨by rfl, fun w hw => by ((try dsimp only at hw); go_split_ands; go_simp; with_reducible rfl)⟩) (by assumption) ?_
              try simp only [Act.put, List.setIfInBounds_toArray, List.set_cons_zero, List.set_cons_succ]
              refine wpAnyH_ready (rs := [11]) (by kernel_rfl) (by simp) ?_
              refine AllReadyH.cons rfl (fun K hK => ?_) AllReadyH.nil
              refine wpOp_alloc (o := ⟨some 10, _, _, _, _, _⟩) (by rfl) 29 rfl _ _ info_dig ?_
              intro y13 hz13 hb13 hs13
              have hb13 := hb13.out
              have HB13 : Hid (Below w7.heap.size w7 y13) := HB12.out.trans (hb13.mono HB12.out.size)
              have HZ12_13 : Hid (BlkB y13 w7d.heap.size 29 (zs 32)) := BlkIs.below HZ12_12.out hb13
              have HL12_13 : Hid (M < w7d.heap.size) := HL12_12
              have HG12_13 : Hid (w7.heap.size ≤ w7d.heap.size) := HG12_12
              have HZ11_13 : Hid (BlkB y13 y12.heap.size 29 (zs 32)) := hz13.out
              have HL11_13 : Hid (M < y12.heap.size) := by have h1 := HB12.out.size; have h2 := HMw.out; show _ < _; omega
              have HG11_13 : Hid (w7.heap.size ≤ y12.heap.size) := by have h1 := HB12.out.size; have h2 := HMw.out; show _ ≤ _; omega
              have HNE13 : Hid (y12.heap.size ≠ w7d.heap.size) := by have := HZ12_12.out.lt; show _ ≠ _; omega
              refine hK.out _ _ (HSS.out y13 HB13.out) (fun hH => ?_)
              clear hK hb13
              refine wpAnyH_ready (rs := [13]) (by kernel_rfl) (by simp) ?_
              refine AllReadyH.cons (o := ⟨none, _, _, _, _, _⟩) rfl (fun K hK => ?_) AllReadyH.nil
              refine wpOp_store_part (o := ⟨none, _, _, _, _, _⟩) (by rfl) 29 (.tmp 10) (.tmp 47) rfl 0 [] (bvs (zs 32)) (bvs (sidesN c.key h (pathD c.wd c.key d0 (nearP c.wd p) h) (nearP c.wd p h)).1) [] rfl rfl (blk_in HZ11_13.out) rfl (by simp [bvs, zs, HSD.out.2.1]) (by rw [size_dig]; simp [bvs, HSD.out.2.1]) (fun u hu => bvs_oneCell _ u hu) ?_
              intro z1 hz1 gz1
              have HBz1 : Hid (Below w7.heap.size w7 z1) := HB13.out.grown gz1 HB13.out.size fun k hk => by injection hk with hk; have := HG11_13.out; omega
              have HZb : Hid (BlkB z1 w7d.heap.size 29 (zs 32)) := (Touch.one gz1).blk HZ12_13.out (Ne.symm HNE13.out)
              refine hK.out _ _ (HSS.out z1 HBz1.out) (fun hH => ?_)
              clear hK
              refine wpAnyH_ready (rs := [14]) (by kernel_rfl) (by simp) ?_
              refine AllReadyH.cons (o := ⟨none, _, _, _, _, _⟩) rfl (fun K hK => ?_) AllReadyH.nil
              refine wpOp_store_part (o := ⟨none, _, _, _, _, _⟩) (by rfl) 29 (.tmp 11) (.tmp 48) rfl 0 [] (bvs (zs 32)) (bvs (sidesN c.key h (pathD c.wd c.key d0 (nearP c.wd p) h) (nearP c.wd p h)).2) [] rfl rfl (blk_in HZb.out) rfl (by simp [bvs, zs, HSD.out.2.2.2]) (by rw [size_dig]; simp [bvs, HSD.out.2.2.2]) (fun u hu => bvs_oneCell _ u hu) ?_
              intro z2 hz2 gz2
              have HBz2 : Hid (Below w7.heap.size w7 z2) := HBz1.out.grown gz2 HBz1.out.size fun k hk => by injection hk with hk; have := HG12_13.out; omega
              refine hK.out _ _ (HSS.out z2 HBz2.out) (fun hH => ?_)
              clear hK
              refine wpAnyH_done (by kernel_rfl) ?_ _
              go_wp2_with fail
              go_meet
              case rel => exact ⟨y12.heap.size, w7d.heap.size, rfl, rfl, rfl, ⟨HL11_13.out, HL12_13.out⟩, HBz2.out, (Touch.one gz2).blk (blk_out hz1) HNE13.out, blk_out hz2⟩
            · refine wpOp_alloc (o := ⟨some 10, _, _, _, _, _⟩) (by rfl) 29 rfl _ _ info_dig ?_
              intro y14 hz14 hb14 hs14
              have hb14 := hb14.out
              have HB14 : Hid (Below w7.heap.size w7 y14) := HB11.out.trans (hb14.mono HB11.out.size)
              have HZ12_14 : Hid (BlkB y14 w7d.heap.size 29 (zs 32)) := BlkIs.below HZ12_11.out hb14
              have HL12_14 : Hid (M < w7d.heap.size) := HL12_11
              have HG12_14 : Hid (w7.heap.size ≤ w7d.heap.size) := HG12_11
              have HZ11_14 : Hid (BlkB y14 y11.heap.size 29 (zs 32)) := hz14.out
              have HL11_14 : Hid (M < y11.heap.size) := by have h1 := HB11.out.size; have h2 := HMw.out; show _ < _; omega
              have HG11_14 : Hid (w7.heap.size ≤ y11.heap.size) := by have h1 := HB11.out.size; have h2 := HMw.out; show _ ≤ _; omega
              have HNE14 : Hid (y11.heap.size ≠ w7d.heap.size) := by have := HZ12_11.out.lt; show _ ≠ _; omega
              refine hK.out _ _ (HSS.out y14 HB14.out) (fun hH => ?_)
              clear hK hb14
              refine wpAnyH_ready (rs := [7]) (by kernel_rfl) (by simp) ?_
              refine AllReadyH.cons rfl (fun K hK => ?_) AllReadyH.nil
              go_simp
              go_at_call 56
              refine (sides_any c.key (pathD c.wd c.key d0 (nearP c.wd p) h) (nearP c.wd p h) h y14 HKL.out.2 HKL.out.1 (HPD.out h).2 (HPD.out h).1 HNF.out.2 HNF.out.1 hlt).mono ?_
              rintro e y15 ⟨rfl, hb15⟩
              have HB15 : Hid (Below w7.heap.size w7 y15) := HB14.out.trans (hb15.mono HB14.out.size)
              have HZ11_15 : Hid (BlkB y15 y11.heap.size 29 (zs 32)) := BlkIs.below HZ11_14.out hb15
              have HL11_15 : Hid (M < y11.heap.size) := HL11_14
              have HG11_15 : Hid (w7.heap.size ≤ y11.heap.size) := HG11_14
              have HZ12_15 : Hid (BlkB y15 w7d.heap.size 29 (zs 32)) := BlkIs.below HZ12_14.out hb15
              have HL12_15 : Hid (M < w7d.heap.size) := HL12_14
              have HG12_15 : Hid (w7.heap.size ≤ w7d.heap.size) := HG12_14
              refine hK.out _ _ (HSS.out y15 HB15.out) (fun hH => ?_)
              clear hK hb15
              refine wpAnyH_take (i := 8) (oi := ⟨some 38, _, _, _, _, _⟩) rfl (by kernel_rfl) (by kernel_rfl) (by kernel_rfl) (fun _ _ _ h => h) (Or.inl ⟨by rfl, fun w hw => by ((try dsimp only at hw); go_split_ands; go_simp; with_reducible rfl)⟩) (by assumption) ?_
              try simp only [Act.put, List.setIfInBounds_toArray, List.set_cons_zero, List.set_cons_succ]
              refine wpAnyH_take (i := 9) (oi := ⟨some 47, _, _, _, _, _⟩) rfl (by kernel_rfl) (by kernel_rfl) (by kernel_rfl) (fun _ _ _ h => h) (Or.inl ⟨by rfl, fun w hw => by ((try dsimp only at hw); go_split_ands; go_simp; with_reducible rfl)⟩) (by assumption) ?_
              try simp only [Act.put, List.setIfInBounds_toArray, List.set_cons_zero, List.set_cons_succ]
              refine wpAnyH_take (i := 10) (oi := ⟨some 48, _, _, _, _, _⟩) rfl (by kernel_rfl) (by kernel_rfl) (by kernel_rfl) (fun _ _ _ h => h) (Or.inl ⟨by rfl, fun w hw => by ((try dsimp only at hw); go_split_ands; go_simp; with_reducible rfl)⟩) (by assumption) ?_
              try simp only [Act.put, List.setIfInBounds_toArray, List.set_cons_zero, List.set_cons_succ]
              refine wpAnyH_ready (rs := [13]) (by kernel_rfl) (by simp) ?_
              refine AllReadyH.cons (o := ⟨none, _, _, _, _, _⟩) rfl (fun K hK => ?_) AllReadyH.nil
              refine wpOp_store_part (o := ⟨none, _, _, _, _, _⟩) (by rfl) 29 (.tmp 10) (.tmp 47) rfl 0 [] (bvs (zs 32)) (bvs (sidesN c.key h (pathD c.wd c.key d0 (nearP c.wd p) h) (nearP c.wd p h)).1) [] rfl rfl (blk_in HZ11_15.out) rfl (by simp [bvs, zs, HSD.out.2.1]) (by rw [size_dig]; simp [bvs, HSD.out.2.1]) (fun u hu => bvs_oneCell _ u hu) ?_
              intro z1 hz1 gz1
              have HBz1 : Hid (Below w7.heap.size w7 z1) := HB15.out.grown gz1 HB15.out.size fun k hk => by injection hk with hk; have := HG11_15.out; omega
              have HZb : Hid (BlkB z1 w7d.heap.size 29 (zs 32)) := (Touch.one gz1).blk HZ12_15.out (Ne.symm HNE14.out)
              refine hK.out _ _ (HSS.out z1 HBz1.out) (fun hH => ?_)
              clear hK
              refine wpAnyH_ready (rs := [14]) (by kernel_rfl) (by simp) ?_
              refine AllReadyH.cons (o := ⟨none, _, _, _, _, _⟩) rfl (fun K hK => ?_) AllReadyH.nil
              refine wpOp_store_part (o := ⟨none, _, _, _, _, _⟩) (by rfl) 29 (.tmp 11) (.tmp 48) rfl 0 [] (bvs (zs 32)) (bvs (sidesN c.key h (pathD c.wd c.key d0 (nearP c.wd p) h) (nearP c.wd p h)).2) [] rfl rfl (blk_in HZb.out) rfl (by simp [bvs, zs, HSD.out.2.2.2]) (by rw [size_dig]; simp [bvs, HSD.out.2.2.2]) (fun u hu => bvs_oneCell _ u hu) ?_
              intro z2 hz2 gz2
              have HBz2 : Hid (Below w7.heap.size w7 z2) := HBz1.out.grown gz2 HBz1.out.size fun k hk => by injection hk with hk; have := HG12_15.out; omega
              refine hK.out _ _ (HSS.out z2 HBz2.out) (fun hH => ?_)
              clear hK
              refine wpAnyH_done (by kernel_rfl) ?_ _
              go_wp2_with fail
              go_meet
              case rel => exact ⟨y11.heap.size, w7d.heap.size, rfl, rfl, rfl, ⟨HL11_15.out, HL12_15.out⟩, HBz2.out, (Touch.one gz2).blk (blk_out hz1) HNE14.out, blk_out hz2⟩
        case rest =>
          obtain ⟨a1, a2, rfl, rfl, rfl, HNA, HBc, HA1, HA2⟩ := hcut
          have HRc : Hid (Ready wc g (c.blanked b7) p) := HR7.out.below HBc.out
          have HJc : Hid (J (h + 1) U7 wc) := HE.out.keep HJ7.out (Touch.ofBelow HBc.out) fun _ h => h.elim
          have HTc : Hid (Touch (fun B => U B ∨ B = g) w wc) := HT7.out.trans ((Touch.ofBelow HBc.out).mono fun _ _ h => h.elim)
          have HDc : Hid (BlkB wc w.heap.size 29 (pathD c.wd c.key d0 (nearP c.wd p) h)) := BlkIs.below HD7.out HBc.out
          have HZc : Hid (BlkB wc (w.heap.size + 1) 29 (zs 32)) := BlkIs.below HZ7.out HBc.out
          clear HR7 HJ7 HT7 HD7 HZ7 HX7 HBc
          have HCK : Hid (BlkIs wc g 59 (c.blanked b7).C.toArray) := HRc.out.ck
          go_upto_region 11 with fail
          have hu := und_dig
          have hsz1 : (Tryd.prog.info? 29).map (·.size) = some (bvs (sidesN c.key h (pathD c.wd c.key d0 (nearP c.wd p) h) (nearP c.wd p h)).1).length := by rw [size_dig]; simp [bvs, HSD.out.2.1]
          have hsz2 : (Tryd.prog.info? 29).map (·.size) = some (bvs (sidesN c.key h (pathD c.wd c.key d0 (nearP c.wd p) h) (nearP c.wd p h)).2).length := by rw [size_dig]; simp [bvs, HSD.out.2.2.2]
          refine wp_region_held_drew (S := fun w' => w'.cell? ⟨g, 0, none⟩ = some (.int .i64 c.wd) ∧ w'.rangeAt a1 0 (bvs (sidesN c.key h (pathD c.wd c.key d0 (nearP c.wd p) h) (nearP c.wd p h)).1) ∧ w'.rangeAt a2 0 (bvs (sidesN c.key h (pathD c.wd c.key d0 (nearP c.wd p) h) (nearP c.wd p h)).2)) (by kernel_rfl) ⟨(ck_cells (c := c.blanked b7) HRc.out.ck HRc.out.ok).1, BlkIs.range HA1.out, BlkIs.range HA2.out⟩ fun hH => ?_
          replace HRc : Hid (Ready wc.drew g (c.blanked b7) p) := HRc.out.below (drewN_below (Below.refl _ _) 1)
          replace HJc : Hid (J (h + 1) U7 wc.drew) := HE.out.keep HJc.out (Touch.ofBelow (drewN_below (Below.refl _ _) 1)) fun _ h => h.elim
          replace HTc : Hid (Touch (fun B => U B ∨ B = g) w wc.drew) := HTc.out.drewN 1
          replace HDc : Hid (BlkB wc.drew w.heap.size 29 (pathD c.wd c.key d0 (nearP c.wd p) h)) := HDc.out
          replace HZc : Hid (BlkB wc.drew (w.heap.size + 1) 29 (zs 32)) := HZc.out
          replace HA1 : Hid (BlkB wc.drew a1 29 (sidesN c.key h (pathD c.wd c.key d0 (nearP c.wd p) h) (nearP c.wd p h)).1) := HA1.out
          replace HA2 : Hid (BlkB wc.drew a2 29 (sidesN c.key h (pathD c.wd c.key d0 (nearP c.wd p) h) (nearP c.wd p h)).2) := HA2.out
          clear HCK
          generalize wc.drew = v1 at *
          refine wpAnyH_take (i := 0) (oi := ⟨some 49, _, _, _, _, _⟩) rfl (by kernel_rfl) (by kernel_rfl) (by kernel_rfl) (fun _ _ _ h => h) (Or.inl ⟨by rfl, fun w hw => by ((try dsimp only at hw); go_split_ands; go_simp; with_reducible rfl)⟩) (by assumption) ?_
          try simp only [Act.put, List.setIfInBounds_toArray, List.set_cons_zero, List.set_cons_succ]
          refine wpAnyH_take (i := 1) (oi := ⟨some 50, _, _, _, _, _⟩) rfl (by kernel_rfl) (by kernel_rfl) (by kernel_rfl) (fun _ _ _ h => h) (Or.inl ⟨by rfl, fun w hw => by ((try dsimp only at hw); go_split_ands; go_simp; with_reducible rfl)⟩) (by assumption) ?_
          try simp only [Act.put, List.setIfInBounds_toArray, List.set_cons_zero, List.set_cons_succ]
          refine wpAnyH_take (i := 2) (oi := ⟨some 51, _, _, _, _, _⟩) rfl (by kernel_rfl) (by kernel_rfl) (by kernel_rfl) (fun _ _ _ h => h) (Or.inl ⟨by rfl, fun w hw => by ((try dsimp only at hw); go_split_ands; go_simp; with_reducible rfl)⟩) (by assumption) ?_
          try simp only [Act.put, List.setIfInBounds_toArray, List.set_cons_zero, List.set_cons_succ]
          refine wpAnyH_take (i := 3) (oi := ⟨some 52, _, _, _, _, _⟩) rfl (by kernel_rfl) (by kernel_rfl) (by kernel_rfl) (fun _ _ _ h => h) (Or.inl ⟨by rfl, fun w hw => by ((try dsimp only at hw); go_split_ands; go_simp; with_reducible rfl)⟩) (by assumption) ?_
          try simp only [Act.put, List.setIfInBounds_toArray, List.set_cons_zero, List.set_cons_succ]
          refine wpAnyH_take (i := 4) (oi := ⟨some 53, _, _, _, _, _⟩) rfl (by kernel_rfl) (by kernel_rfl) (by kernel_rfl) (fun _ _ _ h => h) (yieldsIf_load_mid (by rfl) _ _ rfl _ _ rfl _ _ (fun w hw => by (try dsimp only at hw); go_split_ands; assumption) (by assumption) rfl (by assumption)) (by assumption) ?_
          try simp only [Act.put, List.setIfInBounds_toArray, List.set_cons_zero, List.set_cons_succ]
          refine wpAnyH_take (i := 5) (oi := ⟨some 54, _, _, _, _, _⟩) rfl (by kernel_rfl) (by kernel_rfl) (by kernel_rfl) (fun _ _ _ h => h) (yieldsIf_load_mid (by rfl) _ _ rfl _ _ rfl _ _ (fun w hw => by (try dsimp only at hw); go_split_ands; assumption) (by assumption) rfl (by assumption)) (by assumption) ?_
          try simp only [Act.put, List.setIfInBounds_toArray, List.set_cons_zero, List.set_cons_succ]
          clear hH hu hsz1 hsz2
          refine wpAnyH_ready (rs := [6]) (by kernel_rfl) (by simp) ?_
          refine AllReadyH.cons rfl (fun K hK => ?_) (AllReadyH.nil)
          go_simp
          go_at_call 57
          refine (branch_any c.wd _ _ v1 HSD.out.1 HSD.out.2.1 HSD.out.2.2.1 HSD.out.2.2.2 HRc.out.tabs).mono ?_
          rintro e v2 ⟨rfl, hb2⟩
          rw [← HPS.out h]
          have HR8 : Hid (Ready v2 g (c.blanked b7) p) := HRc.out.below hb2
          have HJ8 : Hid (J (h + 1) U7 v2) := HE.out.keep HJc.out (Touch.ofBelow hb2) fun _ h => h.elim
          have HT8 : Hid (Touch (fun B => U B ∨ B = g) w v2) := HTc.out.trans ((Touch.ofBelow hb2).mono fun _ _ h => h.elim)
          have HD8 : Hid (BlkB v2 w.heap.size 29 (pathD c.wd c.key d0 (nearP c.wd p) h)) := BlkIs.below HDc.out hb2
          have HZ8 : Hid (BlkB v2 (w.heap.size + 1) 29 (zs 32)) := BlkIs.below HZc.out hb2
          have HA18 : Hid (BlkB v2 a1 29 (sidesN c.key h (pathD c.wd c.key d0 (nearP c.wd p) h) (nearP c.wd p h)).1) := BlkIs.below HA1.out hb2
          have HA28 : Hid (BlkB v2 a2 29 (sidesN c.key h (pathD c.wd c.key d0 (nearP c.wd p) h) (nearP c.wd p h)).2) := BlkIs.below HA2.out hb2
          refine hK.out _ _ ⟨(ck_cells (c := c.blanked b7) HR8.out.ck HR8.out.ok).1, BlkIs.range HA18.out, BlkIs.range HA28.out⟩ (fun hH => ?_)
          clear hK hb2 HRc HJc HTc HDc HZc HA1 HA2
          refine wpAnyH_ready (rs := [7]) (by kernel_rfl) (by simp) ?_
          refine AllReadyH.cons (o := ⟨none, _, _, _, _, _⟩) rfl (fun K hK => ?_) AllReadyH.nil
          refine wpOp_store_part (o := ⟨none, _, _, _, _, _⟩) (by rfl) 29 (.tmp 4) (.tmp 55) rfl 0 [] (bvs (pathD c.wd c.key d0 (nearP c.wd p) h)) (bvs (pathD c.wd c.key d0 (nearP c.wd p) (h + 1))) [] rfl rfl (blk_in HD8.out) rfl (by simp [bvs, (HPD.out _).1]) (by rw [size_dig]; simp [bvs, (HPD.out _).1]) (fun u hu => bvs_oneCell _ u hu) ?_
          intro v3 h3 g3
          have ht3 : Touch (fun B => B = w.heap.size) v2 v3 := Touch.one g3
          have HFD : Hid (Far (fun B => B = w.heap.size) g (c.blanked b7)) := by
            have hr0 := HR.out
            refine ⟨by have := HGw.out; omega, fun B hB e => by have := (row_lt hr0.sums hB).2; omega, fun B hB e => ?_, by have := hr0.tabs.lt.1; omega, by have := hr0.tabs.lt.2; omega⟩
            rcases HNB7.out with h1 | ⟨B', h1, h2⟩
            · have h3 : b7.ownBlock = some B := hB
              rw [h1] at h3
              have := hr0.blank.own B h3
              omega
            · have h3 : b7.ownBlock = some B := hB
              rw [h2] at h3
              injection h3 with h3
              have h4 : B' = B := h3
              have := HS.out
              omega
          have HR9 : Hid (Ready v3 g (c.blanked b7) p) := HR8.out.far ht3 HFD.out
          have HJ9 : Hid (J (h + 1) U7 v3) := HE.out.keep HJ8.out ht3 fun B hB h1 => HN17.out (hB ▸ h1)
          have HT9 : Hid (Touch (fun B => U B ∨ B = g) w v3) := HT8.out.andThen ht3 fun B hB h1 => by omega
          have HD9 : Hid (BlkB v3 w.heap.size 29 (pathD c.wd c.key d0 (nearP c.wd p) (h + 1))) := blk_out h3
          have HZ9 : Hid (BlkB v3 (w.heap.size + 1) 29 (zs 32)) := ht3.blk HZ8.out (by omega)
          refine hK.out _ _ ⟨(ck_cells (c := c.blanked b7) HR9.out.ck HR9.out.ok).1, BlkIs.range (ht3.blk HA18.out (by have := HNA.out; have := HW3.out; omega)), BlkIs.range (ht3.blk HA28.out (by have := HNA.out; have := HW3.out; omega))⟩ (fun hH => ?_)
          clear hK hH h3 g3 ht3
          refine wpAnyH_done (by kernel_rfl) ?_ _
          go_wp2_with fail
          go_roundg (256 - (h + 1))
          case measure => omega
          case rel => exact ⟨h + 1, by omega, rfl, by go_num, by rw [← HQ.out], ⟨U7, b7, HJ9.out, HR9.out, HNB7.out, HNU7.out, HF7.out, HN17.out, HN27.out⟩, HT9.out, HD9.out, HZ9.out⟩
    · have hh256 : h = 256 := by omega
      subst hh256
      obtain ⟨Ui, bi, hj, hr, hnb, hnu, hf, hn1, hn2⟩ := HI.out
      have HPE := Lib.hid (HPD.out 256)
      go_wp2_with (first
        | (refine wpList_load_arr (o := ⟨some 57, _, _, _, _, _⟩) (by rfl) 29 (.tmp 4) rfl ⟨w.heap.size, 0, none⟩ 32 (pathD c.wd c.key d0 (nearP c.wd p) 256) rfl (HD.out.whole HPE.out.2 HPE.out.1) (by omega) (by kernel_rfl) (by kernel_rfl) ?_)
        | (refine wpList_store_part (o := ⟨none, _, _, _, _, _⟩) (by rfl) 29 (.tmp 6) (.tmp 57) rfl 0 [] (bvs (zs 32)) (bvs (pathD c.wd c.key d0 (nearP c.wd p) 256)) [] rfl rfl (blk_in HZ.out) rfl (by simp [bvs, zs, HPE.out.1]) (by rw [size_dig]; simp [bvs, HPE.out.1]) (fun u hu => bvs_oneCell _ u hu) ?_; intro vf hvf gvf))
      have htf : Touch (fun B => B = w.heap.size + 1) wr vf := Touch.one gvf
      have hr0 := HR.out
      have hff : Far (fun B => B = w.heap.size + 1) g (c.blanked bi) := by
        refine ⟨by have := hr0.ck.lt; omega, fun B hB e => by have := (row_lt hr0.sums hB).2; omega, fun B hB e => ?_, by have := hr0.tabs.lt.1; omega, by have := hr0.tabs.lt.2; omega⟩
        rcases hnb with h1 | ⟨B', h1, h2⟩
        · have h3 : bi.ownBlock = some B := hB
          rw [h1] at h3
          have := hr0.blank.own B h3
          omega
        · have h3 : bi.ownBlock = some B := hB
          rw [h2] at h3
          injection h3 with h3
          have h4 : B' = B := h3
          have := HS.out
          omega
      have hnb0 : NewB w b bi := by
        rcases hnb with h1 | ⟨B', h1, h2⟩
        · exact .inl h1
        · exact .inr ⟨B', by have := HS.out; omega, h2⟩
      exact arr_ret rfl rfl (blk_out hvf) HPE.out.1 row_dig size_dig rfl ⟨rfl, Ui, bi, HE.out.keep hj htf (fun B hB h1 => hn2 (hB ▸ h1)), hr.far htf hff, hnb0, HT.out.andThen htf (fun B hB h1 => by omega), hnu, hf⟩
end Go.Proofs.YtfnlhfaihoojfaaDoor
