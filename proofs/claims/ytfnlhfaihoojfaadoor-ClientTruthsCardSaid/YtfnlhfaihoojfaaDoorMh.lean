/- Leads, Through, Stages, Hold (merged) -/
import Derived.Test.YtfnlhfaihoojfaaDoorClimb2
import Derived.Laws.EntriesVeiled
/- client: leads. -/
namespace Go.Proofs.YtfnlhfaihoojfaaDoor
open Go.RowKit
theorem entersF {P : Program} {fn : FuncId} {f : Func} (hf : P.funcs[fn]? = some f) (hb : f.body.isNone = false) (hn : (f.name == "runtime.NumGoroutine") = false) (args : Array Value) (w : World) : (callFunc fn args).run P w = .ok (.enter fn args) w := by
  have hb' : ¬ f.body = none := fun h => by rw [h] at hb; cases hb
  have hn' : ¬ f.name = "runtime.NumGoroutine" := by simpa using hn
  unfold callFunc
  simp [Sem.run_bind, hf, hb', hn']
theorem noop_any (h : Int) (d n : List Nat) (w : World) : Calls Tryd.prog 64 #[.int .i64 h, .agg (bvs d).toArray, .agg (bvs n).toArray] w fun e w' => e = .returned (.tuple #[]) ∧ Below w.heap.size w w' := by
  go_enter Tryd.func64, Tryd.ntmps64
  go_wp2_with fail
  exact bodyPost_end (results_none rfl _ _ _) rfl ⟨rfl, ((Below.refl _ _).alloc (Nat.le_refl _) _).alloc (by simp) _⟩
theorem eye_none (g : Nat) (c : Ck) (p : Pr) (ds : Nat → List Nat) : Eye 64 #[] g c p ds (fun _ U _ => ∀ B, ¬ U B) where
  enters := entersF Tryd.func64 (by kernel_rfl) (by kernel_rfl)
  lt := fun h B hB => absurd hB (h B)
  keep := fun h _ _ => h
  call := fun h U b w _ hj hr hf => (noop_any h (ds h) (nearP c.wd p h) w).mono fun _ w' ⟨h1, h2⟩ => ⟨h1, U, b, hj, hr.below h2, .inl rfl, (Touch.ofBelow h2).mono fun _ _ h => h.elim, NewU.refl _ _, hf⟩
theorem far_none {U : Nat → Prop} (h : ∀ B, ¬ U B) (g : Nat) (c : Ck) : Far U g c := ⟨h _, fun B _ => h B, fun B _ => h B, h _, h _⟩
def Ck.ended (c : Ck) (fin : List Nat) : Ck := { c with fin := fin }
theorem Ready.fin {w w' : World} {g : Nat} {c : Ck} {p : Pr} {fin : List Nat} (h : Ready w g c p) (ht : Touch (fun B => B = g) w w') (hc : CkIs w' g (c.ended fin)) (hl : fin.length = 32) (hB : IsB fin) : Ready w' g (c.ended fin) p := by
  refine ⟨hc, ⟨h.ok.kl, h.ok.kB, h.ok.rl, h.ok.rB, h.ok.bl, h.ok.bB, hl, hB⟩, ?_, ht.row h.sums h.notG, h.pok, h.bits, h.found, ht.tabs h.tabs h.g1 h.g2, h.g1, h.g2⟩
  rcases h.blank with h1 | ⟨B, h1, h2⟩
  · exact .inl h1
  · exact .inr ⟨B, h1, ht.blk h2 (blk_ne (cs := (bvs (flatE c.wd 256)).toArray) (cs' := c.C.toArray) (t := 29) (t' := 59) h2 h.ck (by decide))⟩
/-- What stands behind a look at the root. -/
def Led (g : Nat) (c : Ck) (p : Pr) (w : World) (e : Ending) (w' : World) : Prop :=
  e = .returned (.int .i64 (if pathP c.wd c.key p 256 = c.root then 0 else 131)) ∧ (∃ b fin, Ready w' g ((c.blanked b).ended fin) p ∧ NewB w c.blank b) ∧ Touch (fun B => B = g) w w'
set_option maxRecDepth 20000 in
set_option maxHeartbeats 2000000 in
theorem leads_any (g : Nat) (c : Ck) (p : Pr) (w : World) (hr : Ready w g c p) (hv : ValIs w c.v p.val) :
    Calls Tryd.prog 42 #[.pointer (some ⟨g, 0, none⟩)] w (Led g c p w) := by
  have HR := Lib.hid hr
  have HV := Lib.hid hv
  clear hr hv
  go_enter Tryd.func42, Tryd.ntmps42
  go_wp2_with fail
  refine (first_any g c p.val w HR.out.ck HR.out.ok HV.out HR.out.tabs).mono ?_
  rintro e w1 ⟨rfl, hb1⟩
  have HR1 : Hid (Ready w1 g c p) := HR.out.below hb1
  have HT1 : Hid (Touch (fun B => B = g) w w1) := (Touch.ofBelow hb1).mono fun _ _ h => h.elim
  have HPS : Hid (pathP c.wd c.key p 256 = pathD c.wd c.key (nodeD c.wd (startT c.key c.f p.val)) (nearP c.wd p) 256) := by
    show _ = _
    unfold pathP
    rw [HR.out.found]
  clear hb1
  go_wp2_with fail
  refine (climb_any 64 #[] g c p (nodeD c.wd (startT c.key c.f p.val)) _ (fun _ => False) c.blank w1 (eye_none g c p _) (fun _ h => h) HR1.out (far_none (fun _ h => h) _ _) (nodeD_length _ _) (nodeD_isB _ _)).mono ?_
  rintro e w2 ⟨rfl, U2, b2, hj2, hr2, hnb2, ht2, hnu2, hf2⟩
  have HR2 : Hid (Ready w2 g (c.blanked b2) p) := hr2
  have HT2 : Hid (Touch (fun B => B = g) w w2) := HT1.out.trans (ht2.mono fun B _ h => h.elim (fun h => h.elim) id)
  have HNB : Hid (NewB w c.blank b2) := (show NewB w c.blank c.blank from .inl rfl).trans hnb2 HT1.out.size
  rw [← HPS.out]
  obtain ⟨P, HPP⟩ : ∃ P, Hid (P = pathP c.wd c.key p 256) := ⟨_, rfl⟩
  have HPL : Hid (P.length = 32 ∧ IsB P) := by
    show _ ∧ _
    rw [HPP.out, pathP_text]
    exact ⟨nodeD_length _ _, nodeD_isB _ _⟩
  rw [← HPP.out]
  have hci : BlkIs w2 g 59 (((c.blanked b2).x66 ++ prC c.f c.v c.bits c.s) ++ (bvs c.fin ++ [b2])).toArray := by
    have h : BlkIs w2 g _ (c.blanked b2).C.toArray := HR2.out.ck
    rw [Ck.byFin] at h
    exact h
  have HCI := Lib.hid hci
  have hx66 : ((c.blanked b2).x66 ++ prC c.f c.v c.bits c.s).length = 101 := by rw [List.length_append, Ck.x66_length HR2.out.ok, prC_length HR.out.ok.bl]
  have HX66 := Lib.hid hx66
  clear hr2 hnb2 ht2 hnu2 hf2 hj2 HR1 HT1 hci hx66
  go_wp2_with (first
    | (refine wpList_store_part (o := ⟨none, _, _, _, _, _⟩) (by rfl) 29 (.tmp 9) (.tmp 7) rfl 101 ((c.blanked b2).x66 ++ prC c.f c.v c.bits c.s) (bvs c.fin) (bvs P) [b2] rfl rfl HCI.out HX66.out (by simp [bvs, HR.out.ok.fl, HPL.out.1]) (by rw [size_dig]; simp [bvs, HPL.out.1]) (fun u hu => bvs_oneCell _ u hu) ?_; intro w3 h3 g3))
  have HT3 : Hid (Touch (fun B => B = g) w w3) := HT2.out.trans (Touch.one g3)
  have h3' : CkIs w3 g ((c.blanked b2).ended P) := by
    show BlkIs _ _ _ (Ck.C _).toArray
    rw [Ck.byFin]
    exact h3
  have HR3 : Hid (Ready w3 g ((c.blanked b2).ended P) p) := HR2.out.fin (Touch.one g3) h3' HPL.out.1 HPL.out.2
  clear h3 g3 h3'
  obtain ⟨qe, hqe⟩ : ∃ qe : Bool, qe = decide (P = c.root) := ⟨_, rfl⟩
  have heq : ∀ w : World, (Op.equalIn 10000 29 (.agg (bvs P).toArray) (.agg (bvs c.root).toArray)).run Tryd.prog w = .ok qe w := fun w => by rw [hqe]; exact dig_cmp w HPL.out.2 HR3.out.ok.rB HPL.out.1 HR3.out.ok.rl
  have HQE := Lib.hid hqe
  clear hqe
  rename_i KK hKK
  have HKK := Lib.hid hKK
  clear hKK
  have hu := und_dig
  have hsz : (Tryd.prog.info? 29).map (·.size) = some (bvs P).length := by rw [size_dig]; simp [bvs, HPL.out.1]
  have hsz2 : (Tryd.prog.info? 29).map (·.size) = some (bvs c.root).length := by rw [size_dig]; simp [bvs, show c.root.length = 32 from HR3.out.ok.rl]
  have hrf : w3.rangeAt g 101 (bvs P) := by
    have h : BlkIs w3 g _ ((c.blanked b2).ended P).C.toArray := HR3.out.ck
    rw [Ck.byFin] at h
    exact h.rangeOf HX66.out
  have hrr : w3.rangeAt g 34 (bvs c.root) := by
    have h : BlkIs w3 g _ ((c.blanked b2).ended P).C.toArray := HR3.out.ck
    rw [Ck.byRoot] at h
    exact h.rangeOf (by simp [bvs, show ((c.blanked b2).ended P).key.length = 32 from HR3.out.ok.kl])
  refine wp_region_held_drew (S := fun w' => w'.rangeAt g 101 (bvs P) ∧ w'.rangeAt g 34 (bvs c.root)) (by kernel_rfl) ⟨hrf, hrr⟩ fun hH => ?_
  clear hrf hrr
  replace HR3 : Hid (Ready w3.drew g ((c.blanked b2).ended P) p) := HR3.out.below (drewN_below (Below.refl _ _) 1)
  replace HT3 : Hid (Touch (fun B => B = g) w w3.drew) := HT3.out.drewN 1
  generalize w3.drew = w4 at *
  refine wpAnyH_take (i := 0) (oi := ⟨some 10, _, _, _, _, _⟩) rfl (by kernel_rfl) (by kernel_rfl) (by kernel_rfl) (fun _ _ _ h => h) (Or.inl ⟨by rfl, fun w hw => by ((try dsimp only at hw); go_split_ands; go_simp; with_reducible rfl)⟩) (by assumption) ?_
  try simp only [Act.put, List.setIfInBounds_toArray, List.set_cons_zero, List.set_cons_succ]
  refine wpAnyH_take (i := 1) (oi := ⟨some 11, _, _, _, _, _⟩) rfl (by kernel_rfl) (by kernel_rfl) (by kernel_rfl) (fun _ _ _ h => h) (Or.inl ⟨by rfl, fun w hw => by ((try dsimp only at hw); go_split_ands; go_simp; with_reducible rfl)⟩) (by assumption) ?_
  try simp only [Act.put, List.setIfInBounds_toArray, List.set_cons_zero, List.set_cons_succ]
  refine wpAnyH_take (i := 2) (oi := ⟨some 12, _, _, _, _, _⟩) rfl (by kernel_rfl) (by kernel_rfl) (by kernel_rfl) (fun _ _ _ h => h) (Or.inl ⟨by rfl, fun w hw => by ((try dsimp only at hw); go_split_ands; go_simp; with_reducible rfl)⟩) (by assumption) ?_
  try simp only [Act.put, List.setIfInBounds_toArray, List.set_cons_zero, List.set_cons_succ]
  refine wpAnyH_take (i := 3) (oi := ⟨some 13, _, _, _, _, _⟩) rfl (by kernel_rfl) (by kernel_rfl) (by kernel_rfl) (fun _ _ _ h => h) (yieldsIf_load_mid (by rfl) _ _ rfl _ _ rfl _ _ (fun w hw => by (try dsimp only at hw); go_split_ands; assumption) (by assumption) rfl (by assumption)) (by assumption) ?_
  try simp only [Act.put, List.setIfInBounds_toArray, List.set_cons_zero, List.set_cons_succ]
  refine wpAnyH_take (i := 4) (oi := ⟨some 14, _, _, _, _, _⟩) rfl (by kernel_rfl) (by kernel_rfl) (by kernel_rfl) (fun _ _ _ h => h) (Or.inl ⟨by rfl, fun w hw => by ((try dsimp only at hw); go_split_ands; go_simp; with_reducible rfl)⟩) (by assumption) ?_
  try simp only [Act.put, List.setIfInBounds_toArray, List.set_cons_zero, List.set_cons_succ]
  refine wpAnyH_take (i := 5) (oi := ⟨some 15, _, _, _, _, _⟩) rfl (by kernel_rfl) (by kernel_rfl) (by kernel_rfl) (fun _ _ _ h => h) (Or.inl ⟨by rfl, fun w hw => by ((try dsimp only at hw); go_split_ands; go_simp; with_reducible rfl)⟩) (by assumption) ?_
  try simp only [Act.put, List.setIfInBounds_toArray, List.set_cons_zero, List.set_cons_succ]
  refine wpAnyH_take (i := 6) (oi := ⟨some 16, _, _, _, _, _⟩) rfl (by kernel_rfl) (by kernel_rfl) (by kernel_rfl) (fun _ _ _ h => h) (Or.inl ⟨by rfl, fun w hw => by ((try dsimp only at hw); go_split_ands; go_simp; with_reducible rfl)⟩) (by assumption) ?_
  try simp only [Act.put, List.setIfInBounds_toArray, List.set_cons_zero, List.set_cons_succ]
  refine wpAnyH_take (i := 7) (oi := ⟨some 17, _, _, _, _, _⟩) rfl (by kernel_rfl) (by kernel_rfl) (by kernel_rfl) (fun _ _ _ h => h) (yieldsIf_load_mid (by rfl) _ _ rfl _ _ rfl _ _ (fun w hw => by (try dsimp only at hw); go_split_ands; assumption) (by assumption) rfl (by assumption)) (by assumption) ?_
  try simp only [Act.put, List.setIfInBounds_toArray, List.set_cons_zero, List.set_cons_succ]
  refine wpAnyH_take (i := 8) (oi := ⟨some 18, _, _, _, _, _⟩) rfl (by kernel_rfl) (by kernel_rfl) (by kernel_rfl) (fun _ _ _ h => h) (Or.inl ⟨by rfl, fun w hw => by ((try dsimp only at hw); go_split_ands; go_simp; with_reducible rfl)⟩) (by assumption) ?_
  try simp only [Act.put, List.setIfInBounds_toArray, List.set_cons_zero, List.set_cons_succ]
  refine wpAnyH_done (by kernel_rfl) ?_ _
  change KK _ _
  refine HKK.out _ _ ?_
  clear heq HKK hH hsz hsz2
  have HRT : Hid (P = pathP c.wd c.key p 256) := HPP
  cases qe with
  | true =>
    go_wp2_with fail
    go_ret
    exact ⟨by rw [← HPP.out, if_pos (of_decide_eq_true HQE.out.symm)]; rfl, ⟨b2, P, HR3.out, HNB.out⟩, HT3.out⟩
  | false =>
    go_wp2_with fail
    go_ret
    exact ⟨by rw [← HPP.out, if_neg (of_decide_eq_false HQE.out.symm)]; rfl, ⟨b2, P, HR3.out, HNB.out⟩, HT3.out⟩
end Go.Proofs.YtfnlhfaihoojfaaDoor

/- client: through. -/
namespace Go.Proofs.YtfnlhfaihoojfaaDoor
open Go.RowKit
/-- What stands behind the steps: all were taken; or one refused. -/
def Through (n : Nat) (T : Nat → World → Prop) (E : Int → World → Prop) (e : Ending) (w' : World) : Prop :=
  ∃ r : Int, e = .returned (.int .i64 r) ∧ (r = 0 → T n w') ∧ (r ≠ 0 → E r w')
set_option maxRecDepth 20000 in
set_option maxHeartbeats 1000000 in
theorem through_any (g G n c : Nat) (K : Nat → Nat) (T : Nat → World → Prop) (E : Int → World → Prop) (w : World) (hn : n ≤ 4)
    (hK : ∀ i, i < n → ∀ (args : Array Value) (w : World), (callFunc (K i) args).run Tryd.prog w = .ok (.enter (K i) args) w)
    (hc : ∀ i w, T i w → ∀ j, j < n → w.cell? ⟨G, j, none⟩ = some (.func (.func (K j)) #[.pointer (some ⟨g, 0, none⟩)] #[]))
    (hs : ∀ i w, i < n → T i w → Calls Tryd.prog (K i) #[.pointer (some ⟨g, 0, none⟩)] w fun e w' => ∃ r : Int, e = .returned (.int .i64 r) ∧ (r = 0 → T (i + 1) w') ∧ (r ≠ 0 → E r w'))
    (h0 : T 0 w) :
    Calls Tryd.prog 31 #[.slice (some ⟨G, 0, none⟩) n c] w (Through n T E) := by
  have HK := Lib.hid hK
  have HC := Lib.hid hc
  have HS := Lib.hid hs
  have H0 := Lib.hid h0
  clear hK hc hs h0
  have hnn : (n : Int) ≤ 4 := by omega
  go_enter Tryd.func31, Tryd.ntmps31
  go_wp2_with fail
  go_loopg [8] 4 (fun gh i wr => ∃ k : Nat, k ≤ n ∧ gh = 4 - k ∧ i = .int .i64 k ∧ Hid (T k wr))
  case atStart => exact ⟨0, by omega, rfl, rfl, H0.out⟩
  case round =>
    obtain ⟨k, hk, rfl, rfl, HT⟩ := hrel
    by_cases hlt : k < n
    · have hlt' : (k : Int) < n := by omega
      have hcell := HC.out k wr HT.out k hlt
      have hen := HK.out k hlt
      go_wp2_with fail
      refine (HS.out k wr hlt HT.out).mono ?_
      rintro e w1 ⟨r, rfl, h1, h2⟩
      by_cases hr : r = 0
      · have HT1 := Lib.hid (h1 hr)
        subst hr
        clear h1 h2 hcell hen
        go_wp2_with fail
        go_roundg (4 - (k + 1))
        case measure => omega
        case rel => exact ⟨k + 1, by omega, rfl, by go_num, HT1.out⟩
      · have HE1 := Lib.hid (h2 hr)
        have HR0 := Lib.hid hr
        clear h1 h2 hcell hen
        go_wp2_with fail
        go_ret
        exact ⟨r, rfl, fun h => absurd h HR0.out, fun _ => HE1.out⟩
    · have hk2 : k = n := by omega
      subst hk2
      go_wp2_with fail
      go_ret
      exact ⟨0, rfl, fun _ => HT.out, fun h => absurd rfl h⟩
end Go.Proofs.YtfnlhfaihoojfaaDoor

/- client: the steps of a check, one behind the other. -/
namespace Go.Proofs.YtfnlhfaihoojfaaDoor
open Go.RowKit
structure Ctx (w2 : World) (g : Nat) (xs : List Nat) (A : Option Addr) (n k : Nat) : Prop where
  tabs : Tabs w2
  g1 : g ≠ 0
  g2 : g ≠ 2
  glt : g < w2.heap.size
  rb : RB w2 A n xs
  alt : ∀ ad, A = some ad → ad.block < w2.heap.size ∧ ad.block ≠ g
  nk : n ≤ k
  nil : A = none → k = 0
  kmax : k ≤ maxLen
  nb : n ≤ 140737488355328
structure Sta (w2 : World) (g : Nat) (wd : Int) (ks rs : List Nat) (A : Option Addr) (n k : Nat) (c : Ck) (w' : World) : Prop where
  ck : CkIs w' g c
  ok : c.Ok
  wdE : c.wd = wd
  keyE : c.key = ks
  rootE : c.root = rs
  raw : c.raw = .slice A n k
  blank : BlankOk w' wd c.blank
  tch : Touch (fun B => B = g) w2 w'
/-- The error of a proof's form. -/
def errF (wd : Int) (xs : List Nat) : Nat :=
  if wd < 1 ∨ 32 < wd then 1 else match decN xs with
  | none => 120
  | some p => formP wd p 256
def Stage (w2 : World) (g : Nat) (wd : Int) (ks rs xs : List Nat) (A : Option Addr) (n k : Nat) : Nat → World → Prop
  | 0, w' => ∃ c, Sta w2 g wd ks rs A n k c w'
  | 1, w' => ¬ (wd < 1 ∨ 32 < wd) ∧ ∃ c, Sta w2 g wd ks rs A n k c w'
  | 2, w' => ¬ (wd < 1 ∨ 32 < wd) ∧ ∃ c p, Sta w2 g wd ks rs A n k c w' ∧ decN xs = some p ∧ Ready w' g c p ∧ OwnU w' w2.heap.size c.v p.val
  | 3, w' => ¬ (wd < 1 ∨ 32 < wd) ∧ ∃ c p, Sta w2 g wd ks rs A n k c w' ∧ decN xs = some p ∧ Ready w' g c p ∧ OwnU w' w2.heap.size c.v p.val ∧ formP wd p 256 = 0
  | _, w' => ¬ (wd < 1 ∨ 32 < wd) ∧ ∃ c p, Sta w2 g wd ks rs A n k c w' ∧ decN xs = some p ∧ Ready w' g c p ∧ OwnU w' w2.heap.size c.v p.val ∧ formP wd p 256 = 0 ∧ pathP wd ks p 256 = rs
def Refused (w2 : World) (g : Nat) (wd : Int) (ks rs xs : List Nat) (A : Option Addr) (n k : Nat) (r : Int) (w' : World) : Prop := r = (errF wd xs : Nat) ∧ ∃ c, Sta w2 g wd ks rs A n k c w'
def Refused2 (w2 : World) (g : Nat) (wd : Int) (ks rs xs : List Nat) (A : Option Addr) (n k : Nat) (r : Int) (w' : World) : Prop := r = (errP wd rs ks xs : Nat) ∧ ∃ c, Sta w2 g wd ks rs A n k c w'
section
variable {w2 w' : World} {g : Nat} {wd : Int} {ks rs xs : List Nat} {A : Option Addr} {n k : Nat}
theorem stage_wide (h : Stage w2 g wd ks rs xs A n k 0 w') :
    Calls Tryd.prog 32 #[.pointer (some ⟨g, 0, none⟩)] w' fun e w3 => ∃ r : Int, e = .returned (.int .i64 r) ∧ (r = 0 → Stage w2 g wd ks rs xs A n k 1 w3) ∧ (r ≠ 0 → Refused w2 g wd ks rs xs A n k r w3) := by
  obtain ⟨c, hc⟩ := h
  refine (wide_any g c w' hc.ck hc.ok).mono ?_
  rintro e w3 ⟨rfl, rfl⟩
  refine ⟨_, rfl, fun h0 => ?_, fun h0 => ?_⟩
  · refine ⟨fun h => ?_, c, hc⟩
    unfold wideE at h0
    rw [hc.wdE, if_pos h] at h0
    cases h0
  · refine ⟨?_, c, hc⟩
    unfold wideE at h0 ⊢
    rw [hc.wdE] at h0 ⊢
    by_cases h : wd < 1 ∨ 32 < wd
    · rw [if_pos h]
      unfold errF
      rw [if_pos h]
      rfl
    · rw [if_neg h] at h0
      exact absurd rfl h0
theorem errF_some (hw : ¬ (wd < 1 ∨ 32 < wd)) {p : Pr} (hp : decN xs = some p) : errF wd xs = formP wd p 256 := by
  unfold errF
  rw [if_neg hw, hp]
theorem errF_none (hw : ¬ (wd < 1 ∨ 32 < wd)) (hp : decN xs = none) : errF wd xs = 120 := by
  unfold errF
  rw [if_neg hw, hp]
theorem errP_form (h : errF wd xs ≠ 0) : errP wd rs ks xs = errF wd xs := by
  unfold errP
  unfold errF at h ⊢
  by_cases hw : wd < 1 ∨ 32 < wd
  · rw [if_pos hw, if_pos hw]
  · rw [if_neg hw] at h ⊢
    rw [if_neg hw]
    cases hp : decN xs with
    | none => rfl
    | some p =>
      rw [hp] at h
      exact if_neg h
theorem errP_zero (h : errF wd xs = 0) (hw : ¬ (wd < 1 ∨ 32 < wd)) {p : Pr} (hp : decN xs = some p) : errP wd rs ks xs = if pathP wd ks p 256 = rs then 0 else 131 := by
  rw [errF_some hw hp] at h
  unfold errP
  rw [if_neg hw, hp]
  exact if_pos h
theorem stage_read (hx : Ctx w2 g xs A n k) (h : Stage w2 g wd ks rs xs A n k 1 w') :
    Calls Tryd.prog 33 #[.pointer (some ⟨g, 0, none⟩)] w' fun e w3 => ∃ r : Int, e = .returned (.int .i64 r) ∧ (r = 0 → Stage w2 g wd ks rs xs A n k 2 w3) ∧ (r ≠ 0 → Refused w2 g wd ks rs xs A n k r w3) := by
  obtain ⟨hw, c, hc⟩ := h
  have hrb : RB w' A n xs := hc.tch.rb hx.rb fun ad e hg => (hx.alt ad e).2 hg
  refine (read_any g c A n k xs w' hc.ck hc.ok hc.raw hrb (fun ad e => Nat.lt_of_lt_of_le (hx.alt ad e).1 hc.tch.size) hx.nk hx.nil hx.kmax hx.nb).mono ?_
  rintro e w3 ⟨ht, hno, hyes⟩
  have ht3 : Touch (fun B => B = g) w2 w3 := hc.tch.trans ht
  have hbl : BlankOk w3 wd c.blank := by
    rcases hc.blank with h1 | ⟨B, h1, h2⟩
    · exact .inl h1
    · exact .inr ⟨B, h1, ht.blk h2 (blk_ne (cs := (bvs (flatE wd 256)).toArray) (cs' := c.C.toArray) (t := 29) (t' := 59) h2 hc.ck (by decide))⟩
  cases hd : decN xs with
  | none =>
    obtain ⟨rfl, h2⟩ := hno hd
    exact ⟨120, rfl, (fun h => by cases h), fun _ => ⟨by rw [errF_none hw hd]; rfl, _, ⟨h2, Ck.with_ok hc.ok (zs_length _) (zs_isB _), hc.wdE, hc.keyE, hc.rootE, hc.raw, hbl, ht3⟩⟩⟩
  | some p =>
    obtain ⟨rfl, V, S, h2, h3, h4⟩ := hyes p hd
    have hp := (decN_some hrb.2.1 hd).1
    have hok : (c.with p.found V p.bits S).Ok := Ck.with_ok hc.ok hp.bl hp.bB
    refine ⟨0, rfl, fun _ => ⟨hw, c.with p.found V p.bits S, p, ⟨h2, hok, hc.wdE, hc.keyE, hc.rootE, hc.raw, hbl, ht3⟩, hd, ⟨h2, hok, by rw [show (c.with p.found V p.bits S).wd = wd from hc.wdE]; exact hbl, row_mono h4 (Nat.zero_le _), hp, rfl, rfl, ht3.tabs hx.tabs hx.g1 hx.g2, hx.g1, hx.g2⟩, h3.mono hc.tch.size⟩, fun h => absurd rfl h⟩
theorem valIs_own {w : World} {base : Nat} {v : Value} {ys : List Nat} (h : OwnU w base v ys) (hl : ys.length ≤ 128) : ValIs w v ys := by
  obtain ⟨A, c, h1, h2, _, h4, _⟩ := h.form
  exact ⟨A, _, c, h1, h2, h4, by omega⟩
theorem stage_tidy (hx : Ctx w2 g xs A n k) (h : Stage w2 g wd ks rs xs A n k 2 w') :
    Calls Tryd.prog 34 #[.pointer (some ⟨g, 0, none⟩)] w' fun e w3 => ∃ r : Int, e = .returned (.int .i64 r) ∧ (r = 0 → Stage w2 g wd ks rs xs A n k 3 w3) ∧ (r ≠ 0 → Refused w2 g wd ks rs xs A n k r w3) := by
  obtain ⟨hw, c, p, hc, hp, hr, ho⟩ := h
  refine (tidy_any g c p w' hr (by rw [hc.wdE]; omega) (by rw [hc.wdE]; omega)).mono ?_
  rintro e w3 ⟨rfl, ⟨b, hr3, _⟩, ht⟩
  have ht3 : Touch (fun B => B = g) w2 w3 := hc.tch.trans ht
  have hs : Sta w2 g wd ks rs A n k (c.blanked b) w3 := ⟨hr3.ck, hr3.ok, hc.wdE, hc.keyE, hc.rootE, hc.raw, by have := hr3.blank; rwa [show (c.blanked b).wd = wd from hc.wdE] at this, ht3⟩
  refine ⟨_, rfl, fun h0 => ⟨hw, c.blanked b, p, hs, hp, hr3, ht.own ho fun B hB e => ?_, ?_⟩, fun h0 => ⟨?_, _, hs⟩⟩
  · have := (ho.lt B hB).1
    have := hx.glt
    omega
  · rw [hc.wdE] at h0
    omega
  · rw [errF_some hw hp, hc.wdE]
theorem stage_leads (hx : Ctx w2 g xs A n k) (h : Stage w2 g wd ks rs xs A n k 3 w') :
    Calls Tryd.prog 42 #[.pointer (some ⟨g, 0, none⟩)] w' fun e w3 => ∃ r : Int, e = .returned (.int .i64 r) ∧ (r = 0 → Stage w2 g wd ks rs xs A n k 4 w3) ∧ (r ≠ 0 → Refused2 w2 g wd ks rs xs A n k r w3) := by
  obtain ⟨hw, c, p, hc, hp, hr, ho, hf⟩ := h
  refine (leads_any g c p w' hr (valIs_own ho hr.pok.vl)).mono ?_
  rintro e w3 ⟨rfl, ⟨b, fin, hr3, _⟩, ht⟩
  have ht3 : Touch (fun B => B = g) w2 w3 := hc.tch.trans ht
  have hs : Sta w2 g wd ks rs A n k ((c.blanked b).ended fin) w3 := ⟨hr3.ck, hr3.ok, hc.wdE, hc.keyE, hc.rootE, hc.raw, by have := hr3.blank; rwa [show ((c.blanked b).ended fin).wd = wd from hc.wdE] at this, ht3⟩
  rw [hc.wdE, hc.keyE, hc.rootE]
  refine ⟨_, rfl, fun h0 => ⟨hw, _, p, hs, hp, hr3, ht.own ho fun B hB e => ?_, hf, ?_⟩, fun h0 => ⟨?_, _, hs⟩⟩
  · have := (ho.lt B hB).1
    have := hx.glt
    omega
  · by_cases h : pathP wd ks p 256 = rs
    · exact h
    · rw [if_neg h] at h0
      cases h0
  · rw [errP_zero (by rw [errF_some hw hp]; exact hf) hw hp]
    by_cases h : pathP wd ks p 256 = rs
    · rw [if_pos h] at h0
      exact absurd rfl h0
    · rw [if_neg h, if_neg h]
      rfl
end
end Go.Proofs.YtfnlhfaihoojfaaDoor

/- client: held. -/
namespace Go.Proofs.YtfnlhfaihoojfaaDoor
open Go.RowKit
def spl (c : Array Value) (off : Nat) (v : Array Value) : Array Value := v.zipIdx.foldl (fun (cs : Array Value) (p : Value × Nat) => cs.setIfInBounds (off + p.2) p.1) c
theorem spl_size (c : Array Value) (off : Nat) (v : Array Value) : (spl c off v).size = c.size := by
  unfold spl
  rw [← Array.foldl_toList]
  exact fold_size off _ c
theorem spl_at {c v : Array Value} {off : Nat} (h : off + v.size ≤ c.size) (j : Nat) : (spl c off v)[j]? = if off ≤ j ∧ j < off + v.size then v[j - off]? else c[j]? := fold_arr off v c h j
theorem fill_step {place : Nat → Option (Nat × Nat)} {c : Array Value} {i off size : Nat} {v : Value} {rest : List (Nat × Value)} (hp : place i = some (off, size)) (hs : v.cells.size = size) (hf : off + size ≤ c.size) :
    Instr.fill place c ((i, v) :: rest) = Instr.fill place (spl c off v.cells) rest := by
  rw [Instr.fill, hp]
  simp only
  rw [if_neg (by simp [hs]; omega)]
  rfl
theorem spl_mid (X Y Y' Z : List Value) (h : Y.length = Y'.length) : spl (X ++ (Y ++ Z)).toArray X.length Y'.toArray = (X ++ (Y' ++ Z)).toArray := by
  apply Array.ext_getElem?
  intro j
  rw [spl_at (by simp; omega)]
  simp only [List.size_toArray, List.getElem?_toArray]
  by_cases h1 : j < X.length
  · rw [if_neg (by omega), List.getElem?_append_left h1, List.getElem?_append_left h1]
  · have hL : (X ++ (Y ++ Z))[j]? = (Y ++ Z)[j - X.length]? := List.getElem?_append_right (by omega)
    have hR : (X ++ (Y' ++ Z))[j]? = (Y' ++ Z)[j - X.length]? := List.getElem?_append_right (by omega)
    rw [hL, hR]
    by_cases h2 : j < X.length + Y'.length
    · rw [if_pos (by omega), List.getElem?_append_left (show j - X.length < Y'.length by omega)]
    · rw [if_neg (by omega), List.getElem?_append_right (show Y.length ≤ j - X.length by omega), List.getElem?_append_right (show Y'.length ≤ j - X.length by omega), h]
def zeroCk : Ck := ⟨0, zs 32, .slice none 0 0, zs 32, false, .slice none 0 0, zs 32, .slice none 0 0, zs 32, .slice none 0 0⟩
theorem built_z (ps : List (Nat × Value)) : Tryd.prog.built 59 ps = Instr.fill (#[(0, 1), (1, 32), (33, 1), (34, 32), (66, 35), (101, 32), (133, 1)][·]?) zeroCk.C.toArray ps := by
  have h1 : (Tryd.prog.info? 59).map (·.zero) = some (some (.agg zeroCk.C.toArray)) := by kernel_rfl
  obtain ⟨i, hi, hz⟩ : ∃ i, Tryd.prog.info? 59 = some i ∧ i.zero = some (.agg zeroCk.C.toArray) := by
    cases hq : Tryd.prog.info? 59 with
    | none => simp [hq] at h1
    | some i => exact ⟨i, rfl, by simpa [hq] using h1⟩
  have hp : (Tryd.prog.underlying 59).bind (fun d => match d with | .struct fs => fs.toList.mapM (fun f => (Tryd.prog.info? f.type).map fun i => (f.offset, i.size)) | _ => none) = some [(0, 1), (1, 32), (33, 1), (34, 32), (66, 35), (101, 32), (133, 1)] := by kernel_rfl
  rw [Tryd.underlying59] at hp
  unfold Program.built
  rw [hi, Tryd.underlying59]
  simp only [hz]
  simp only [Option.bind_some] at hp
  rw [hp]
  rfl
def newCk (wd : Int) (ks : List Nat) (raw : Value) (rs : List Nat) : Ck := ⟨wd, ks, raw, rs, false, .slice none 0 0, zs 32, .slice none 0 0, zs 32, .slice none 0 0⟩
set_option maxRecDepth 20000 in
theorem built_ck3 (wd : Int) (ks : List Nat) (raw : Value) (hk : ks.length = 32) (h1 : raw.cells = #[raw]) (rest : List (Nat × Value)) :
    Tryd.prog.built 59 ((0, .int .i64 wd) :: (1, .agg (bvs ks).toArray) :: (2, raw) :: rest) = Instr.fill (#[(0, 1), (1, 32), (33, 1), (34, 32), (66, 35), (101, 32), (133, 1)][·]?) (newCk wd ks raw (zs 32)).C.toArray rest := by
  have hkl : (bvs ks).length = 32 := by simp [bvs, hk]
  have s1 : ((Value.agg (bvs ks).toArray).cells).size = 32 := by simp [Value.cells, hkl]
  have hzl : zeroCk.C.toArray.size = 134 := by rfl
  rw [built_z, fill_step (off := 0) (size := 1) rfl rfl (by rw [hzl]; omega), fill_step (off := 1) (size := 32) rfl s1 (by rw [spl_size, hzl]; omega), fill_step (off := 33) (size := 1) rfl (by rw [h1]; rfl) (by rw [spl_size, spl_size, hzl]; omega)]
  congr 1
  have e1 : (Value.int .i64 wd).cells = [Value.int .i64 wd].toArray := rfl
  have e2 : ((Value.agg (bvs ks).toArray).cells) = (bvs ks).toArray := rfl
  have e3 : raw.cells = [raw].toArray := h1
  rw [e1, e2, e3]
  have f1 := spl_mid [] [Value.int .i64 0] [Value.int .i64 wd] (bvs (zs 32) ++ (Value.slice none 0 0 :: (bvs (zs 32) ++ (prC false (Value.slice none 0 0) (zs 32) (Value.slice none 0 0) ++ (bvs (zs 32) ++ [Value.slice none 0 0]))))) rfl
  have f2 := spl_mid [Value.int .i64 wd] (bvs (zs 32)) (bvs ks) (Value.slice none 0 0 :: (bvs (zs 32) ++ (prC false (Value.slice none 0 0) (zs 32) (Value.slice none 0 0) ++ (bvs (zs 32) ++ [Value.slice none 0 0])))) (by rw [hkl]; rfl)
  have f3 := spl_mid ([Value.int .i64 wd] ++ bvs ks) [Value.slice none 0 0] [raw] (bvs (zs 32) ++ (prC false (Value.slice none 0 0) (zs 32) (Value.slice none 0 0) ++ (bvs (zs 32) ++ [Value.slice none 0 0]))) rfl
  rw [show ([Value.int .i64 wd] ++ bvs ks).length = 33 by simp [hkl]] at f3
  have g1 : zeroCk.C.toArray = ([] ++ ([Value.int .i64 0] ++ (bvs (zs 32) ++ (Value.slice none 0 0 :: (bvs (zs 32) ++ (prC false (Value.slice none 0 0) (zs 32) (Value.slice none 0 0) ++ (bvs (zs 32) ++ [Value.slice none 0 0]))))))).toArray := by rfl
  rw [g1]
  change spl (spl (spl _ (List.length ([] : List Value)) _) (List.length [Value.int IntKind.i64 wd]) _) 33 _ = _
  rw [f1]
  have g2 : (([] : List Value) ++ ([Value.int .i64 wd] ++ (bvs (zs 32) ++ (Value.slice none 0 0 :: (bvs (zs 32) ++ (prC false (Value.slice none 0 0) (zs 32) (Value.slice none 0 0) ++ (bvs (zs 32) ++ [Value.slice none 0 0]))))))) = [Value.int .i64 wd] ++ (bvs (zs 32) ++ (Value.slice none 0 0 :: (bvs (zs 32) ++ (prC false (Value.slice none 0 0) (zs 32) (Value.slice none 0 0) ++ (bvs (zs 32) ++ [Value.slice none 0 0]))))) := rfl
  rw [g2, f2]
  have g3 : [Value.int .i64 wd] ++ (bvs ks ++ (Value.slice none 0 0 :: (bvs (zs 32) ++ (prC false (Value.slice none 0 0) (zs 32) (Value.slice none 0 0) ++ (bvs (zs 32) ++ [Value.slice none 0 0]))))) = ([Value.int .i64 wd] ++ bvs ks) ++ ([Value.slice none 0 0] ++ (bvs (zs 32) ++ (prC false (Value.slice none 0 0) (zs 32) (Value.slice none 0 0) ++ (bvs (zs 32) ++ [Value.slice none 0 0])))) := by simp
  rw [g3, f3]
  congr 1
  simp [newCk, Ck.C, Ck.x66]
theorem built_ck (wd : Int) (ks : List Nat) (raw : Value) (rs : List Nat) (hk : ks.length = 32) (h1 : raw.cells = #[raw]) (hr : rs.length = 32) :
    Tryd.prog.built 59 [(0, .int .i64 wd), (1, .agg (bvs ks).toArray), (2, raw), (3, .agg (bvs rs).toArray)] = some (newCk wd ks raw rs).C.toArray := by
  have hrl : (bvs rs).length = 32 := by simp [bvs, hr]
  have hkl : (bvs ks).length = 32 := by simp [bvs, hk]
  have s1 : ((Value.agg (bvs rs).toArray).cells).size = 32 := by simp [Value.cells, hrl]
  have hx : ([Value.int .i64 wd] ++ bvs ks ++ [raw]).length = 34 := by simp [hkl]
  have e : (newCk wd ks raw (zs 32)).C = ([Value.int .i64 wd] ++ bvs ks ++ [raw]) ++ (bvs (zs 32) ++ (prC false (Value.slice none 0 0) (zs 32) (Value.slice none 0 0) ++ (bvs (zs 32) ++ [Value.slice none 0 0]))) := by simp [newCk, Ck.C, Ck.x66]
  have hz : (newCk wd ks raw (zs 32)).C.toArray.size = 134 := by
    rw [e, List.size_toArray, List.length_append, hx]
    rfl
  rw [built_ck3 wd ks raw hk h1, fill_step (off := 34) (size := 32) rfl s1 (by rw [hz]; omega), Instr.fill]
  have f := spl_mid ([Value.int .i64 wd] ++ bvs ks ++ [raw]) (bvs (zs 32)) (bvs rs) (prC false (Value.slice none 0 0) (zs 32) (Value.slice none 0 0) ++ (bvs (zs 32) ++ [Value.slice none 0 0])) (by rw [hrl]; rfl)
  rw [hx] at f
  have e2 : ((Value.agg (bvs rs).toArray).cells) = (bvs rs).toArray := rfl
  rw [e, e2, f]
  simp [newCk, Ck.C, Ck.x66]
theorem built_ckP (wd : Int) (ks : List Nat) (raw : Value) (hk : ks.length = 32) (h1 : raw.cells = #[raw]) :
    Tryd.prog.built 59 [(0, .int .i64 wd), (1, .agg (bvs ks).toArray), (2, raw)] = some (newCk wd ks raw (zs 32)).C.toArray := by
  rw [built_ck3 wd ks raw hk h1, Instr.fill]
theorem newCk_ok {wd : Int} {ks : List Nat} {raw : Value} {rs : List Nat} (hk : ks.length = 32) (hkB : IsB ks) (hr : rs.length = 32) (hrB : IsB rs) : (newCk wd ks raw rs).Ok :=
  ⟨hk, hkB, hr, hrB, zs_length _, zs_isB _, zs_length _, zs_isB _⟩
def stepsK (i : Nat) : Nat := [32, 33, 34, 42].getD i 0
theorem stepsK_enters (i : Nat) (hi : i < 4) (args : Array Value) (w : World) : (callFunc (stepsK i) args).run Tryd.prog w = .ok (.enter (stepsK i) args) w := by
  match i, hi with
  | 0, _ => exact entersF Tryd.func32 (by kernel_rfl) (by kernel_rfl) args w
  | 1, _ => exact entersF Tryd.func33 (by kernel_rfl) (by kernel_rfl) args w
  | 2, _ => exact entersF Tryd.func34 (by kernel_rfl) (by kernel_rfl) args w
  | 3, _ => exact entersF Tryd.func42 (by kernel_rfl) (by kernel_rfl) args w
section
variable {w2 w' : World} {g : Nat} {wd : Int} {ks rs xs : List Nat} {A : Option Addr} {n k : Nat}
theorem Stage.sta : ∀ {i : Nat}, Stage w2 g wd ks rs xs A n k i w' → ∃ c, Sta w2 g wd ks rs A n k c w'
  | 0, h => h
  | 1, h => h.2
  | 2, ⟨_, c, _, h, _⟩ => ⟨c, h⟩
  | 3, ⟨_, c, _, h, _⟩ => ⟨c, h⟩
  | _ + 4, ⟨_, c, _, h, _⟩ => ⟨c, h⟩
theorem Stage.cells {G m i : Nat} (h : Stage w2 g wd ks rs xs A n k i w') (hG : G ≠ g) (hlt : G < w2.heap.size) (hc : ∀ j, j < m → w2.cell? ⟨G, j, none⟩ = some (.func (.func (stepsK j)) #[.pointer (some ⟨g, 0, none⟩)] #[])) :
    ∀ j, j < m → w'.cell? ⟨G, j, none⟩ = some (.func (.func (stepsK j)) #[.pointer (some ⟨g, 0, none⟩)] #[]) := fun j hj => by
  obtain ⟨c, hs⟩ := h.sta
  rw [World.cell?_of_block (w := w2) (a := ⟨G, j, none⟩) (hs.tch.block G hlt hG)]
  exact hc j hj
theorem steps3 {G : Nat} (hx : Ctx w2 g xs A n k) (hG : G ≠ g) (hlt : G < w2.heap.size) (hc : ∀ j, j < 3 → w2.cell? ⟨G, j, none⟩ = some (.func (.func (stepsK j)) #[.pointer (some ⟨g, 0, none⟩)] #[])) (h0 : Stage w2 g wd ks rs xs A n k 0 w2) :
    Calls Tryd.prog 31 #[.slice (some ⟨G, 0, none⟩) 3 3] w2 (Through 3 (Stage w2 g wd ks rs xs A n k) (Refused w2 g wd ks rs xs A n k)) := by
  refine through_any g G 3 3 stepsK _ _ w2 (by omega) (fun i hi => stepsK_enters i (by omega)) (fun i w' h => h.cells hG hlt hc) (fun i w' hi h => ?_) h0
  match i, hi, h with
  | 0, _, h => exact stage_wide h
  | 1, _, h => exact stage_read hx h
  | 2, _, h => exact stage_tidy hx h
theorem Refused.two {r : Int} (h : Refused w2 g wd ks rs xs A n k r w') (h0 : r ≠ 0) : Refused2 w2 g wd ks rs xs A n k r w' := by
  obtain ⟨h1, h2⟩ := h
  refine ⟨?_, h2⟩
  rw [errP_form (fun e => h0 (by rw [h1, e]; rfl))]
  exact h1
theorem two_of {f : FuncId} {args : Array Value} {i : Nat} (h : Calls Tryd.prog f args w' fun e w3 => ∃ r : Int, e = .returned (.int .i64 r) ∧ (r = 0 → Stage w2 g wd ks rs xs A n k i w3) ∧ (r ≠ 0 → Refused w2 g wd ks rs xs A n k r w3)) :
    Calls Tryd.prog f args w' fun e w3 => ∃ r : Int, e = .returned (.int .i64 r) ∧ (r = 0 → Stage w2 g wd ks rs xs A n k i w3) ∧ (r ≠ 0 → Refused2 w2 g wd ks rs xs A n k r w3) := by
  refine h.mono ?_
  rintro e w3 ⟨r, h1, h2, h3⟩
  exact ⟨r, h1, h2, fun h0 => (h3 h0).two h0⟩
theorem stage4 (hx : Ctx w2 g xs A n k) (i : Nat) (hi : i < 4) (h : Stage w2 g wd ks rs xs A n k i w') :
    Calls Tryd.prog (stepsK i) #[.pointer (some ⟨g, 0, none⟩)] w' fun e w3 => ∃ r : Int, e = .returned (.int .i64 r) ∧ (r = 0 → Stage w2 g wd ks rs xs A n k (i + 1) w3) ∧ (r ≠ 0 → Refused2 w2 g wd ks rs xs A n k r w3) := by
  rcases i with _ | _ | _ | _ | i
  · exact two_of (stage_wide h)
  · exact two_of (stage_read hx h)
  · exact two_of (stage_tidy hx h)
  · exact stage_leads hx h
  · omega
theorem steps4 {G : Nat} (hx : Ctx w2 g xs A n k) (hG : G ≠ g) (hlt : G < w2.heap.size) (hc : ∀ j, j < 4 → w2.cell? ⟨G, j, none⟩ = some (.func (.func (stepsK j)) #[.pointer (some ⟨g, 0, none⟩)] #[])) (h0 : Stage w2 g wd ks rs xs A n k 0 w2) :
    Calls Tryd.prog 31 #[.slice (some ⟨G, 0, none⟩) 4 4] w2 (Through 4 (Stage w2 g wd ks rs xs A n k) (Refused2 w2 g wd ks rs xs A n k)) :=
  through_any g G 4 4 stepsK _ _ w2 (by omega) (fun i hi => stepsK_enters i hi) (fun i w' h => h.cells hG hlt hc) (fun i w' hi h => stage4 hx i hi h) h0
end
end Go.Proofs.YtfnlhfaihoojfaaDoor
