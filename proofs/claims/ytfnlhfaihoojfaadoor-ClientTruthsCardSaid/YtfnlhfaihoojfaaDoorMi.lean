/- Hold2, Hold3, Verify (merged) -/
import Derived.Test.YtfnlhfaihoojfaaDoorMh
/- client: held, the walk. -/
namespace Go.Proofs.YtfnlhfaihoojfaaDoor
open Go.RowKit
/-- What stands behind a look at a whole proof. -/
def Held (wd : Int) (rs ks xs : List Nat) (w : World) (e : Ending) (w' : World) : Prop :=
  ∃ g c, e = .returned (.tuple #[.pointer (some ⟨g, 0, none⟩), .int .i64 (errP wd rs ks xs : Nat)]) ∧ w.heap.size ≤ g ∧ CkIs w' g c ∧ c.Ok ∧ c.wd = wd ∧ c.key = ks ∧ BlankOk w' wd c.blank ∧ Below w.heap.size w w' ∧
    (errP wd rs ks xs = 0 → ∃ p, decN xs = some p ∧ formP wd p 256 = 0 ∧ pathP wd ks p 256 = rs ∧ Ready w' g c p ∧ OwnU w' w.heap.size c.v p.val)
/-- The checks that went ahead: none, or one whose row is handed on. -/
def Ahead (w : World) (wd : Int) (ah b0 : Value) : Prop :=
  (ah = .slice none 0 0 ∧ b0 = .slice none 0 0) ∨ ∃ S cap ga ca, ah = .slice (some ⟨S, 0, none⟩) 1 cap ∧ w.cell? ⟨S, 0, none⟩ = some (.pointer (some ⟨ga, 0, none⟩)) ∧ CkIs w ga ca ∧ ca.Ok ∧ ca.blank = b0 ∧ BlankOk w wd b0
theorem held_end {w w4 w5 : World} {g : Nat} {wd : Int} {rs ks xs : List Nat} {A : Option Addr} {n k : Nat} {r : Int} (hb : Below w.heap.size w w4) (hg : w.heap.size ≤ g) (h0 : r = 0 → Stage w4 g wd ks rs xs A n k 4 w5) (h1 : r ≠ 0 → Refused2 w4 g wd ks rs xs A n k r w5) :
    Held wd rs ks xs w (.returned (.tuple #[.pointer (some ⟨g, 0, none⟩), .int .i64 r])) w5 := by
  have bel : ∀ {c : Ck}, Sta w4 g wd ks rs A n k c w5 → Below w.heap.size w w5 := fun h => h.tch.toBelow hb hb.size fun B e => by rw [e]; exact hg
  by_cases h : r = 0
  · obtain ⟨hw, c, p, hs, hp, hr, ho, hf, hpp⟩ := h0 h
    have he : errP wd rs ks xs = 0 := by rw [errP_zero (by rw [errF_some hw hp]; exact hf) hw hp, if_pos hpp]
    exact ⟨g, c, by rw [he, h]; rfl, hg, hs.ck, hs.ok, hs.wdE, hs.keyE, hs.blank, bel hs, fun _ => ⟨p, hp, hf, hpp, hr, ho.mono hb.size⟩⟩
  · obtain ⟨he, c, hs⟩ := h1 h
    exact ⟨g, c, by rw [he], hg, hs.ck, hs.ok, hs.wdE, hs.keyE, hs.blank, bel hs, fun h2 => absurd (by rw [he, h2]; rfl) h⟩
set_option maxRecDepth 20000 in
set_option maxHeartbeats 2000000 in
theorem held_none (wd : Int) (rs ks xs : List Nat) (A : Option Addr) (n k : Nat) (w : World) (hr : rs.length = 32) (hrB : IsB rs) (hk : ks.length = 32) (hkB : IsB ks)
    (hx : RB w A n xs) (hlt : ∀ ad, A = some ad → ad.block < w.heap.size) (hnc : n ≤ k) (hA : A = none → k = 0) (hkm : k ≤ maxLen) (hn : n ≤ 140737488355328) (ht : Tabs w) :
    Calls Tryd.prog 19 #[.int .i64 wd, .agg (bvs rs).toArray, .agg (bvs ks).toArray, .slice A n k, .slice none 0 0] w (Held wd rs ks xs w) := by
  have HRL := Lib.hid hr
  have HRB := Lib.hid hrB
  have HKL := Lib.hid hk
  have HKB := Lib.hid hkB
  have HX := Lib.hid hx
  have HLT := Lib.hid hlt
  have HNC := Lib.hid hnc
  have HA := Lib.hid hA
  have HKM := Lib.hid hkm
  have HN := Lib.hid hn
  have HT := Lib.hid ht
  clear hr hrB hk hkB hx hlt hnc hA hkm hn ht
  go_enter Tryd.func19, Tryd.ntmps19
  go_wp2_with (with_reducible refine stopAt (o := ⟨some 14, _, _, _, _, _⟩) ?_)
  refine start2 (G := fun w2 => Hid (wpList _ _ _ _ _ w2)) fun w2 H1 H2 HW HS => ?_
  have HR2 : Hid (BlkB w2 w.heap.size 29 rs) := H1
  have HK2 : Hid (BlkB w2 (w.heap.size + 1) 31 ks) := H2
  clear H1 H2
  refine Lib.hid ?_
  go_wp2_with (first
    | (refine wpList_load_arr (o := ⟨some 14, _, _, _, _, _⟩) (by rfl) 31 (.tmp 7) rfl ⟨w.heap.size + 1, 0, none⟩ 32 ks rfl (HK2.out.whole HKB.out HKL.out) (by omega) (by kernel_rfl) (by kernel_rfl) ?_)
    | (refine wpList_load_arr (o := ⟨some 16, _, _, _, _, _⟩) (by rfl) 29 (.tmp 6) rfl ⟨w.heap.size, 0, none⟩ 32 rs rfl (HR2.out.whole HRB.out HRL.out) (by omega) (by kernel_rfl) (by kernel_rfl) ?_)
    | (refine buildAt (o := ⟨some 17, _, _, _, _, _⟩) (by rfl) 59 #[(0, .tmp 13), (1, .tmp 14), (2, .tmp 15), (3, .tmp 16)] rfl [(0, .int .i64 wd), (1, .agg (bvs ks).toArray), (2, .slice A n k), (3, .agg (bvs rs).toArray)] (by simp [go_sem]) _ (built_ck wd ks _ rs HKL.out rfl HRL.out) ?_)
    | (with_reducible refine stopAt (o := ⟨some 40, _, _, _, _, _⟩) ?_))
  refine start1 (G := fun w3 => Hid (wpList _ _ _ _ _ w3)) fun w3 H1 HW3 HS3 => ?_
  have HC3 : Hid (CkIs w3 w2.heap.size (newCk wd ks (.slice A n k) rs)) := H1
  have HB3 : Hid (Below w.heap.size w w3) := HW.out.trans (HW3.out.mono HW.out.size)
  have HG : Hid (w.heap.size ≤ w2.heap.size) := HW.out.size
  clear H1
  refine Lib.hid ?_
  go_wp2_with fail
  refine start1 (G := fun w4 => Calls _ _ _ w4 _) fun w4 H1 HW4 HS4 => ?_
  have HC4 : Hid (CkIs w4 w2.heap.size (newCk wd ks (.slice A n k) rs)) := BlkIs.below HC3.out HW4.out
  have HB4 : Hid (Below w.heap.size w w4) := HB3.out.trans (HW4.out.mono HB3.out.size)
  have HX4 : Ctx w4 w2.heap.size xs A n k := by
    have h1 := HT.out.lt
    have h2 := HG.out
    exact ⟨HT.out.below (HB4.out), by omega, by omega, HC4.out.lt, HX.out.below HB4.out, fun ad e => ⟨by have := HLT.out ad e; have := HB4.out.size; omega, by have := HLT.out ad e; omega⟩, HNC.out, HA.out, HKM.out, HN.out⟩
  have HGG : Hid (w3.heap.size ≠ w2.heap.size ∧ w3.heap.size < w4.heap.size) := by have h3 := HC3.out.lt; have h4 := HS4.out; show _ ∧ _; omega
  have HSC : Hid (∀ j, j < 4 → w4.cell? ⟨w3.heap.size, j, none⟩ = some (.func (.func (stepsK j)) #[.pointer (some ⟨w2.heap.size, 0, none⟩)] #[])) := fun j hj => by
    rw [BlkIs.cell H1.out j]
    match j, hj with
    | 0, _ => rfl
    | 1, _ => rfl
    | 2, _ => rfl
    | 3, _ => rfl
  have HS0 : Hid (Stage w4 w2.heap.size wd ks rs xs A n k 0 w4) := ⟨newCk wd ks (.slice A n k) rs, HC4.out, newCk_ok HKL.out HKB.out HRL.out HRB.out, rfl, rfl, rfl, rfl, .inl rfl, Touch.refl _ _⟩
  have HCX := Lib.hid HX4
  clear H1 HX4 HC3 HC4
  refine (steps4 HCX.out HGG.out.1 HGG.out.2 HSC.out HS0.out).mono ?_
  rintro e w5 ⟨r, rfl, h0, h1⟩
  have H0 := Lib.hid h0
  have H1 := Lib.hid h1
  clear h0 h1
  go_wp2_with fail
  go_ret2
  exact held_end HB4.out HG.out H0.out H1.out
end Go.Proofs.YtfnlhfaihoojfaaDoor

/- client: held, behind another check. -/
namespace Go.Proofs.YtfnlhfaihoojfaaDoor
open Go.RowKit
set_option maxRecDepth 20000 in
set_option maxHeartbeats 2000000 in
theorem held_some (S cap ga : Nat) (ca : Ck) (wd : Int) (rs ks xs : List Nat) (A : Option Addr) (n k : Nat) (w : World) (hr : rs.length = 32) (hrB : IsB rs) (hk : ks.length = 32) (hkB : IsB ks)
    (hx : RB w A n xs) (hlt : ∀ ad, A = some ad → ad.block < w.heap.size) (hnc : n ≤ k) (hA : A = none → k = 0) (hkm : k ≤ maxLen) (hn : n ≤ 140737488355328) (ht : Tabs w)
    (hs : w.cell? ⟨S, 0, none⟩ = some (.pointer (some ⟨ga, 0, none⟩))) (hca : CkIs w ga ca) (hco : ca.Ok) (hbb : BlankOk w wd ca.blank) :
    Calls Tryd.prog 19 #[.int .i64 wd, .agg (bvs rs).toArray, .agg (bvs ks).toArray, .slice A n k, .slice (some ⟨S, 0, none⟩) 1 cap] w (Held wd rs ks xs w) := by
  have HRL := Lib.hid hr
  have HRB := Lib.hid hrB
  have HKL := Lib.hid hk
  have HKB := Lib.hid hkB
  have HX := Lib.hid hx
  have HLT := Lib.hid hlt
  have HNC := Lib.hid hnc
  have HA := Lib.hid hA
  have HKM := Lib.hid hkm
  have HN := Lib.hid hn
  have HT := Lib.hid ht
  have HSC0 := Lib.hid hs
  have HCA := Lib.hid hca
  have HCO := Lib.hid hco
  have HBB := Lib.hid hbb
  clear hr hrB hk hkB hx hlt hnc hA hkm hn ht hs hca hco hbb
  go_enter Tryd.func19, Tryd.ntmps19
  go_wp2_with (with_reducible refine stopAt (o := ⟨some 14, _, _, _, _, _⟩) ?_)
  refine start2 (G := fun w2 => Hid (wpList _ _ _ _ _ w2)) fun w2 H1 H2 HW HS => ?_
  have HR2 : Hid (BlkB w2 w.heap.size 29 rs) := H1
  have HK2 : Hid (BlkB w2 (w.heap.size + 1) 31 ks) := H2
  clear H1 H2
  refine Lib.hid ?_
  go_wp2_with (first
    | (refine wpList_load_arr (o := ⟨some 14, _, _, _, _, _⟩) (by rfl) 31 (.tmp 7) rfl ⟨w.heap.size + 1, 0, none⟩ 32 ks rfl (HK2.out.whole HKB.out HKL.out) (by omega) (by kernel_rfl) (by kernel_rfl) ?_)
    | (refine wpList_load_arr (o := ⟨some 16, _, _, _, _, _⟩) (by rfl) 29 (.tmp 6) rfl ⟨w.heap.size, 0, none⟩ 32 rs rfl (HR2.out.whole HRB.out HRL.out) (by omega) (by kernel_rfl) (by kernel_rfl) ?_)
    | (refine buildAt (o := ⟨some 17, _, _, _, _, _⟩) (by rfl) 59 #[(0, .tmp 13), (1, .tmp 14), (2, .tmp 15), (3, .tmp 16)] rfl [(0, .int .i64 wd), (1, .agg (bvs ks).toArray), (2, .slice A n k), (3, .agg (bvs rs).toArray)] (by simp [go_sem]) _ (built_ck wd ks _ rs HKL.out rfl HRL.out) ?_)
    | (with_reducible refine stopAt (o := ⟨some 24, _, _, _, _, _⟩) ?_))
  refine start1 (G := fun w3 => Hid (wpList _ _ _ _ _ w3)) fun w3 H1 HW3 HS3 => ?_
  have HC3 : Hid (CkIs w3 w2.heap.size (newCk wd ks (.slice A n k) rs)) := H1
  have HB3 : Hid (Below w.heap.size w w3) := HW.out.trans (HW3.out.mono HW.out.size)
  have HG : Hid (w.heap.size ≤ w2.heap.size) := HW.out.size
  clear H1
  have hslt : S < w.heap.size := by
    have := World.block_lt_of_cell? w ⟨S, 0, none⟩ HSC0.out
    exact this
  have hs3 : w3.cell? ⟨S, 0, none⟩ = some (.pointer (some ⟨ga, 0, none⟩)) := (HB3.out.cell (p := ⟨S, 0, none⟩) hslt).trans HSC0.out
  obtain ⟨_, _, _, _, _, hb3⟩ := ck_cells (BlkIs.below HCA.out HB3.out) HCO.out
  obtain ⟨_, _, _, _, _, hn3⟩ := ck_cells HC3.out (newCk_ok HKL.out HKB.out HRL.out HRB.out)
  have hf3 : w3.frozen? ⟨w2.heap.size, 133, none⟩ = false := BlkIs.frozen HC3.out 133
  obtain ⟨Ab, nb, cb, hbk⟩ : ∃ Ab nb cb, ca.blank = .slice Ab nb cb := by
    rcases HBB.out with h | ⟨B, h, _⟩
    · exact ⟨_, _, _, h⟩
    · exact ⟨_, _, _, h⟩
  have HBK := Lib.hid hbk
  rw [hbk] at hb3
  clear hslt hbk
  refine Lib.hid ?_
  go_wp2_with (with_reducible refine stopAt (o := ⟨some 33, _, _, _, _, _⟩) ?_)
  have HC3' : Hid (CkIs (w3.setCell ⟨w2.heap.size, 133, none⟩ (.slice Ab nb cb)) w2.heap.size ((newCk wd ks (.slice A n k) rs).blanked (.slice Ab nb cb))) := ck_blank HC3.out (newCk_ok HKL.out HKB.out HRL.out HRB.out) _
  have HB3' : Hid (Below w.heap.size w (w3.setCell ⟨w2.heap.size, 133, none⟩ (.slice Ab nb cb))) := HB3.out.setCell (show w.heap.size ≤ w2.heap.size from HG.out) _
  have HS3' : Hid ((w3.setCell ⟨w2.heap.size, 133, none⟩ (.slice Ab nb cb)).heap.size = w3.heap.size) := by show _ = _; simp
  clear hs3 hb3 hn3 hf3 HC3 HB3
  generalize w3.setCell ⟨w2.heap.size, 133, none⟩ (.slice Ab nb cb) = w3' at *
  refine Lib.hid ?_
  go_wp2_with fail
  refine start1 (G := fun w4 => Calls _ _ _ w4 _) fun w4 H1 HW4 HS4 => ?_
  have HC4 : Hid (CkIs w4 w2.heap.size ((newCk wd ks (.slice A n k) rs).blanked (.slice Ab nb cb))) := BlkIs.below HC3'.out HW4.out
  have HB4 : Hid (Below w.heap.size w w4) := HB3'.out.trans (HW4.out.mono HB3'.out.size)
  have HX4 : Ctx w4 w2.heap.size xs A n k := by
    have h1 := HT.out.lt
    have h2 := HG.out
    exact ⟨HT.out.below (HB4.out), by omega, by omega, HC4.out.lt, HX.out.below HB4.out, fun ad e => ⟨by have := HLT.out ad e; have := HB4.out.size; omega, by have := HLT.out ad e; omega⟩, HNC.out, HA.out, HKM.out, HN.out⟩
  have HGG : Hid (w3'.heap.size ≠ w2.heap.size ∧ w3'.heap.size < w4.heap.size) := by have h3 := HC3'.out.lt; have h4 := HS4.out; show _ ∧ _; omega
  have HSC : Hid (∀ j, j < 4 → w4.cell? ⟨w3'.heap.size, j, none⟩ = some (.func (.func (stepsK j)) #[.pointer (some ⟨w2.heap.size, 0, none⟩)] #[])) := fun j hj => by
    rw [BlkIs.cell H1.out j]
    match j, hj with
    | 0, _ => rfl
    | 1, _ => rfl
    | 2, _ => rfl
    | 3, _ => rfl
  have hbo : BlankOk w4 wd (.slice Ab nb cb) := by
    rw [← HBK.out]
    rcases HBB.out with h | ⟨B, h, h2⟩
    · exact .inl h
    · exact .inr ⟨B, h, BlkIs.below h2 HB4.out⟩
  have hok := newCk_ok (wd := wd) (raw := .slice A n k) HKL.out HKB.out HRL.out HRB.out
  have HS0 : Hid (Stage w4 w2.heap.size wd ks rs xs A n k 0 w4) := ⟨(newCk wd ks (.slice A n k) rs).blanked (.slice Ab nb cb), HC4.out, ⟨hok.kl, hok.kB, hok.rl, hok.rB, hok.bl, hok.bB, hok.fl, hok.fB⟩, rfl, rfl, rfl, rfl, hbo, Touch.refl _ _⟩
  have HCX := Lib.hid HX4
  clear H1 HX4 HC3' HC4 hbo hok
  refine (steps4 HCX.out HGG.out.1 HGG.out.2 HSC.out HS0.out).mono ?_
  rintro e w5 ⟨r, rfl, h0, h1⟩
  have H0 := Lib.hid h0
  have H1 := Lib.hid h1
  clear h0 h1
  go_wp2_with fail
  go_ret2
  exact held_end HB4.out HG.out H0.out H1.out
end Go.Proofs.YtfnlhfaihoojfaaDoor

/- client.Verify. -/
namespace Go.Proofs.YtfnlhfaihoojfaaDoor
open Go.RowKit
theorem own_zero {w : World} {g : Nat} (h : BlkIs w g 5 #[]) : OwnU w g (.slice (some ⟨g, 0, none⟩) 0 0) [] :=
  ⟨⟨rfl, .inr ⟨g, 0, #[], rfl, Nat.le_refl _, h, Nat.le_refl _, by simp [maxLen], rfl, rfl⟩⟩, IsB.nil⟩
theorem clone_any (v : Value) (xs : List Nat) (base : Nat) (w : World) (hv : OwnU w base v xs) (hl : xs.length ≤ 1073741824) :
    Calls Tryd.prog 20 #[v] w fun e w' => Below w.heap.size w w' ∧ ∃ V, e = .returned V ∧ OwnU w' w.heap.size V xs := by
  obtain ⟨A, c, rfl, hr, hlt, hA, hc⟩ := hv.form
  cases A with
  | none =>
    have hx : xs = [] := by
      have h1 := hr.1
      have h2 := hA rfl
      exact List.eq_nil_of_length_eq_zero (by omega)
    subst hx
    have hnn := nil_yes
    obtain rfl : c = 0 := hA rfl
    clear hr hlt hA hc hv
    go_enter Tryd.func20, Tryd.ntmps20
    go_wp2_with fail
    go_ret
    exact ⟨Below.refl _ _, _, rfl, Own.nil _ _ _⟩
  | some ad =>
    have hnn := nil_no ad xs.length c
    have HR := Lib.hid hr
    have HL := Lib.hid hl
    clear hr hlt hA hc hv hl
    obtain ⟨m, hm⟩ : ∃ m, xs.length = m := ⟨_, rfl⟩
    have HM := Lib.hid hm
    rw [hm] at hnn HR ⊢
    clear hm
    go_enter Tryd.func20, Tryd.ntmps20
    go_wp2_with (with_reducible refine stopAt (o := ⟨some 7, _, _, _, _, _⟩) ?_)
    refine start1 (G := fun w2 => Hid (wpList _ _ _ _ _ w2)) fun w2 H1 HW HS => ?_
    have HO : Hid (OwnU w2 w.heap.size (.slice (some ⟨w.heap.size, 0, none⟩) 0 0) []) := own_zero H1.out
    have HR2 : Hid (RB w2 (some ad) m xs) := HR.out.below HW.out
    clear H1
    refine Lib.hid ?_
    go_wp2_with (at_builtin; refine appendRB (o := ⟨some 7, _, _, _, _, _⟩) und_bytes info_byte w2 (by rfl) (.tmp 5) (.tmp 6) (by rfl) w.heap.size _ [] HO.out (some ad) m c xs HR2.out (fun h => by cases h) (by rfl) (by rfl) (by have := HL.out; have := HM.out; simp; omega) HW.out.size ?_; intro V w3 ho hg)
    go_ret
    exact ⟨HW.out.grown hg HW.out.size fun k hk => by injection hk with hk; subst hk; exact Nat.le_refl _, _, rfl, ho⟩
theorem row_ans : (Tryd.prog.underlying 24).map (·.isRow) = some true := by kernel_rfl
theorem size_ans : (Tryd.prog.info? 24).map (·.size) = some 2 := by kernel_rfl
theorem info_ans : (Tryd.prog.info? 24).map (fun i => (i.zero, i.size)) = some (some (.agg #[.bool false, .slice none 0 0]), 2) := by kernel_rfl
theorem built_ans0 : Tryd.prog.built 24 [] = some #[.bool false, .slice none 0 0] := by kernel_rfl
theorem ans_ret {fn : Func} {p u : Tmp} {R : Ending → World → Prop} {x : Act} {w : World} {g : Nat} {f : Bool} {v z : Value} (h : fn.results = #[.cell p 24, .tmp u]) (hp : x.tmps.getD p undef = .pointer (some ⟨g, 0, none⟩))
    (hb : BlkIs w g 24 #[.bool f, v]) (hu : x.tmps.getD u undef = z) (hd : x.defers = []) (hR : R (.returned (.tuple #[.agg #[.bool f, v], z])) w) : bodyPost Tryd.prog fn R .ret x w := by
  refine bodyPost_ret (v := .tuple #[.agg #[.bool f, v], z]) ?_ hd hR
  obtain ⟨d, hu2, hd2⟩ := row_of row_ans
  have hb' : BlkIs w g 24 [.bool f, v].toArray := hb
  have hl := run_loadVar_mid (P := Tryd.prog) w g 0 24 [.bool f, v] d (BlkIs.range hb') hu2 hd2 (by rw [size_ans]; rfl)
  rw [results_cell_tmp h, hp, hu]
  simp [asAddr, Result.andThen, hl]
theorem built_ans (f : Bool) (A : Option Addr) (n c : Nat) : Tryd.prog.built 24 [(0, .bool f), (1, .slice A n c)] = some #[.bool f, .slice A n c] := by kernel_rfl
theorem wpOp_build {P : Program} {ops : Array Oper} {Q : Exit → Act → World → Prop} {K : Act → World → Prop} {o : Oper} {a : Act} (hw : Region.wanted o (yielded ops a.tmps) = true) (w : World) (t : TypeId) (parts : Array (Nat × Operand)) (ho : o.op = .build t parts)
    (vs : List (Nat × Value)) (hv : (parts.map fun (i, x) => (i, a.eval x)).toList = vs) (cells : Array Value) (hb : P.built t vs = some cells) (h : K (a.put o.dst (.agg cells)) w) :
    if Region.wanted o (yielded ops a.tmps) = true then o.wp P a w K Q else K (a.put o.dst undef) w := by
  subst hv
  rw [if_pos hw]
  exact wp_build t parts ho (by rw [hb]; rfl) (by rw [hb]; exact h)
/-- What Verify answers. -/
def Verified (wd : Int) (rs ks xs : List Nat) (w : World) (e : Ending) (w' : World) : Prop :=
  Below w.heap.size w w' ∧ (errP wd rs ks xs ≠ 0 → e = .returned (.tuple #[.agg #[.bool false, .slice none 0 0], .int .i64 (errP wd rs ks xs : Nat)])) ∧
    (errP wd rs ks xs = 0 → ∃ p V, decN xs = some p ∧ formP wd p 256 = 0 ∧ pathP wd ks p 256 = rs ∧ e = .returned (.tuple #[.agg #[.bool p.found, V], .int .i64 0]) ∧ OwnU w' w.heap.size V p.val)
set_option maxRecDepth 20000 in
set_option maxHeartbeats 2000000 in
theorem verify_any (wd : Int) (rs ks xs : List Nat) (A : Option Addr) (n k : Nat) (w : World) (hr : rs.length = 32) (hrB : IsB rs) (hk : ks.length = 32) (hkB : IsB ks)
    (hx : RB w A n xs) (hlt : ∀ ad, A = some ad → ad.block < w.heap.size) (hnc : n ≤ k) (hA : A = none → k = 0) (hkm : k ≤ maxLen) (hn : n ≤ 140737488355328) (ht : Tabs w) :
    Calls Tryd.prog 7 #[.int .i64 wd, .agg (bvs rs).toArray, .agg (bvs ks).toArray, .slice A n k] w (Verified wd rs ks xs w) := by
  have HRL := Lib.hid hr
  have HRB := Lib.hid hrB
  have HKL := Lib.hid hk
  have HKB := Lib.hid hkB
  have HX := Lib.hid hx
  have HLT := Lib.hid hlt
  have HNC := Lib.hid hnc
  have HA := Lib.hid hA
  have HKM := Lib.hid hkm
  have HN := Lib.hid hn
  have HT := Lib.hid ht
  clear hr hrB hk hkB hx hlt hnc hA hkm hn ht
  go_enter Tryd.func7, Tryd.ntmps7
  go_wp2_with (with_reducible refine stopAt (o := ⟨some 14, _, _, _, _, _⟩) ?_)
  refine start3 (G := fun w2 => Hid (wpList _ _ _ _ _ w2)) fun w2 H1 H2 H3 HW HS => ?_
  have HR2 : Hid (BlkB w2 w.heap.size 29 rs) := H1
  have HK2 : Hid (BlkB w2 (w.heap.size + 1) 31 ks) := H2
  clear H1 H2
  refine Lib.hid ?_
  go_wp2_with (first
    | (refine wpList_load_arr (o := ⟨some 14, _, _, _, _, _⟩) (by rfl) 29 (.tmp 5) rfl ⟨w.heap.size, 0, none⟩ 32 rs rfl (HR2.out.whole HRB.out HRL.out) (by omega) (by kernel_rfl) (by kernel_rfl) ?_)
    | (refine wpList_load_arr (o := ⟨some 15, _, _, _, _, _⟩) (by rfl) 31 (.tmp 6) rfl ⟨w.heap.size + 1, 0, none⟩ 32 ks rfl (HK2.out.whole HKB.out HKL.out) (by omega) (by kernel_rfl) (by kernel_rfl) ?_))
  refine (held_none wd rs ks xs A n k w2 HRL.out HRB.out HKL.out HKB.out (HX.out.below HW.out) (fun ad e => Nat.lt_of_lt_of_le (HLT.out ad e) HW.out.size) HNC.out HA.out HKM.out HN.out (HT.out.below HW.out)).mono ?_
  rintro e w3 ⟨g, c, rfl, hg, hck, hok, hwd, hky, hbl, hbe, hyes⟩
  have HE := Lib.hid hyes
  have HCK := Lib.hid hck
  have HCO := Lib.hid hok
  have HB3 : Hid (Below w.heap.size w w3) := HW.out.trans (hbe.mono HW.out.size)
  have HA3 : Hid (BlkIs w3 (w.heap.size + 1 + 1) 24 (([] : List Value) ++ (([Value.bool false, Value.slice none 0 0] : List Value) ++ [])).toArray) := BlkIs.below H3.out hbe
  have HS3 : Hid (w.heap.size + 1 + 1 < w3.heap.size) := HA3.out.lt
  have HGN : Hid (w.heap.size + 1 + 1 < g) := by have h1 := HS.out; show _ < _; omega
  clear hg hck hok hwd hky hbl hbe hyes H3 HR2 HK2
  obtain ⟨q, HQ⟩ : ∃ q, Hid (errP wd rs ks xs = q) := ⟨_, rfl⟩
  rw [HQ.out] at HE ⊢
  by_cases hq : q = 0
  · obtain ⟨p, hp, hf, hpp, hr, ho⟩ := HE.out hq
    subst hq
    have HP := Lib.hid hp
    have HF := Lib.hid hf
    have HPP := Lib.hid hpp
    have HR3 := Lib.hid hr
    have HO3 := Lib.hid ho
    obtain ⟨A1, c1, hv1, hx1, hlt1, hA1, hc1⟩ := ho.form
    obtain ⟨_, _, cf, cv, _, _⟩ := ck_cells HCK.out HCO.out
    rw [hv1] at cv
    have HV1 := Lib.hid hv1
    have hfd : c.f = p.found := hr.found.symm
    rw [hfd] at cf
    clear hp hf hpp hr ho hv1 hx1 hlt1 hA1 hc1 hfd
    have HSS : Hid (∀ wx, Below w3.heap.size w3 wx → wx.cell? ⟨g, 66, none⟩ = some (.bool p.found) ∧ wx.cell? ⟨g, 67, none⟩ = some (.slice A1 p.val.length c1)) := fun wx hb => ⟨(hb.cell (p := ⟨g, 66, none⟩) HCK.out.lt).trans cf, (hb.cell (p := ⟨g, 67, none⟩) HCK.out.lt).trans cv⟩
    clear cf cv
    go_wp2_with fail
    rename_i KK hKK
    have HKK := Lib.hid hKK
    clear hKK
    refine wp_region_held_drew (S := fun w' => w'.cell? ⟨g, 66, none⟩ = some (.bool p.found) ∧ w'.cell? ⟨g, 67, none⟩ = some (.slice A1 p.val.length c1)) (by kernel_rfl) (HSS.out _ (drewN_below (Below.refl _ _) 1)) fun hH => ?_
    have HB4 : Hid (Below w3.heap.size w3 w3.drew) := drewN_below (Below.refl _ _) 1
    generalize w3.drew = w4 at *
    refine wpAnyH_take (i := 0) (oi := ⟨some 24, _, _, _, _, _⟩) rfl (by kernel_rfl) (by kernel_rfl) (by kernel_rfl) (fun _ _ _ h => h) (Or.inl ⟨by rfl, fun w hw => by ((try dsimp only at hw); go_split_ands; go_simp; with_reducible rfl)⟩) (by assumption) ?_
    try simp only [Act.put, List.setIfInBounds_toArray, List.set_cons_zero, List.set_cons_succ]
    refine wpAnyH_take (i := 1) (oi := ⟨some 25, _, _, _, _, _⟩) rfl (by kernel_rfl) (by kernel_rfl) (by kernel_rfl) (fun _ _ _ h => h) (Or.inl ⟨by rfl, fun w hw => by ((try dsimp only at hw); go_split_ands; go_simp; with_reducible rfl)⟩) (by assumption) ?_
    try simp only [Act.put, List.setIfInBounds_toArray, List.set_cons_zero, List.set_cons_succ]
    refine wpAnyH_take (i := 2) (oi := ⟨some 26, _, _, _, _, _⟩) rfl (by kernel_rfl) (by kernel_rfl) (by kernel_rfl) (fun _ _ _ h => h) (Or.inl ⟨by rfl, fun w hw => by ((try dsimp only at hw); go_split_ands; go_simp; with_reducible rfl)⟩) (by assumption) ?_
    try simp only [Act.put, List.setIfInBounds_toArray, List.set_cons_zero, List.set_cons_succ]
    refine wpAnyH_take (i := 3) (oi := ⟨some 27, _, _, _, _, _⟩) rfl (by kernel_rfl) (by kernel_rfl) (by kernel_rfl) (fun _ _ _ h => h) (Or.inl ⟨by rfl, fun w hw => by ((try dsimp only at hw); go_split_ands; go_simp; with_reducible rfl)⟩) (by assumption) ?_
    try simp only [Act.put, List.setIfInBounds_toArray, List.set_cons_zero, List.set_cons_succ]
    refine wpAnyH_take (i := 4) (oi := ⟨some 28, _, _, _, _, _⟩) rfl (by kernel_rfl) (by kernel_rfl) (by kernel_rfl) (fun _ _ _ h => h) (Or.inl ⟨by rfl, fun w hw => by ((try dsimp only at hw); go_split_ands; go_simp; with_reducible rfl)⟩) (by assumption) ?_
    try simp only [Act.put, List.setIfInBounds_toArray, List.set_cons_zero, List.set_cons_succ]
    refine wpAnyH_take (i := 5) (oi := ⟨some 29, _, _, _, _, _⟩) rfl (by kernel_rfl) (by kernel_rfl) (by kernel_rfl) (fun _ _ _ h => h) (Or.inl ⟨by rfl, fun w hw => by ((try dsimp only at hw); go_split_ands; go_simp; with_reducible rfl)⟩) (by assumption) ?_
    try simp only [Act.put, List.setIfInBounds_toArray, List.set_cons_zero, List.set_cons_succ]
    refine wpAnyH_take (i := 6) (oi := ⟨some 30, _, _, _, _, _⟩) rfl (by kernel_rfl) (by kernel_rfl) (by kernel_rfl) (fun _ _ _ h => h) (Or.inl ⟨by rfl, fun w hw => by ((try dsimp only at hw); go_split_ands; go_simp; with_reducible rfl)⟩) (by assumption) ?_
    try simp only [Act.put, List.setIfInBounds_toArray, List.set_cons_zero, List.set_cons_succ]
    refine wpAnyH_take (i := 7) (oi := ⟨some 31, _, _, _, _, _⟩) rfl (by kernel_rfl) (by kernel_rfl) (by kernel_rfl) (fun _ _ _ h => h) (Or.inl ⟨by rfl, fun w hw => by ((try dsimp only at hw); go_split_ands; go_simp; with_reducible rfl)⟩) (by assumption) ?_
    try simp only [Act.put, List.setIfInBounds_toArray, List.set_cons_zero, List.set_cons_succ]
    refine wpAnyH_take (i := 8) (oi := ⟨some 32, _, _, _, _, _⟩) rfl (by kernel_rfl) (by kernel_rfl) (by kernel_rfl) (fun _ _ _ h => h) (Or.inl ⟨by rfl, fun w hw => by ((try dsimp only at hw); go_split_ands; go_simp; with_reducible rfl)⟩) (by assumption) ?_
    try simp only [Act.put, List.setIfInBounds_toArray, List.set_cons_zero, List.set_cons_succ]
    refine wpAnyH_take (i := 9) (oi := ⟨some 33, _, _, _, _, _⟩) rfl (by kernel_rfl) (by kernel_rfl) (by kernel_rfl) (fun _ _ _ h => h) (Or.inl ⟨by rfl, fun w hw => by ((try dsimp only at hw); go_split_ands; go_simp; with_reducible rfl)⟩) (by assumption) ?_
    try simp only [Act.put, List.setIfInBounds_toArray, List.set_cons_zero, List.set_cons_succ]
    clear hH
    refine wpAnyH_ready (rs := [10]) (by kernel_rfl) (by simp) ?_
    refine AllReadyH.cons rfl (fun K hK => ?_) (AllReadyH.nil)
    go_simp
    go_at_call 20
    refine (clone_any _ p.val _ w4 (by rw [← HV1.out]; exact HO3.out.below HB4.out) (by have := HR3.out.pok.vl; omega)).mono ?_
    rintro e w5 ⟨hb5, V, rfl, ho5⟩
    have HB5 : Hid (Below w3.heap.size w3 w5) := HB4.out.trans (hb5.mono HB4.out.size)
    have HO5 := Lib.hid ho5
    have HL5 : Hid (w3.heap.size ≤ w4.heap.size) := HB4.out.size
    refine hK.out _ _ (HSS.out _ HB5.out) (fun hH => ?_)
    obtain ⟨A2, c2, hv2, _⟩ := ho5.form
    subst hv2
    clear hK hb5 ho5
    refine wpAnyH_ready (rs := [11]) (by kernel_rfl) (by simp) ?_
    refine AllReadyH.cons rfl (fun K hK => ?_) AllReadyH.nil
    refine wpOp_build (o := ⟨some 35, _, _, _, _, _⟩) (by rfl) w5 24 #[(0, .tmp 28), (1, .tmp 34)] rfl [(0, .bool p.found), (1, .slice A2 p.val.length c2)] (by simp [go_sem]) _ (built_ans _ _ _ _) ?_
    refine hK.out _ _ (HSS.out _ HB5.out) (fun hH => ?_)
    clear hK
    refine wpAnyH_ready (rs := [12]) (by kernel_rfl) (by simp) ?_
    refine AllReadyH.cons (o := ⟨none, _, _, _, _, _⟩) rfl (fun K hK => ?_) AllReadyH.nil
    have HA5 : Hid (BlkIs w5 (w.heap.size + 1 + 1) 24 (([] : List Value) ++ (([Value.bool false, Value.slice none 0 0] : List Value) ++ [])).toArray) := BlkIs.below HA3.out HB5.out
    refine wpOp_store_part (o := ⟨none, _, _, _, _, _⟩) (by rfl) 24 (.tmp 8) (.tmp 35) rfl 0 [] [.bool false, .slice none 0 0] [.bool p.found, .slice A2 p.val.length c2] [] rfl rfl HA5.out rfl rfl (by rw [size_ans]; rfl) (by intro u hu; simp at hu; rcases hu with rfl | rfl <;> rfl) ?_
    intro w6 h6 g6
    have hgn : g ≠ w.heap.size + 1 + 1 := by have := HGN.out; omega
    refine hK.out _ _ ⟨cell_grown g6 hgn (HSS.out _ HB5.out).1, cell_grown g6 hgn (HSS.out _ HB5.out).2⟩ (fun hH => ?_)
    clear hK
    refine wpAnyH_take (i := 13) (oi := ⟨some 9, _, _, _, _, _⟩) rfl (by kernel_rfl) (by kernel_rfl) (by kernel_rfl) (fun _ _ _ h => h) (Or.inl ⟨by rfl, fun w hw => by ((try dsimp only at hw); go_split_ands; go_simp; with_reducible rfl)⟩) (by assumption) ?_
    try simp only [Act.put, List.setIfInBounds_toArray, List.set_cons_zero, List.set_cons_succ]
    refine wpAnyH_done (by kernel_rfl) ?_ _
    change KK _ _
    refine HKK.out _ _ ?_
    go_wp2_with fail
    have hb6 : Below w.heap.size w w6 := (HB3.out.trans (HB5.out.mono HB3.out.size)).grown g6 (Nat.le_trans HB3.out.size HB5.out.size) fun k hk => by injection hk with hk; omega
    have ho6 : OwnU w6 w.heap.size (.slice A2 p.val.length c2) p.val := ((Touch.one g6).own HO5.out fun B hB e => by
      have := (HO5.out.lt B hB).1
      have := HS3.out
      have := HL5.out
      omega).mono (by have := HB3.out.size; have := HL5.out; omega)
    exact ans_ret rfl rfl h6 rfl rfl ⟨hb6, fun h => absurd HQ.out h, fun _ => ⟨p, _, HP.out, HF.out, HPP.out, rfl, ho6⟩⟩
  · have hq' : ¬ (q : Int) = 0 := by omega
    have HQ0 := Lib.hid hq
    clear hq
    go_wp2_with (first
      | (refine buildAt (o := ⟨some 22, _, _, _, _, _⟩) (by rfl) 24 #[] rfl [] (by simp [go_sem]) _ built_ans0 ?_)
      | (refine wpList_store_part (o := ⟨none, _, _, _, _, _⟩) (by rfl) 24 (.tmp 8) (.tmp 22) rfl 0 [] [.bool false, .slice none 0 0] [.bool false, .slice none 0 0] [] rfl rfl HA3.out rfl rfl (by rw [size_ans]; rfl) (by intro u hu; simp at hu; rcases hu with rfl | rfl <;> rfl) ?_; intro w4 h4 g4))
    exact ans_ret rfl rfl h4 rfl rfl ⟨HB3.out.grown g4 HB3.out.size fun k hk => by injection hk with hk; omega, fun _ => by rw [HQ.out]; rfl, fun h => absurd (HQ.out.symm.trans h) HQ0.out⟩
end Go.Proofs.YtfnlhfaihoojfaaDoor
