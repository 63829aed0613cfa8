/- frame.PackSuper. -/
import Derived.Test.YtbjbpgbpefkbhaaDoorPack
import Derived.Lib.BufferWrite
import Derived.Laws.OwnMore
import Derived.StillTailTactics
namespace Go.Proofs.YtbjbpgbpefkbhaaDoor
open Go.RowKit
theorem zarr60_info : (Tryd.prog.info? 56).map (fun i => (i.zero, i.size)) = some (some (.agg (zarr 60)), 60) := by kernel_rfl
def PackedS (base : Nat) (s : Sup) (e : Ending) (w' : World) : Prop :=
  ∃ v, e = .returned (.tuple #[v, .int .i64 ((packSN s).2 : Nat)]) ∧ OwnU w' base v (packSN s).1
def supA (a b c d p : Int) : Array Value := #[.int .i64 a, .int .i64 b, .int .i64 c, .int .i64 d, .int .i64 p]
theorem sup_at {w : World} {g : Nat} {a b c d p : Int} (h : BlkIs w g 23 (supA a b c d p)) : w.cell? ⟨g, 0, none⟩ = some (.int .i64 a) ∧ w.cell? ⟨g, 1, none⟩ = some (.int .i64 b) ∧ w.cell? ⟨g, 2, none⟩ = some (.int .i64 c) ∧ w.cell? ⟨g, 3, none⟩ = some (.int .i64 d) ∧ w.cell? ⟨g, 4, none⟩ = some (.int .i64 p) :=
  ⟨BlkIs.cell h 0, BlkIs.cell h 1, BlkIs.cell h 2, BlkIs.cell h 3, BlkIs.cell h 4⟩
theorem set60 {an : Nat} : ([76, 68, 71, 49] ++ zs 56).set 4 an = [76, 68, 71, 49, an] ++ zs 55 := rfl
theorem superBody {a b c d p : Nat} : splice (splice (splice (splice ([76, 68, 71, 49, a] ++ zs 55) 8 (leN b 8)) 16 (leN c 4)) 20 (leN d 4)) 24 (leN p 4) = sbodyN ⟨a, b, c, d, p⟩ := by
  rw [show [76, 68, 71, 49, a] ++ zs 55 = [76, 68, 71, 49, a, 0, 0, 0] ++ (zs 8 ++ (zs 4 ++ (zs 4 ++ (zs 4 ++ zs 32)))) from rfl,
    splice_at (X := [76, 68, 71, 49, a, 0, 0, 0]) (o := 8) rfl (by rw [leN_length, zs_length]),
    show [76, 68, 71, 49, a, 0, 0, 0] ++ (leN b 8 ++ (zs 4 ++ (zs 4 ++ (zs 4 ++ zs 32)))) = ([76, 68, 71, 49, a, 0, 0, 0] ++ leN b 8) ++ (zs 4 ++ (zs 4 ++ (zs 4 ++ zs 32))) by simp only [List.append_assoc],
    splice_at (o := 16) (by simp [leN_length]) (by rw [leN_length, zs_length]),
    show ([76, 68, 71, 49, a, 0, 0, 0] ++ leN b 8) ++ (leN c 4 ++ (zs 4 ++ (zs 4 ++ zs 32))) = (([76, 68, 71, 49, a, 0, 0, 0] ++ leN b 8) ++ leN c 4) ++ (zs 4 ++ (zs 4 ++ zs 32)) by simp only [List.append_assoc],
    splice_at (o := 20) (by simp [leN_length]) (by rw [leN_length, zs_length]),
    show (([76, 68, 71, 49, a, 0, 0, 0] ++ leN b 8) ++ leN c 4) ++ (leN d 4 ++ (zs 4 ++ zs 32)) = ((([76, 68, 71, 49, a, 0, 0, 0] ++ leN b 8) ++ leN c 4) ++ leN d 4) ++ (zs 4 ++ zs 32) by simp only [List.append_assoc],
    splice_at (o := 24) (by simp [leN_length]) (by rw [leN_length, zs_length])]
  simp only [List.append_assoc]
  rfl
theorem made_zs (n : Nat) : (madeCells #[.int .u8 0] (n * 1)).toList = bvs (zs n) := by
  rw [toList_madeCells_one, Nat.mul_one]
  simp [bvs, bv, zs]
theorem own_blk {w : World} {base g n : Nat} {xs : List Nat} (h : OwnU w base (.slice (some ⟨g, 0, none⟩) n n) xs) (hn : xs.length = n) : BlkB w g 5 xs := by
  obtain ⟨⟨_, hv⟩, _⟩ := h
  rcases hv with ⟨e, _⟩ | ⟨g', cap, cur, e, _, hh, _, _, hs, ht⟩
  · cases e
  · injection e with e1 e2 e3
    injection e1 with e1
    injection e1 with e1 _ _
    subst e1 e3
    rw [List.take_of_length_le (by simp; omega)] at ht
    unfold BlkB BlkIs
    rw [hh, ← ht]
theorem blk_own {w : World} {base g n : Nat} {xs : List Nat} (h : BlkB w g 5 xs) (hB : IsB xs) (hn : xs.length = n) (hb : base ≤ g) (hm : n ≤ maxLen) : OwnU w base (.slice (some ⟨g, 0, none⟩) n n) xs := by
  refine ⟨⟨by simp [bvs], .inr ⟨g, n, _, by rw [hn], hb, h, by omega, hm, by simp [bvs, hn], by rw [List.take_of_length_le (by simp [bvs])]⟩⟩, hB⟩
theorem copy_letters {za : Array Value} (hza : za = zarr 60) (w : World) : ∃ w2, (Builtin.copy_ #[24, 9] 3 #[.slice (some ⟨w.heap.size, 0, none⟩) 60 60, .string ⟨#[76, 68, 71, 49]⟩]).run Tryd.prog (w.alloc (.cells za 56)) = .ok (.int .i64 4) w2 ∧
    BlkB w2 w.heap.size 56 ([76, 68, 71, 49] ++ zs 56) ∧ Below w.heap.size w w2 := by
  have h := Lib.run_copy_row_string (P := Tryd.prog) (w.alloc (.cells za 56)) 24 9 3 5 w.heap.size 0 60 60 ⟨#[76, 68, 71, 49]⟩ za 56 und_bytes byte_size (heap_alloc_new w _) (by decide) (by rw [hza]; decide)
  refine ⟨_, h, ?_, ?_⟩
  · have h2 := setRow_heap (w.alloc (.cells za 56)) w.heap.size za (za.toList.take 0 ++ Lib.byteCells (ByteArray.mk #[76, 68, 71, 49]).data.toList ++ za.toList.drop (0 + (ByteArray.mk #[76, 68, 71, 49]).size)).toArray 56 (0, 0) (heap_alloc_new w _)
    unfold BlkB BlkIs
    rw [h2, hza]
    rfl
  · exact below_setRow ((Below.refl _ _).alloc (Nat.le_refl _) _) (Nat.le_refl _) _
set_option maxHeartbeats 1000000 in
theorem packSuper_any (s : Sup) (w : World) :
    Calls Tryd.prog 9 #[supV s] w fun e w' => PackedS w.heap.size s e w' ∧ Below w.heap.size w w' := by
  obtain ⟨a, b, c, d, p⟩ := s
  have HV : Hid (∀ w, Calls Tryd.prog 26 #[.agg #[.int .i64 a, .int .i64 b, .int .i64 c, .int .i64 d, .int .i64 p]] w fun e w' => e = .returned (.bool (decide (Sup.Ok ⟨a, b, c, d, p⟩))) ∧ Below w.heap.size w w') := valid_any ⟨a, b, c, d, p⟩
  show Calls Tryd.prog 9 #[.agg #[.int .i64 a, .int .i64 b, .int .i64 c, .int .i64 d, .int .i64 p]] w fun e w' => PackedS w.heap.size ⟨a, b, c, d, p⟩ e w' ∧ Below w.heap.size w w'
  have HSB0 : Hid (BlkIs (w.alloc (.cells #[.int .i64 a, .int .i64 b, .int .i64 c, .int .i64 d, .int .i64 p] 23)) w.heap.size 23 (supA a b c d p)) := BlkIs.new w _ _
  by_cases hok : Sup.Ok ⟨a, b, c, d, p⟩
  · rw [decide_eq_true hok] at HV
    have HR := Lib.hid (packSN_ok hok)
    obtain ⟨za, HZA⟩ : ∃ za, Hid (za = zarr 60) := ⟨_, rfl⟩
    have hz := (zero_of_info zarr60_info).1
    rw [← HZA.out] at hz
    go_enter Tryd.func9, Tryd.ntmps9
    go_wp2_with fail
    refine (HV.out _).mono ?_
    rintro e w1 ⟨rfl, hb1⟩
    have HB1 := Lib.hid (((Below.refl w.heap.size w).alloc (Nat.le_refl _) _).trans (hb1.mono (by simp)))
    have HSB1 := Lib.hid (HSB0.out.below hb1)
    have hs0 := (sup_at HSB1.out).1
    clear hb1 HV HSB0
    obtain ⟨w2, hcp, hb2, hB2⟩ := copy_letters HZA.out w1
    have hg01 : w.heap.size < w1.heap.size := HSB1.out.lt
    have HB2 := Lib.hid (HB1.out.trans (hB2.mono HB1.out.size))
    have HSB2 := Lib.hid (HSB1.out.below hB2)
    replace hs0 := (sup_at HSB2.out).1
    have hc4 := hb2.cell (i := 4) (by decide)
    have hf4 := BlkIs.frozen hb2 4
    have ho := hok
    unfold Sup.Ok at ho
    dsimp only at ho
    obtain ⟨an, rfl⟩ := Int.eq_ofNat_of_zero_le (show 0 ≤ a by omega)
    obtain ⟨bn, rfl⟩ := Int.eq_ofNat_of_zero_le (show 0 ≤ b by omega)
    obtain ⟨cn, rfl⟩ := Int.eq_ofNat_of_zero_le (show 0 ≤ c by omega)
    obtain ⟨dn, rfl⟩ := Int.eq_ofNat_of_zero_le (show 0 ≤ d by omega)
    obtain ⟨pn, rfl⟩ := Int.eq_ofNat_of_zero_le (show 0 ≤ p by omega)
    have HC2 := Lib.hid (hb2.set 4 an)
    have HB3 := Lib.hid (HB2.out.setCell (p := ⟨w1.heap.size, 4, none⟩) (by show w.heap.size ≤ w1.heap.size; omega) (.int .u8 (an : Int)))
    have HSB3 : Hid (BlkIs (w2.setCell ⟨w1.heap.size, 4, none⟩ (.int .u8 (an : Int))) w.heap.size 23 (supA an bn cn dn pn)) := HSB2.out.far (by show w.heap.size ≠ w1.heap.size; omega) _
    clear hb2 hB2
    rw [set60] at HC2
    have HLA : Hid (([76, 68, 71, 49, an] ++ zs 55).length = 60) := rfl
    obtain ⟨LA, HLE⟩ : ∃ LA, Hid (LA = [76, 68, 71, 49, an] ++ zs 55) := ⟨_, rfl⟩
    rw [← HLE.out] at HC2 HLA
    go_wp2_with fail
    clear hc4 hf4 hs0 hcp HSB1 HSB2 HB1 HB2
    generalize w2.setCell ⟨w1.heap.size, 4, none⟩ (.int .u8 (an : Int)) = w3 at *
    obtain ⟨g, HG⟩ : ∃ g, Hid (g = w1.heap.size) := ⟨_, rfl⟩
    rw [← HG.out] at HC2 hg01 ⊢
    have hf0 := (sup_at HSB3.out).2.1
    go_still_tail 3, (by kernel_rfl)
    change wpList _ _ _ _ _ w3.drew
    replace HC2 : Hid (BlkB w3.drew g 56 LA) := HC2.out
    replace HB3 : Hid (Below w.heap.size w w3.drew) := Lib.hid (drewN_below HB3.out 1)
    replace HSB3 : Hid (BlkIs w3.drew w.heap.size 23 (supA an bn cn dn pn)) := HSB3.out
    clear hf0
    generalize w3.drew = x0 at *
    go_wp2_with fail
    refine (put_any g 8 52 52 8 bn 56 LA x0 HC2.out (by omega) (by rw [HLA.out]; omega) (by omega)).mono ?_
    rintro e y0 ⟨rfl, hbk, hgk⟩
    have HCn0 := Lib.hid hbk
    have HBn0 := Lib.hid (HB3.out.grown hgk HB3.out.size (fun k hk => by injection hk with hk; omega))
    have HSBn0 := Lib.hid (HSB3.out.grown hgk (fun h => by injection h with h; omega))
    have HLn0 : Hid ((splice LA 8 (leN bn 8)).length = 60) := by
      show (splice LA 8 (leN bn 8)).length = 60
      rw [splice_length' (by rw [leN_length, HLA.out]; omega), HLA.out]
    clear hbk hgk HC2 HB3 HSB3
    go_wp2_with fail
    have hf1 := (sup_at HSBn0.out).2.2.1
    go_still_tail 3, (by kernel_rfl)
    change wpList _ _ _ _ _ y0.drew
    replace HCn0 : Hid (BlkB y0.drew g 56 (splice LA 8 (leN bn 8))) := HCn0.out
    replace HBn0 : Hid (Below w.heap.size w y0.drew) := Lib.hid (drewN_below HBn0.out 1)
    replace HSBn0 : Hid (BlkIs y0.drew w.heap.size 23 (supA an bn cn dn pn)) := HSBn0.out
    clear hf1
    generalize y0.drew = x1 at *
    go_wp2_with fail
    refine (put_any g 16 44 44 4 cn 56 (splice LA 8 (leN bn 8)) x1 HCn0.out (by omega) (by rw [HLn0.out]; omega) (by omega)).mono ?_
    rintro e y1 ⟨rfl, hbk, hgk⟩
    have HCn1 := Lib.hid hbk
    have HBn1 := Lib.hid (HBn0.out.grown hgk HBn0.out.size (fun k hk => by injection hk with hk; omega))
    have HSBn1 := Lib.hid (HSBn0.out.grown hgk (fun h => by injection h with h; omega))
    have HLn1 : Hid ((splice (splice LA 8 (leN bn 8)) 16 (leN cn 4)).length = 60) := by
      show (splice (splice LA 8 (leN bn 8)) 16 (leN cn 4)).length = 60
      rw [splice_length' (by rw [leN_length, HLn0.out]; omega), HLn0.out]
    clear hbk hgk HCn0 HBn0 HSBn0
    go_wp2_with fail
    have hf2 := (sup_at HSBn1.out).2.2.2.1
    go_still_tail 3, (by kernel_rfl)
    change wpList _ _ _ _ _ y1.drew
    replace HCn1 : Hid (BlkB y1.drew g 56 (splice (splice LA 8 (leN bn 8)) 16 (leN cn 4))) := HCn1.out
    replace HBn1 : Hid (Below w.heap.size w y1.drew) := Lib.hid (drewN_below HBn1.out 1)
    replace HSBn1 : Hid (BlkIs y1.drew w.heap.size 23 (supA an bn cn dn pn)) := HSBn1.out
    clear hf2
    generalize y1.drew = x2 at *
    go_wp2_with fail
    refine (put_any g 20 40 40 4 dn 56 (splice (splice LA 8 (leN bn 8)) 16 (leN cn 4)) x2 HCn1.out (by omega) (by rw [HLn1.out]; omega) (by omega)).mono ?_
    rintro e y2 ⟨rfl, hbk, hgk⟩
    have HCn2 := Lib.hid hbk
    have HBn2 := Lib.hid (HBn1.out.grown hgk HBn1.out.size (fun k hk => by injection hk with hk; omega))
    have HSBn2 := Lib.hid (HSBn1.out.grown hgk (fun h => by injection h with h; omega))
    have HLn2 : Hid ((splice (splice (splice LA 8 (leN bn 8)) 16 (leN cn 4)) 20 (leN dn 4)).length = 60) := by
      show (splice (splice (splice LA 8 (leN bn 8)) 16 (leN cn 4)) 20 (leN dn 4)).length = 60
      rw [splice_length' (by rw [leN_length, HLn1.out]; omega), HLn1.out]
    clear hbk hgk HCn1 HBn1 HSBn1
    go_wp2_with fail
    have hf3 := (sup_at HSBn2.out).2.2.2.2
    go_still_tail 3, (by kernel_rfl)
    change wpList _ _ _ _ _ y2.drew
    replace HCn2 : Hid (BlkB y2.drew g 56 (splice (splice (splice LA 8 (leN bn 8)) 16 (leN cn 4)) 20 (leN dn 4))) := HCn2.out
    replace HBn2 : Hid (Below w.heap.size w y2.drew) := Lib.hid (drewN_below HBn2.out 1)
    replace HSBn2 : Hid (BlkIs y2.drew w.heap.size 23 (supA an bn cn dn pn)) := HSBn2.out
    clear hf3
    generalize y2.drew = x3 at *
    go_wp2_with fail
    refine (put_any g 24 36 36 4 pn 56 (splice (splice (splice LA 8 (leN bn 8)) 16 (leN cn 4)) 20 (leN dn 4)) x3 HCn2.out (by omega) (by rw [HLn2.out]; omega) (by omega)).mono ?_
    rintro e y3 ⟨rfl, hbk, hgk⟩
    have HCn3 := Lib.hid hbk
    have HBn3 := Lib.hid (HBn2.out.grown hgk HBn2.out.size (fun k hk => by injection hk with hk; omega))
    have HSBn3 := Lib.hid (HSBn2.out.grown hgk (fun h => by injection h with h; omega))
    have HLn3 : Hid ((splice (splice (splice (splice LA 8 (leN bn 8)) 16 (leN cn 4)) 20 (leN dn 4)) 24 (leN pn 4)).length = 60) := by
      show (splice (splice (splice (splice LA 8 (leN bn 8)) 16 (leN cn 4)) 20 (leN dn 4)) 24 (leN pn 4)).length = 60
      rw [splice_length' (by rw [leN_length, HLn2.out]; omega), HLn2.out]
    clear hbk hgk HCn2 HBn2 HSBn2
    have HBody : Hid (splice (splice (splice (splice LA 8 (leN bn 8)) 16 (leN cn 4)) 20 (leN dn 4)) 24 (leN pn 4) = sbodyN ⟨an, bn, cn, dn, pn⟩) := by
      show splice (splice (splice (splice LA 8 (leN bn 8)) 16 (leN cn 4)) 20 (leN dn 4)) 24 (leN pn 4) = _
      rw [HLE.out]
      exact superBody
    obtain ⟨i0, hi, hz0, hz1, hz2⟩ := info_parts info_byte
    have HI := Lib.hid (And.intro hi (And.intro hz0 (And.intro hz1 hz2)))
    clear hi hz0 hz1 hz2 HSBn3
    go_wp2_with (at_make; refine wpList_make_full y3 rfl _ _ _ rfl w.heap.size 5 i0 (.int .u8 0) 1 und_bytes HI.out.1 HI.out.2.1 HI.out.2.2.1 .i64 .i64 256 256 256 rfl rfl rfl rfl (by rw [HI.out.2.2.2]; omega) (by unfold maxLen; omega) HBn3.out.size ?_; intro w5 hown5 hg5; have HM5 := Lib.hid hown5; have HG5 := Lib.hid hg5; clear hown5 hg5)
    obtain ⟨gp, HGP⟩ : ∃ gp, Hid (gp = y3.heap.size) := ⟨_, rfl⟩
    have hgp : w.heap.size ≤ gp := by rw [HGP.out]; exact HBn3.out.size
    have hne : g ≠ gp := by
      have h1 := (BlkIs.lt HCn3.out)
      rw [HGP.out]
      omega
    rw [← HGP.out] at HM5 ⊢
    have hrow : OwnU w5 w.heap.size (.slice (some ⟨gp, 0, none⟩) 256 256) (zs 256) := ⟨by have h := HM5.out; rw [show (Value.int IntKind.u8 0).cells = #[.int .u8 0] from rfl, made_zs] at h; rw [zs_length]; exact h, zs_isB _⟩
    have HP5 := Lib.hid (own_blk hrow (zs_length 256))
    have HB5 := Lib.hid (HBn3.out.grown HG5.out HBn3.out.size (fun k hk => by cases hk))
    have hC5 : BlkB w5 g 56 (sbodyN ⟨an, bn, cn, dn, pn⟩) := by
      have h := BlkIs.grown HCn3.out HG5.out (fun h => by cases h)
      rw [HBody.out] at h
      exact h
    have hS := seal_any (some ⟨g, 0, none⟩) 60 60 (sbodyN ⟨an, bn, cn, dn, pn⟩) w5 (hC5.whole (sbodyN_isB hok) (sbodyN_length _)) (fun h => by cases h) (by omega)
    rw [show sealN (sbodyN ⟨an, bn, cn, dn, pn⟩) = sectN ⟨an, bn, cn, dn, pn⟩ from rfl] at hS
    have HS := Lib.hid hS
    have HSL := Lib.hid (sectN_length ⟨an, bn, cn, dn, pn⟩)
    have HSE : Hid (superN ⟨an, bn, cn, dn, pn⟩ = sectN ⟨an, bn, cn, dn, pn⟩ ++ zs 192) := rfl
    have HSI := Lib.hid (superN_isB hok)
    clear hrow hC5 hS HM5 HG5 HBody HCn3 HBn3 HI HLn0 HLn1 HLn2 HLn3 HLE HLA HZA hz hok
    refine HS.out.mono ?_
    rintro e w6 ⟨v, rfl, hown6, hb6⟩
    obtain ⟨A6, c6, rfl, hr6, _, _, _⟩ := hown6.form
    rw [HSL.out] at hr6 ⊢
    have HR6 := Lib.hid hr6
    have HP6 := Lib.hid (BlkIs.below HP5.out hb6)
    have HB6 := Lib.hid (HB5.out.trans (hb6.mono HB5.out.size))
    clear hown6 hr6 hb6 HS HP5 HB5
    go_wp2_with (refine copyB (o := ⟨some 35, _, _, _, _, _⟩) rfl (.tmp 32) (.tmp 34) 24 24 rfl 5 und_bytes byte_size A6 gp 0 256 256 64 c6 rfl rfl _ _ HP6.out _ HR6.out (by omega) (by rw [zs_length]; omega) w.heap.size w HB6.out hgp ?_; intro w7 HB7 hG7; have HG7 := Lib.hid hG7; clear hG7)
    go_ret2
    refine ⟨⟨_, by rw [HR.out]; rfl, ?_⟩, HG7.out⟩
    rw [HR.out]
    have hfin := HB7.out
    rw [show zs 256 = [] ++ (zs 64 ++ zs 192) by rw [List.nil_append, ← zs_split], splice_at (o := 0) rfl (by rw [zs_length, HSL.out]), List.nil_append, ← HSE.out] at hfin
    exact blk_own hfin HSI.out (superN_length _) hgp (by unfold maxLen; omega)
  · rw [decide_eq_false hok] at HV
    have HR := Lib.hid (packSN_bad hok)
    clear hok
    go_enter Tryd.func9, Tryd.ntmps9
    go_wp2_with fail
    refine (HV.out _).mono ?_
    rintro e w1 ⟨rfl, hb1⟩
    have HB1 := Lib.hid (((Below.refl w.heap.size w).alloc (Nat.le_refl _) _).trans (hb1.mono (by simp)))
    clear hb1
    go_wp2_with fail
    go_ret2
    exact ⟨⟨_, by rw [HR.out]; rfl, by rw [HR.out]; exact Own.nil _ _ _⟩, HB1.out⟩
end Go.Proofs.YtbjbpgbpefkbhaaDoor
