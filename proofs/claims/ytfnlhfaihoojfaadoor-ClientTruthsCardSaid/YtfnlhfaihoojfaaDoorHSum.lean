/- digest.Hasher.Sum. -/
import Derived.Test.YtfnlhfaihoojfaaDoorMake
namespace Go.Proofs.YtfnlhfaihoojfaaDoor
open Go.RowKit
/-- What comes behind a text, its length so far written in k bytes. -/
def tailL (m long k : Nat) : List Nat := 128 :: (List.replicate m 0 ++ ((be64 long).take k ++ List.replicate (127 - m - k) 0))
theorem tailL_length (m long : Nat) {k : Nat} (hm : m ≤ 63) (hk : k ≤ 8) : (tailL m long k).length = 128 := by
  simp [tailL, be64_length]; omega
theorem be64_at (long : Nat) {k : Nat} (hk : k < 8) : (be64 long).getD k 0 = long / 2 ^ (56 - 8 * k) % 256 := by
  simp [be64, List.getD, hk]
theorem tailL_next (m long : Nat) {k : Nat} (hm : m ≤ 63) (hk : k < 8) : (tailL m long k).set (m + 1 + k) (long / 2 ^ (56 - 8 * k) % 256) = tailL m long (k + 1) := by
  unfold tailL
  rw [show m + 1 + k = (m + k) + 1 by omega, List.set_cons_succ, List.set_append_right _ _ (by simp), List.length_replicate, show m + k - m = k by omega,
    List.set_append_right _ _ (by rw [List.length_take, be64_length]; omega), List.length_take, be64_length, show k - min k 8 = 0 by omega,
    show 127 - m - k = (127 - m - (k + 1)) + 1 by omega, List.replicate_succ, List.set_cons_zero, take_succ_getD (by rw [be64_length]; exact hk), be64_at long hk]
  simp
theorem tailL_zero (m long : Nat) (hm : m ≤ 63) : (zs 128).set 0 128 = tailL m long 0 := by
  unfold zs tailL
  rw [show 128 = 127 + 1 from rfl, List.replicate_succ, List.set_cons_zero, List.take_zero, List.nil_append, List.replicate_append_replicate]
  congr 2
  omega
theorem be64_isB (n : Nat) : IsB (be64 n) := by
  intro x hx
  simp only [be64, List.mem_map] at hx
  obtain ⟨i, _, rfl⟩ := hx
  exact Nat.mod_lt _ (by decide)
theorem tailL_isB (m long k : Nat) : IsB (tailL m long k) := by
  intro x hx
  simp only [tailL, List.mem_cons, List.mem_append] at hx
  rcases hx with rfl | hx | hx | hx
  · decide
  · have := (List.mem_replicate.1 hx).2; omega
  · exact be64_isB long x (List.mem_of_mem_take hx)
  · have := (List.mem_replicate.1 hx).2; omega
theorem tailL_pad (n : Nat) : (tailL ((119 - n % 64) % 64) (8 * n % 18446744073709551616) 8).take ((119 - n % 64) % 64 + 9) = padN n := by
  unfold tailL padN
  rw [List.take_of_length_le (l := be64 _) (by rw [be64_length]; exact Nat.le_refl _), List.take_succ_cons, ← List.append_assoc,
    List.take_append_of_le_length (by simp [be64_length]), List.take_of_length_le (by simp [be64_length])]
  rfl
/-- The first k numbers of the state as bytes, zeros behind them. -/
def digL (L : List Nat) (k : Nat) : List Nat := (L.take k).flatMap beB ++ zs (32 - 4 * k)
theorem flat_length (L : List Nat) : (L.flatMap beB).length = 4 * L.length := by
  induction L with
  | nil => rfl
  | cons x r ih => simp [List.flatMap_cons, ih, beB]; omega
theorem digL_length {L : List Nat} (h : L.length = 8) {k : Nat} (hk : k ≤ 8) : (digL L k).length = 32 := by
  simp only [digL, List.length_append, flat_length, List.length_take, zs_length, h]; omega
theorem digL_next {L : List Nat} (h : L.length = 8) {k : Nat} (hk : k < 8) :
    ((((digL L k).set (4 * k) (L.getD k 0 / 16777216 % 256)).set (4 * k + 1) (L.getD k 0 / 65536 % 256)).set (4 * k + 2) (L.getD k 0 / 256 % 256)).set (4 * k + 3) (L.getD k 0 % 256) = digL L (k + 1) := by
  have hf : ((L.take k).flatMap beB).length = 4 * k := by rw [flat_length, List.length_take, h]; omega
  unfold digL
  rw [List.set_append_right _ _ (by omega), hf, List.set_append_right _ _ (by omega), hf, List.set_append_right _ _ (by omega), hf, List.set_append_right _ _ (by omega), hf,
    show 4 * k - 4 * k = 0 by omega, show 4 * k + 1 - 4 * k = 1 by omega, show 4 * k + 2 - 4 * k = 2 by omega, show 4 * k + 3 - 4 * k = 3 by omega,
    take_succ_getD (by omega), List.flatMap_append]
  unfold zs
  rw [show 32 - 4 * k = (32 - 4 * (k + 1)) + 1 + 1 + 1 + 1 by omega]
  simp [List.replicate_succ, beB]
theorem digL_zero (L : List Nat) : digL L 0 = zs 32 := rfl
theorem digL_end {L : List Nat} (h : L.length = 8) : digL L 8 = L.flatMap beB := by
  unfold digL
  rw [List.take_of_length_le (by omega)]
  simp [zs]
theorem beB_isB (L : List Nat) : IsB (L.flatMap beB) := by
  intro x hx
  simp only [List.mem_flatMap, beB, List.mem_cons, List.not_mem_nil, or_false] at hx
  obtain ⟨y, _, rfl | rfl | rfl | rfl⟩ := hx <;> exact Nat.mod_lt _ (by decide)
theorem shaN_length (xs : List Nat) : (shaN xs).length = 32 := by
  unfold shaN
  rw [flat_length, St.list_length]
theorem shaN_isB (xs : List Nat) : IsB (shaN xs) := beB_isB _
theorem info_dig : (Tryd.prog.info? 29).map (fun i => (i.zero, i.size)) = some (some (.agg (zarr 32)), 32) := by kernel_rfl
theorem row_dig : (Tryd.prog.underlying 29).map (·.isRow) = some true := by kernel_rfl
theorem size_dig : (Tryd.prog.info? 29).map (·.size) = some 32 := (zero_of_info info_dig).2
theorem info_128 : (Tryd.prog.info? 109).map (fun i => (i.zero, i.size)) = some (some (.agg (zarr 128)), 128) := by kernel_rfl
theorem v24 {v : Nat} (h : v < 4294967296) : (v : Int) / 16777216 = ((v / 16777216 % 256 : Nat) : Int) := by omega
theorem hash_state {w : World} {g : Nat} {xs : List Nat} (h : HashIs w g (xs ++ padN xs.length)) :
    ∃ L, Hid (L.flatMap beB = shaN xs) ∧ Hid (L.length = 8 ∧ IsW L) ∧ Hid (∀ w', Below w.heap.size w w' → w'.rangeAt g 0 (uvs L)) := by
  obtain ⟨rest, _, _, _, h4⟩ := h
  refine ⟨(stAt (xs ++ padN xs.length) ((xs ++ padN xs.length).length / 64)).list, ?_, ⟨St.list_length _, St.list_w (stAt_ok _ _)⟩, fun w' hb j v hj => ?_⟩
  · rfl
  · have h5 := (h4.below hb).1.range
    refine h5 j v ?_
    have hl : j < (uvs (stAt (xs ++ padN xs.length) ((xs ++ padN xs.length).length / 64)).list).length := by
      rcases Nat.lt_or_ge j (uvs (stAt (xs ++ padN xs.length) ((xs ++ padN xs.length).length / 64)).list).length with h | h
      · exact h
      · rw [List.getElem?_eq_none h] at hj; cases hj
    unfold hcells
    rw [List.getElem?_append_left hl]
    exact hj
set_option maxRecDepth 100000 in
set_option maxHeartbeats 4000000 in
theorem hsum_any (g : Nat) (xs : List Nat) (w : World) (hh : HashIs w g xs) (hk : TabU w 2 kL) :
    Calls Tryd.prog 41 #[.pointer (some ⟨g, 0, none⟩)] w fun e w' => e = .returned (.agg (bvs (shaN xs)).toArray) ∧ Below w.heap.size w w' := by
  have HK := Lib.hid hk
  obtain ⟨rest, h1, h2, h3, h4⟩ := hh
  have HH := Lib.hid h4
  have HR := Lib.hid h4.1.range
  have hl := hcells_length (xs.length % 64) (xs.length % 18446744073709551616) h4.2.1 h4.2.2
  have HL := Lib.hid hl
  have HX := Lib.hid (show IsB rest ∧ IsB xs ∧ rest.take (xs.length % 64) = xs.drop (64 * (xs.length / 64)) from ⟨h1, h2, h3⟩)
  clear h1 h2 h3 h4 hl hk
  go_enter Tryd.func41, Tryd.ntmps41
  obtain ⟨m, HM⟩ : ∃ m, Hid ((119 - xs.length % 64) % 64 = m) := ⟨_, rfl⟩
  have hm63 : m ≤ 63 := by
    have := HM.out
    omega
  have hm : ((119 : Int) - ((xs.length % 64 : Nat) : Int) % 64) % 64 = (m : Int) := by
    have := HM.out
    omega
  have h119 : (0 : Int) ≤ 119 - ((xs.length % 64 : Nat) : Int) % 64 := by omega
  obtain ⟨long, HLG⟩ : ∃ long, Hid (8 * xs.length % 18446744073709551616 = long) := ⟨_, rfl⟩
  have hlg : IntKind.u64.wrap (((xs.length % 18446744073709551616 : Nat) : Int) * 8) = (long : Int) := by
    rw [← HLG.out]
    simp [IntKind.wrap, IntKind.bits, IntKind.signed]
    omega
  have h64 : xs.length % 64 < 64 := Nat.mod_lt _ (by decide)
  generalize htk : xs.length % 18446744073709551616 = tk at *
  have HTK := Lib.hid htk
  clear htk
  generalize hhv : xs.length % 64 = hv at *
  have HHV := Lib.hid hhv
  clear hhv
  go_wp2_with (first
    | (refine allocNew (o := ⟨some 2, _, _, _, _, _⟩) (by rfl) 29 rfl _ _ info_dig ?_; intro w1 HB1 HW1 HS1)
    | (refine loadRange (o := ⟨some 13, _, _, _, _, _⟩) (by rfl) 86 (.tmp 12) rfl g 0 _ rfl (HH.out.below HW1.out).1.range row_h (by rw [size_h, HL.out]) ?_)
    | (refine allocNew (o := ⟨some 3, _, _, _, _, _⟩) (by rfl) 86 rfl _ _ info_h ?_; intro w2 HB2 HW2 HS2)
    | (refine hstore (o := ⟨none, _, _, _, _, _⟩) (by rfl) 86 (.tmp 3) (.tmp 13) rfl w1.heap.size _ rest _ _ rfl rfl HH.out.2.1 HH.out.2.2 _ (by rfl) HB2.out size_h ?_; intro w3 HH3 hg3; have ct := HH3.out.taken; have ch := HH3.out.have_; have hs3 := hg3.size; have HG3 := Lib.hid hg3; clear hg3)
    | (refine allocNew (o := ⟨some 5, _, _, _, _, _⟩) (by rfl) 109 rfl _ _ info_128 ?_; intro w4 HB4 HW4 HS4; have f5 := BlkIs.frozen HB4.out 0; have c5 := BlkB.cell (xs := zs 128) HB4.out (i := 0) (by rw [zs_length]; omega); have ch5 := (HH3.out.below HW4.out).have_; clear ch ct))
  have HT5 : Hid (BlkB (w4.setCell ⟨w3.heap.size, 0, none⟩ (.int .u8 128)) w3.heap.size 109 (tailL m long 0)) := by
    have h1 := BlkB.set (w := w4) (xs := zs 128) HB4.out 0 128
    rwa [tailL_zero m long hm63] at h1
  have HNG : Hid (w1.heap.size + 1 ≤ w3.heap.size) := by
    have h1 := HS2.out
    show _ ≤ _
    omega
  have HH5 : Hid (HBlk (w4.setCell ⟨w3.heap.size, 0, none⟩ (.int .u8 128)) w1.heap.size (stAt xs (xs.length / 64)).list rest hv tk) := (HH3.out.below HW4.out).grown (grown_setCell w4 (g := w3.heap.size) 0 _) (by have := HNG.out; intro e; injection e with e; omega)
  have HB3 : Hid (Below w1.heap.size w1 w3) := HW2.out.grown HG3.out (by rw [HS2.out]; omega) (fun k hk => by injection hk with hk; omega)
  have HB5 : Hid (Below w1.heap.size w1 (w4.setCell ⟨w3.heap.size, 0, none⟩ (.int .u8 128))) := (HB3.out.trans (HW4.out.mono HB3.out.size)).setCell HB3.out.size _
  have HS5 : Hid ((w4.setCell ⟨w3.heap.size, 0, none⟩ (.int .u8 128)).heap.size = w3.heap.size + 1) := by
    show _ = _
    rw [← HS4.out]
    simp [World.setCell]
  clear f5 c5 ch5 HB4 HW4 HS4 HH3 HG3 hlg h119 hm HB3 HB2 HW2 HS2 hs3
  generalize w4.setCell ⟨w3.heap.size, 0, none⟩ (.int .u8 128) = w5 at *
  generalize w3.heap.size = gt at *
  have HTL : Hid (∀ k, k ≤ 8 → (tailL m long k).length = 128) := fun k hk => tailL_length m long hm63 hk
  have HLL : Hid (long < 18446744073709551616) := by
    have := HLG.out
    show _ < _
    omega
  go_loopw [24] (fun i wr => ∃ k : Nat, k ≤ 8 ∧ i = .int .i64 k ∧ Hid (BlkB wr gt 109 (tailL m long k)) ∧ Hid (HBlk wr w1.heap.size (stAt xs (xs.length / 64)).list rest hv tk) ∧ Hid (Below w1.heap.size w1 wr) ∧ Hid (wr.heap.size = gt + 1)) (fun i _ => 8 - (intOf i).toNat)
  case atStart => exact ⟨0, by omega, rfl, HT5.out, HH5.out, HB5.out, HS5.out⟩
  case round =>
    clear HT5 HH5 HB5 HS5
    obtain ⟨k, hk, rfl, HT, HH, HB, HS⟩ := hrel
    obtain ⟨w6, rfl⟩ : ∃ w6, w6 = wr := ⟨_, rfl⟩
    by_cases hlt : k < 8
    · have cf := BlkIs.frozen HT.out (m + 1 + k)
      have cc := HT.out.cell (i := m + 1 + k) (by rw [HTL.out k hk]; omega)
      have i0 : (0 : Int) ≤ 56 - 8 * (k : Int) := by omega
      have n0 : (56 - 8 * (k : Int)).toNat = 56 - 8 * k := by omega
      have n1 : ((m : Int) + 1 + (k : Int)).toNat = m + 1 + k := by omega
      have i1 : (m : Int) + 1 + (k : Int) < 128 := by omega
      have i2 : (0 : Int) ≤ (m : Int) + 1 + (k : Int) := by omega
      have HTn : Hid (∀ e : Int, e = ((long / 2 ^ (56 - 8 * k) % 256 : Nat) : Int) → BlkB (w6.setCell ⟨gt, m + 1 + k, none⟩ (.int .u8 e)) gt 109 (tailL m long (k + 1))) := by
        intro e he
        subst he
        have h1 := BlkB.set (w := w6) HT.out (m + 1 + k) (long / 2 ^ (56 - 8 * k) % 256)
        rwa [tailL_next m long hm63 hlt] at h1
      have HHn : Hid (∀ v, HBlk (w6.setCell ⟨gt, m + 1 + k, none⟩ v) w1.heap.size (stAt xs (xs.length / 64)).list rest hv tk) := fun v => HH.out.grown (grown_setCell w6 (g := gt) _ v) (by have := HNG.out; intro e; injection e with e; omega)
      have HBn : Hid (∀ v, Below w1.heap.size w1 (w6.setCell ⟨gt, m + 1 + k, none⟩ v)) := fun v => HB.out.setCell (by have := HNG.out; show _ ≤ gt; omega) v
      have HSn : Hid (∀ v, (w6.setCell ⟨gt, m + 1 + k, none⟩ v).heap.size = gt + 1) := fun v => by
        show _ = _
        rw [← HS.out]
        simp [World.setCell]
      generalize (tailL m long k).getD (m + 1 + k) 0 = zz at *
      go_wp2_with fail
      go_roundw
      case rel => exact ⟨k + 1, by omega, by go_num, HTn.out _ (by simp), HHn.out _, HBn.out _, HSn.out _⟩
      case measure => simp [intOf]; omega
    · have HXs : Hid (HashIs w6 w1.heap.size xs) := ⟨rest, HX.out.1, HX.out.2.1, by rw [HHV.out]; exact HX.out.2.2, by rw [HHV.out, HTK.out]; exact HH.out⟩
      have HY : Hid (RB w6 (some ⟨gt, 0, none⟩) (m + 9) (padN xs.length)) := by
        have h1 := HT.out.reads (tailL_isB m long k) (o := 0) (n := m + 9) (by rw [HTL.out k hk]; omega)
        rw [List.drop_zero, show k = 8 by omega, ← HM.out, ← HLG.out, ← HHV.out, tailL_pad] at h1
        rw [← HM.out, ← HHV.out]
        exact h1
      have hlp : (padN xs.length).length = m + 9 := HY.out.1
      have HLP := Lib.hid hlp
      have i0 : (0 : Int) ≤ (m : Int) + 1 + 8 := by omega
      have i1 : (m : Int) + 1 + 8 ≤ 128 := by omega
      have n0 : ((m : Int) + 1 + 8).toNat = m + 9 := by omega
      have HKx : Hid (TabU w6 2 kL) := (HK.out.below HW1.out).below HB.out
      have HNR : Hid (w1.heap.size ≠ 2) := fun e => by
        have h1 := (HK.out.below HW1.out).1
        omega
      clear hlp
      go_wp2_with (first
        | (go_at_call 40; ((refine (write_any w1.heap.size (some ⟨gt, 0, none⟩) (m + 9) 128 xs (padN xs.length) _ HY.out (by omega) (by omega) (fun _ ad e => by injection e with e; subst e; have := HNG.out; show gt ≠ _; omega) HXs.out HKx.out HNR.out).mono ?_); rintro e w7 ⟨rfl, hh7, hg7⟩; obtain ⟨L, HLS, HLW, HLR⟩ := hash_state hh7; have HG7 := Lib.hid hg7; clear hh7 hg7))
        | (refine allocNew (o := ⟨some 8, _, _, _, _, _⟩) (by rfl) 29 rfl _ _ info_dig ?_; intro w8 HB8 HW8 HS8)
        | (refine loadRange (o := ⟨some 43, _, _, _, _, _⟩) (by rfl) 82 (.tmp 42) rfl w1.heap.size 0 (uvs L) rfl (HLR.out _ HW8.out) row_8 (by rw [size_8, uvs_length, HLW.out.1]) ?_))
      have HB7 : Hid (Below w1.heap.size w1 w7) := HB.out.grown HG7.out HB.out.size (fun k hk => by injection hk with hk; omega)
      have HNG8 : Hid (w1.heap.size ≤ w7.heap.size) := HB7.out.size
      have HB9 : Hid (Below w1.heap.size w1 w8) := HB7.out.trans (HW8.out.mono HNG8.out)
      have HD8 : Hid (BlkB w8 w7.heap.size 29 (digL L 0)) := HB8.out
      clear HB8 HW8 HS8 HG7 HLR HB7 HT HH HB HS HXs HY HKx
      generalize w7.heap.size = gd at *
      go_loopw [44] (fun i wr => ∃ k : Nat, k ≤ 8 ∧ i = .int .i64 k ∧ Hid (BlkB wr gd 29 (digL L k)) ∧ Hid (Below w1.heap.size w1 wr)) (fun i _ => 8 - (intOf i).toNat)
      case atStart => exact ⟨0, by omega, rfl, HD8.out, HB9.out⟩
      case round =>
        clear HD8 HB9
        obtain ⟨k, hk, rfl, HD, HB⟩ := hrel
        obtain ⟨w6, rfl⟩ : ∃ w6, w6 = wr := ⟨_, rfl⟩
        by_cases hlt : k < 8
        · have hx := uvs_at L (i := k) (by rw [HLW.out.1]; exact hlt)
          rw [← List.getElem?_toArray] at hx
          have hdl := digL_length HLW.out.1 hk
          have c0 := HD.out.cell (i := 4 * k) (by rw [hdl]; omega)
          have c1 := HD.out.cell (i := 4 * k + 1) (by rw [hdl]; omega)
          have c2 := HD.out.cell (i := 4 * k + 2) (by rw [hdl]; omega)
          have c3 := HD.out.cell (i := 4 * k + 3) (by rw [hdl]; omega)
          have f0 := BlkIs.frozen HD.out (4 * k)
          have f1 := BlkIs.frozen HD.out (4 * k + 1)
          have f2 := BlkIs.frozen HD.out (4 * k + 2)
          have f3 := BlkIs.frozen HD.out (4 * k + 3)
          have hv := HLW.out.2.getD k
          have HDn : Hid (∀ a b c d : Int, a = ((L.getD k 0 / 16777216 % 256 : Nat) : Int) → b = ((L.getD k 0 / 65536 % 256 : Nat) : Int) → c = ((L.getD k 0 / 256 % 256 : Nat) : Int) → d = ((L.getD k 0 % 256 : Nat) : Int) →
              BlkB ((((w6.setCell ⟨gd, 4 * k, none⟩ (.int .u8 a)).setCell ⟨gd, 4 * k + 1, none⟩ (.int .u8 b)).setCell ⟨gd, 4 * k + 2, none⟩ (.int .u8 c)).setCell ⟨gd, 4 * k + 3, none⟩ (.int .u8 d)) gd 29 (digL L (k + 1))) := by
            intro a b c d ha hb hc hd
            subst ha hb hc hd
            have h1 := (((HD.out.set (4 * k) (L.getD k 0 / 16777216 % 256)).set (4 * k + 1) (L.getD k 0 / 65536 % 256)).set (4 * k + 2) (L.getD k 0 / 256 % 256)).set (4 * k + 3) (L.getD k 0 % 256)
            rwa [digL_next HLW.out.1 hlt] at h1
          have HBn : Hid (∀ a b c d : Value, Below w1.heap.size w1 ((((w6.setCell ⟨gd, 4 * k, none⟩ a).setCell ⟨gd, 4 * k + 1, none⟩ b).setCell ⟨gd, 4 * k + 2, none⟩ c).setCell ⟨gd, 4 * k + 3, none⟩ d)) := fun a b c d =>
            (((HB.out.setCell (by exact HNG8.out) a).setCell (by exact HNG8.out) b).setCell (by exact HNG8.out) c).setCell (by exact HNG8.out) d
          generalize (digL L k).getD (4 * k) 0 = z0 at *
          generalize (digL L k).getD (4 * k + 1) 0 = z1 at *
          generalize (digL L k).getD (4 * k + 2) 0 = z2 at *
          generalize (digL L k).getD (4 * k + 3) 0 = z3 at *
          generalize L.getD k 0 = v at *
          clear hdl
          have hrun := fun w => index_at (P := Tryd.prog) (t := 82) (e := 81) w Tryd.underlying82 (by kernel_rfl) (by kernel_rfl) hlt hx
          clear hx
          have i0 : (0 : Int) ≤ 4 * (k : Int) := by omega
          have i1 : (0 : Int) ≤ 4 * (k : Int) + 1 := by omega
          have i2 : (0 : Int) ≤ 4 * (k : Int) + 2 := by omega
          have i3 : (0 : Int) ≤ 4 * (k : Int) + 3 := by omega
          have j0 : 4 * (k : Int) < 32 := by omega
          have j1 : 4 * (k : Int) + 1 < 32 := by omega
          have j2 : 4 * (k : Int) + 2 < 32 := by omega
          have j3 : 4 * (k : Int) + 3 < 32 := by omega
          have n0 : (4 * (k : Int)).toNat = 4 * k := by omega
          have n1 : (4 * (k : Int) + 1).toNat = 4 * k + 1 := by omega
          have n2 : (4 * (k : Int) + 2).toNat = 4 * k + 2 := by omega
          have n3 : (4 * (k : Int) + 3).toNat = 4 * k + 3 := by omega
          go_wp2_with fail
          go_roundw
          case rel => exact ⟨k + 1, by omega, by go_num, HDn.out _ _ _ _ (v24 hv) (by simp) (by simp) (by simp), HBn.out _ _ _ _⟩
          case measure => simp [intOf]; omega
        · have HDf : Hid (BlkB w6 gd 29 (shaN xs)) := by
            have h1 := HD.out
            rwa [show k = 8 by omega, digL_end HLW.out.1, HLS.out] at h1
          have HX3 := Lib.hid (HDf.out.whole (shaN_isB xs) (shaN_length xs))
          have HR3 : Hid (BlkB w6 w.heap.size 29 (zs 32)) := BlkIs.belowB HB1.out HB.out (by rw [HS1.out]; omega)
          have HW3 : Hid (Below w.heap.size w w6) := HW1.out.trans (HB.out.mono (by rw [HS1.out]; omega))
          have HLC := Lib.hid (shaN_length xs)
          go_wp2_with (first
            | (refine wpList_load_arr (o := ⟨some 75, _, _, _, _, _⟩) (by rfl) 29 (.tmp 8) rfl ⟨gd, 0, none⟩ 32 (shaN xs) rfl HX3.out (by omega) row_dig size_dig ?_)
            | (refine storeA (o := ⟨none, _, _, _, _, _⟩) (by rfl) 29 (.tmp 2) (.tmp 75) rfl w.heap.size 32 (shaN xs) (zs 32) 29 rfl rfl HR3.out size_dig HLC.out (zs_length 32) w.heap.size w HW3.out (by omega) ?_; intro wf HRf HBf))
          exact arr_ret (g := w.heap.size) (n := 32) rfl rfl HRf.out HLC.out row_dig size_dig rfl ⟨rfl, HBf⟩
end Go.Proofs.YtfnlhfaihoojfaaDoor
