/- Superblocks as lists of bytes. Plain facts; no program is named here. -/
import Derived.Test.YtbjbpgbpefkbhaaDoorFrame
namespace Go.Proofs.YtbjbpgbpefkbhaaDoor
structure Sup where
  width : Int
  gen : Int
  mark : Int
  head : Int
  pages : Int
deriving DecidableEq
def Sup.zero : Sup := ⟨0, 0, 0, 0, 0⟩
def Sup.Ok (s : Sup) : Prop := (1 ≤ s.width ∧ s.width ≤ 32) ∧ (0 ≤ s.gen ∧ s.gen ≤ 1099511627776) ∧ (3 ≤ s.pages ∧ s.pages ≤ 4096) ∧ (2 ≤ s.mark ∧ s.mark ≤ s.pages) ∧ (s.head = 0 ∨ 2 ≤ s.head ∧ s.head < s.mark)
instance (s : Sup) : Decidable s.Ok := inferInstanceAs (Decidable (_ ∧ _))
def sbodyN (s : Sup) : List Nat := [76, 68, 71, 49, s.width.toNat, 0, 0, 0] ++ (leN s.gen.toNat 8 ++ (leN s.mark.toNat 4 ++ (leN s.head.toNat 4 ++ (leN s.pages.toNat 4 ++ zs 32))))
theorem sbodyN_length (s : Sup) : (sbodyN s).length = 60 := by
  simp only [sbodyN, List.length_append, leN_length, zs_length, List.length_cons, List.length_nil]
theorem sbodyN_isB {s : Sup} (h : s.Ok) : IsB (sbodyN s) := by
  refine IsB.app ?_ ((leN_isB _ _).app ((leN_isB _ _).app ((leN_isB _ _).app ((leN_isB _ _).app (zs_isB _)))))
  intro x hx
  unfold Sup.Ok at h
  simp only [List.mem_cons, List.not_mem_nil, or_false] at hx
  omega
def sectN (s : Sup) : List Nat := sealN (sbodyN s)
theorem sectN_length (s : Sup) : (sectN s).length = 64 := by rw [sectN, sealN_length, sbodyN_length]
def superN (s : Sup) : List Nat := sectN s ++ zs 192
theorem superN_length (s : Sup) : (superN s).length = 256 := by rw [superN, List.length_append, sectN_length, zs_length]
theorem superN_isB {s : Sup} (h : s.Ok) : IsB (superN s) := (sealB (sbodyN_isB h)).app (zs_isB _)
def packSN (s : Sup) : List Nat × Nat := if s.Ok then (superN s, 0) else ([], 53)
theorem packSN_ok {s : Sup} (h : s.Ok) : packSN s = (superN s, 0) := if_pos h
theorem packSN_bad {s : Sup} (h : ¬ s.Ok) : packSN s = ([], 53) := if_neg h
theorem packSN_isB (s : Sup) : IsB (packSN s).1 := by
  by_cases h : s.Ok
  · rw [packSN_ok h]; exact superN_isB h
  · rw [packSN_bad h]; exact IsB.nil
def cutV (xs : List Nat) (o n : Nat) : Nat := leVal ((xs.drop o).take n)
def cutZ (xs : List Nat) (o n : Nat) : Prop := ∀ x ∈ (xs.drop o).take n, x = 0
instance (xs : List Nat) (o n : Nat) : Decidable (cutZ xs o n) := inferInstanceAs (Decidable (∀ x ∈ _, _))
/-- The fields that a sector tells. -/
def toldN (xs : List Nat) : Sup := ⟨xs.getD 4 0, cutV xs 8 7, cutV xs 16 4, cutV xs 20 4, cutV xs 24 4⟩
def formN (xs : List Nat) : Prop := xs.take 4 = [76, 68, 71, 49] ∧ cutZ xs 5 3 ∧ cutZ xs 28 32 ∧ cutZ xs 15 1
instance (xs : List Nat) : Decidable (formN xs) := inferInstanceAs (Decidable (_ ∧ _))
def unsupN (xs : List Nat) : Sup × Nat :=
  if xs.length ≠ 256 then (Sup.zero, 53) else if wholeN (xs.take 64) = false then (Sup.zero, 52) else if ¬ formN xs then (Sup.zero, 53) else if ¬ (toldN xs).Ok then (Sup.zero, 53) else (toldN xs, 0)
section
variable {xs : List Nat}
theorem us_len (h : xs.length ≠ 256) : unsupN xs = (Sup.zero, 53) := if_pos h
theorem us_sum (hl : xs.length = 256) (h : wholeN (xs.take 64) = false) : unsupN xs = (Sup.zero, 52) := by
  rw [unsupN, if_neg (by omega), if_pos h]
theorem us_form (hl : xs.length = 256) (hw : wholeN (xs.take 64) = true) (h : ¬ formN xs) : unsupN xs = (Sup.zero, 53) := by
  rw [unsupN, if_neg (by omega), if_neg (by simp [hw]), if_pos h]
theorem us_bad (hl : xs.length = 256) (hw : wholeN (xs.take 64) = true) (hf : formN xs) (h : ¬ (toldN xs).Ok) : unsupN xs = (Sup.zero, 53) := by
  rw [unsupN, if_neg (by omega), if_neg (by simp [hw]), if_neg (fun h => h hf), if_pos h]
theorem us_ok (hl : xs.length = 256) (hw : wholeN (xs.take 64) = true) (hf : formN xs) (h : (toldN xs).Ok) : unsupN xs = (toldN xs, 0) := by
  rw [unsupN, if_neg (by omega), if_neg (by simp [hw]), if_neg (fun h => h hf), if_neg (fun k => k h)]
theorem us_cases : unsupN xs = (Sup.zero, (unsupN xs).2) ∧ (unsupN xs).2 ≠ 0 ∨ xs.length = 256 ∧ wholeN (xs.take 64) = true ∧ formN xs ∧ (toldN xs).Ok := by
  by_cases hl : xs.length = 256
  · cases hw : wholeN (xs.take 64)
    · exact .inl (by rw [us_sum hl hw]; simp)
    · by_cases hf : formN xs
      · by_cases h : (toldN xs).Ok
        · exact .inr ⟨hl, rfl, hf, h⟩
        · exact .inl (by rw [us_bad hl hw hf h]; simp)
      · exact .inl (by rw [us_form hl hw hf]; simp)
  · exact .inl (by rw [us_len hl]; simp)
end
theorem cutV_at {xs ys zs : List Nat} {o n v : Nat} (h : xs = ys ++ (leN v n ++ zs)) (ho : ys.length = o) (hv : v < 256 ^ n) : cutV xs o n = v := by
  rw [cutV, h, List.drop_left' ho, List.take_left' (leN_length _ _), leVal_leN]
  exact Nat.mod_eq_of_lt hv
/-- What PackSuper lays UnpackSuper gives back, whatever stands behind the first sector. -/
theorem us_super {s : Sup} (h : s.Ok) {tl : List Nat} (ht : tl.length = 192) : unsupN (sectN s ++ tl) = (s, 0) := by
  have h' := h
  unfold Sup.Ok at h'
  have hl : (sectN s ++ tl).length = 256 := by rw [List.length_append, sectN_length, ht]
  have htk : (sectN s ++ tl).take 64 = sectN s := List.take_left' (sectN_length s)
  have e : sectN s ++ tl = [76, 68, 71, 49, s.width.toNat, 0, 0, 0] ++ (leN s.gen.toNat 8 ++ (leN s.mark.toNat 4 ++ (leN s.head.toNat 4 ++ (leN s.pages.toNat 4 ++ (zs 32 ++ (le4 (updN 0 (sbodyN s)) ++ tl)))))) := by
    simp only [sectN, sealN]
    rw [show sbodyN s = [76, 68, 71, 49, s.width.toNat, 0, 0, 0] ++ (leN s.gen.toNat 8 ++ (leN s.mark.toNat 4 ++ (leN s.head.toNat 4 ++ (leN s.pages.toNat 4 ++ zs 32)))) from rfl]
    simp only [List.append_assoc]
  have e8 : leN s.gen.toNat 8 = leN s.gen.toNat 7 ++ [0] := by
    rw [leN_succ, show s.gen.toNat / 256 ^ 7 % 256 = 0 by omega]
  have hgen : cutV (sectN s ++ tl) 8 7 = s.gen.toNat := by
    refine cutV_at (ys := [76, 68, 71, 49, s.width.toNat, 0, 0, 0]) (zs := [0] ++ (leN s.mark.toNat 4 ++ (leN s.head.toNat 4 ++ (leN s.pages.toNat 4 ++ (zs 32 ++ (le4 (updN 0 (sbodyN s)) ++ tl)))))) ?_ rfl (by omega)
    rw [e, e8, List.append_assoc]
  have hmark : cutV (sectN s ++ tl) 16 4 = s.mark.toNat := by
    refine cutV_at (ys := [76, 68, 71, 49, s.width.toNat, 0, 0, 0] ++ leN s.gen.toNat 8) (zs := leN s.head.toNat 4 ++ (leN s.pages.toNat 4 ++ (zs 32 ++ (le4 (updN 0 (sbodyN s)) ++ tl)))) ?_ (by simp [leN_length]) (by omega)
    rw [e]; simp only [List.append_assoc]
  have hhead : cutV (sectN s ++ tl) 20 4 = s.head.toNat := by
    refine cutV_at (ys := [76, 68, 71, 49, s.width.toNat, 0, 0, 0] ++ (leN s.gen.toNat 8 ++ leN s.mark.toNat 4)) (zs := leN s.pages.toNat 4 ++ (zs 32 ++ (le4 (updN 0 (sbodyN s)) ++ tl))) ?_ (by simp [leN_length]) (by omega)
    rw [e]; simp only [List.append_assoc]
  have hpages : cutV (sectN s ++ tl) 24 4 = s.pages.toNat := by
    refine cutV_at (ys := [76, 68, 71, 49, s.width.toNat, 0, 0, 0] ++ (leN s.gen.toNat 8 ++ (leN s.mark.toNat 4 ++ leN s.head.toNat 4))) (zs := zs 32 ++ (le4 (updN 0 (sbodyN s)) ++ tl)) ?_ (by simp [leN_length]) (by omega)
    rw [e]; simp only [List.append_assoc]
  have hw : (sectN s ++ tl).getD 4 0 = s.width.toNat := by rw [e]; rfl
  have htold : toldN (sectN s ++ tl) = s := by
    unfold toldN
    rw [hgen, hmark, hhead, hpages, hw]
    rcases s with ⟨a, b, c, d, f⟩
    simp only at h'
    simp only [Sup.mk.injEq]
    omega
  have hf : formN (sectN s ++ tl) := by
    refine ⟨by rw [e]; rfl, ?_, ?_, ?_⟩
    · have : ((sectN s ++ tl).drop 5).take 3 = [0, 0, 0] := by rw [e]; rfl
      unfold cutZ; rw [this]; simp
    · have : ((sectN s ++ tl).drop 28).take 32 = zs 32 := by
        have e2 : sectN s ++ tl = ([76, 68, 71, 49, s.width.toNat, 0, 0, 0] ++ (leN s.gen.toNat 8 ++ (leN s.mark.toNat 4 ++ (leN s.head.toNat 4 ++ leN s.pages.toNat 4)))) ++ (zs 32 ++ (le4 (updN 0 (sbodyN s)) ++ tl)) := by
          rw [e]; simp only [List.append_assoc]
        rw [e2, List.drop_left' (by simp [leN_length]), List.take_left' (zs_length _)]
      unfold cutZ; rw [this]; exact zs_all _
    · have : ((sectN s ++ tl).drop 15).take 1 = [0] := by
        have e2 : sectN s ++ tl = ([76, 68, 71, 49, s.width.toNat, 0, 0, 0] ++ leN s.gen.toNat 7) ++ ([0] ++ (leN s.mark.toNat 4 ++ (leN s.head.toNat 4 ++ (leN s.pages.toNat 4 ++ (zs 32 ++ (le4 (updN 0 (sbodyN s)) ++ tl)))))) := by
          rw [e, e8]; simp only [List.append_assoc]
        rw [e2, List.drop_left' (by simp [leN_length])]
        rfl
      unfold cutZ; rw [this]; simp
  rw [us_ok hl (by rw [htk]; exact sealN_whole' _) hf (by rw [htold]; exact h), htold]
/-- What UnpackSuper takes is what PackSuper lays, in the first sector. -/
theorem us_only {xs : List Nat} (hB : IsB xs) (hl : xs.length = 256) (hw : wholeN (xs.take 64) = true) (hf : formN xs) (_ : (toldN xs).Ok) : sectN (toldN xs) = xs.take 64 := by
  have h64 : (xs.take 64).length = 64 := by rw [List.length_take, hl]; rfl
  have hs := whole_seal hw
  rw [h64, List.take_take] at hs
  rw [hs, sectN]
  congr 1
  have le_at : ∀ o n, o + n ≤ 256 → leN (cutV xs o n) n = (xs.drop o).take n := fun o n h => by
    have h4 : ((xs.drop o).take n).length = n := by rw [List.length_take, List.length_drop, hl]; omega
    have h5 := leN_leVal ((hB.drop o).take n)
    rwa [h4] at h5
  have z_at : ∀ o n, o + n ≤ 256 → cutZ xs o n → (xs.drop o).take n = zs n := fun o n h hz => by
    have h4 : ((xs.drop o).take n).length = n := by rw [List.length_take, List.length_drop, hl]; omega
    have h5 := zs_of hz
    rwa [h4] at h5
  obtain ⟨f1, f2, f3, f4⟩ := hf
  have e15 := z_at 15 1 (by omega) f4
  have e8 : leN (cutV xs 8 7) 8 = (xs.drop 8).take 7 ++ (xs.drop 15).take 1 := by
    have hlt : cutV xs 8 7 < 256 ^ 7 := by
      have := leVal_lt ((hB.drop 8).take 7)
      rwa [show ((xs.drop 8).take 7).length = 7 by simp [hl]] at this
    rw [leN_succ, le_at 8 7 (by omega), e15, Nat.div_eq_of_lt hlt]
    rfl
  show [76, 68, 71, 49, ((xs.getD 4 0 : Nat) : Int).toNat, 0, 0, 0] ++ (leN ((cutV xs 8 7 : Nat) : Int).toNat 8 ++ (leN ((cutV xs 16 4 : Nat) : Int).toNat 4 ++ (leN ((cutV xs 20 4 : Nat) : Int).toNat 4 ++ (leN ((cutV xs 24 4 : Nat) : Int).toNat 4 ++ zs 32)))) = _
  simp only [Int.toNat_natCast]
  rw [e8, le_at 16 4 (by omega), le_at 20 4 (by omega), le_at 24 4 (by omega), ← z_at 28 32 (by omega) f3]
  have e5 := z_at 5 3 (by omega) f2
  have s0 : xs = xs.take 4 ++ xs.drop 4 := (List.take_append_drop 4 xs).symm
  have s4 : xs.drop 4 = xs.getD 4 0 :: xs.drop 5 := by
    rw [List.drop_eq_getElem_cons (by omega)]
    simp [List.getD, hl]
  have s5 := take_drop_split xs 5 3
  have s8 := take_drop_split xs 8 7
  have s15 := take_drop_split xs 15 1
  have s16 := take_drop_split xs 16 4
  have s20 := take_drop_split xs 20 4
  have s24 := take_drop_split xs 24 4
  have s28 := take_drop_split xs 28 32
  have hh : xs = ([76, 68, 71, 49, xs.getD 4 0, 0, 0, 0] ++ (((xs.drop 8).take 7 ++ (xs.drop 15).take 1) ++ ((xs.drop 16).take 4 ++ ((xs.drop 20).take 4 ++ ((xs.drop 24).take 4 ++ (xs.drop 28).take 32))))) ++ xs.drop 60 := by
    simp only [List.append_assoc]
    rw [← s28, ← s24, ← s20, ← s16, ← s15, ← s8]
    show xs = [76, 68, 71, 49] ++ (xs.getD 4 0 :: ([0, 0, 0] ++ xs.drop 8))
    rw [show [0, 0, 0] = zs 3 from rfl, ← e5, ← s5, ← s4, ← f1]
    exact s0
  have hlen : ([76, 68, 71, 49, xs.getD 4 0, 0, 0, 0] ++ (((xs.drop 8).take 7 ++ (xs.drop 15).take 1) ++ ((xs.drop 16).take 4 ++ ((xs.drop 20).take 4 ++ ((xs.drop 24).take 4 ++ (xs.drop 28).take 32))))).length = 60 := by
    simp [hl]
  conv => rhs; rw [show min (64 - 4) 64 = 60 by omega, hh]
  exact (List.take_left' hlen).symm
end Go.Proofs.YtbjbpgbpefkbhaaDoor
