/- Pages and superblocks as lists of bytes. Plain facts; no program is named here. -/
import Derived.Test.YtbjbpgbpefkbhaaDoorCrc
import Derived.Test.YtbjbpgbpefkbhaaDoorLib
namespace Go.Proofs.YtbjbpgbpefkbhaaDoor
/-- A number as n bytes, the lowest first. -/
def leN (v n : Nat) : List Nat := (List.range n).map fun i => v / 256 ^ i % 256
theorem leN_length (v n : Nat) : (leN v n).length = n := by simp [leN]
theorem leN_isB (v n : Nat) : IsB (leN v n) := by
  intro x hx
  simp only [leN, List.mem_map] at hx
  obtain ⟨i, _, rfl⟩ := hx
  exact Nat.mod_lt _ (by omega)
theorem leN_succ (v n : Nat) : leN v (n + 1) = leN v n ++ [v / 256 ^ n % 256] := by simp [leN, List.range_succ]
theorem leN_zero (v : Nat) : leN v 0 = [] := rfl
theorem leN_cons (v n : Nat) : leN v (n + 1) = v % 256 :: leN (v / 256) n := by
  simp only [leN, List.range_succ_eq_map, List.map_cons, List.map_map, Nat.pow_zero, Nat.div_one]
  congr 1
  apply List.map_congr_left
  intro i _
  simp only [Function.comp, Nat.pow_succ, Nat.div_div_eq_div_mul, Nat.mul_comm]
def leVal : List Nat → Nat
  | [] => 0
  | x :: xs => x + 256 * leVal xs
theorem leVal_leN (v : Nat) : ∀ n, leVal (leN v n) = v % 256 ^ n := by
  intro n
  induction n generalizing v with
  | zero => simp [leN_zero, leVal, Nat.mod_one]
  | succ n ih =>
    rw [leN_cons, leVal, ih, Nat.pow_succ, Nat.mul_comm (256 ^ n) 256, Nat.mod_mul]
theorem leN_leVal : ∀ {xs : List Nat}, IsB xs → leN (leVal xs) xs.length = xs
  | [], _ => rfl
  | x :: xs, h => by
    have hx : x < 256 := h x (by simp)
    rw [List.length_cons, leN_cons, leVal, show (x + 256 * leVal xs) % 256 = x by omega, show (x + 256 * leVal xs) / 256 = leVal xs by omega, leN_leVal (xs := xs) fun y hy => h y (by simp [hy])]
theorem leVal_lt : ∀ {xs : List Nat}, IsB xs → leVal xs < 256 ^ xs.length
  | [], _ => by simp [leVal]
  | x :: xs, h => by
    have hx : x < 256 := h x (by simp)
    have ih := leVal_lt (xs := xs) fun y hy => h y (by simp [hy])
    rw [List.length_cons, leVal, Nat.pow_succ]
    omega
def zs (n : Nat) : List Nat := List.replicate n 0
theorem zs_length (n : Nat) : (zs n).length = n := by simp [zs]
theorem zs_isB (n : Nat) : IsB (zs n) := by
  intro x hx
  simp only [zs, List.mem_replicate] at hx
  omega
theorem zs_of {xs : List Nat} (h : ∀ x ∈ xs, x = 0) : xs = zs xs.length := List.eq_replicate_of_mem h
theorem zs_all (n : Nat) : ∀ x ∈ zs n, x = 0 := fun x hx => by
  simp only [zs, List.mem_replicate] at hx
  exact hx.2
/-! ### Pages -/
def bodyN (kind page : Nat) (load : List Nat) : List Nat := [kind, load.length] ++ (leN page 4 ++ (load ++ zs (246 - load.length)))
theorem bodyN_length {kind page : Nat} {load : List Nat} (h : load.length ≤ 246) : (bodyN kind page load).length = 252 := by
  simp only [bodyN, List.length_append, leN_length, zs_length, List.length_cons, List.length_nil]
  omega
theorem bodyN_isB {kind page : Nat} {load : List Nat} (hk : kind < 256) (h : load.length ≤ 246) (hl : IsB load) : IsB (bodyN kind page load) := by
  refine IsB.app ?_ ((leN_isB _ _).app (hl.app (zs_isB _)))
  intro x hx
  simp only [List.mem_cons, List.not_mem_nil, or_false] at hx
  omega
def pageN (kind page : Nat) (load : List Nat) : List Nat := sealN (bodyN kind page load)
theorem pageN_length {kind page : Nat} {load : List Nat} (h : load.length ≤ 246) : (pageN kind page load).length = 256 := by
  rw [pageN, sealN_length, bodyN_length h]
theorem sealB {xs : List Nat} (h : IsB xs) : IsB (sealN xs) := IsB.app h (le4_isB _)
theorem pageN_isB {kind page : Nat} {load : List Nat} (hk : kind < 256) (h : load.length ≤ 246) (hl : IsB load) : IsB (pageN kind page load) := sealB (bodyN_isB hk h hl)
def KindOk (k : Int) : Prop := 1 ≤ k ∧ k ≤ 3
def PlaceOk (p : Int) : Prop := 2 ≤ p ∧ p < 4096
instance (k : Int) : Decidable (KindOk k) := inferInstanceAs (Decidable (_ ∧ _))
instance (k : Int) : Decidable (PlaceOk k) := inferInstanceAs (Decidable (_ ∧ _))
def packN (kind page : Int) (load : List Nat) : List Nat × Nat :=
  if ¬ KindOk kind then ([], 50) else if ¬ PlaceOk page then ([], 54) else if 246 < load.length then ([], 51) else (pageN kind.toNat page.toNat load, 0)
theorem packN_kind {kind page : Int} {load : List Nat} (h : ¬ KindOk kind) : packN kind page load = ([], 50) := if_pos h
theorem packN_place {kind page : Int} {load : List Nat} (hk : KindOk kind) (h : ¬ PlaceOk page) : packN kind page load = ([], 54) := by
  rw [packN, if_neg (fun h => h hk), if_pos h]
theorem packN_load {kind page : Int} {load : List Nat} (hk : KindOk kind) (hp : PlaceOk page) (h : 246 < load.length) : packN kind page load = ([], 51) := by
  rw [packN, if_neg (fun h => h hk), if_neg (fun h => h hp), if_pos h]
theorem packN_ok {kind page : Int} {load : List Nat} (hk : KindOk kind) (hp : PlaceOk page) (h : load.length ≤ 246) : packN kind page load = (pageN kind.toNat page.toNat load, 0) := by
  rw [packN, if_neg (fun h => h hk), if_neg (fun h => h hp), if_neg (by omega)]
theorem packN_isB {kind page : Int} {load : List Nat} (h : IsB load) : IsB (packN kind page load).1 := by
  by_cases hk : KindOk kind
  · by_cases hp : PlaceOk page
    · rcases Nat.lt_or_ge 246 load.length with hl | hl
      · rw [packN_load hk hp hl]; exact IsB.nil
      · rw [packN_ok hk hp hl]
        unfold KindOk at hk
        exact pageN_isB (by omega) hl h
    · rw [packN_place hk hp]; exact IsB.nil
  · rw [packN_kind hk]; exact IsB.nil
/-- The page's number that a page's bytes name. -/
def numN (xs : List Nat) : Nat := leVal ((xs.drop 2).take 4)
def loadN (xs : List Nat) : List Nat := (xs.drop 6).take (xs.getD 1 0)
def restZ (xs : List Nat) : Prop := ∀ x ∈ (xs.drop (6 + xs.getD 1 0)).take (246 - xs.getD 1 0), x = 0
instance (xs : List Nat) : Decidable (restZ xs) := inferInstanceAs (Decidable (∀ x ∈ _, _))
def unpackN (page : Int) (xs : List Nat) : Nat × List Nat × Nat :=
  if ¬ PlaceOk page then (0, [], 54) else if xs.length ≠ 256 then (0, [], 53) else if wholeN xs = false then (0, [], 52)
  else if ¬ (1 ≤ xs.getD 0 0 ∧ xs.getD 0 0 ≤ 3) then (0, [], 50) else if 246 < xs.getD 1 0 then (0, [], 51)
  else if (numN xs : Int) ≠ page then (0, [], 54) else if ¬ restZ xs then (0, [], 53) else (xs.getD 0 0, loadN xs, 0)
section
variable {page : Int} {xs : List Nat}
theorem un_place (h : ¬ PlaceOk page) : unpackN page xs = (0, [], 54) := if_pos h
theorem un_len (hp : PlaceOk page) (h : xs.length ≠ 256) : unpackN page xs = (0, [], 53) := by
  rw [unpackN, if_neg (fun h => h hp), if_pos h]
theorem un_sum (hp : PlaceOk page) (hl : xs.length = 256) (h : wholeN xs = false) : unpackN page xs = (0, [], 52) := by
  rw [unpackN, if_neg (fun h => h hp), if_neg (by omega), if_pos h]
theorem un_kind (hp : PlaceOk page) (hl : xs.length = 256) (hw : wholeN xs = true) (h : ¬ (1 ≤ xs.getD 0 0 ∧ xs.getD 0 0 ≤ 3)) : unpackN page xs = (0, [], 50) := by
  rw [unpackN, if_neg (fun h => h hp), if_neg (by omega), if_neg (by simp [hw]), if_pos h]
theorem un_load (hp : PlaceOk page) (hl : xs.length = 256) (hw : wholeN xs = true) (hk : 1 ≤ xs.getD 0 0 ∧ xs.getD 0 0 ≤ 3) (h : 246 < xs.getD 1 0) : unpackN page xs = (0, [], 51) := by
  rw [unpackN, if_neg (fun h => h hp), if_neg (by omega), if_neg (by simp [hw]), if_neg (fun h => h hk), if_pos h]
theorem un_num (hp : PlaceOk page) (hl : xs.length = 256) (hw : wholeN xs = true) (hk : 1 ≤ xs.getD 0 0 ∧ xs.getD 0 0 ≤ 3) (hn : xs.getD 1 0 ≤ 246) (h : (numN xs : Int) ≠ page) : unpackN page xs = (0, [], 54) := by
  rw [unpackN, if_neg (fun h => h hp), if_neg (by omega), if_neg (by simp [hw]), if_neg (fun h => h hk), if_neg (by omega), if_pos h]
theorem un_rest (hp : PlaceOk page) (hl : xs.length = 256) (hw : wholeN xs = true) (hk : 1 ≤ xs.getD 0 0 ∧ xs.getD 0 0 ≤ 3) (hn : xs.getD 1 0 ≤ 246) (hq : (numN xs : Int) = page) (h : ¬ restZ xs) : unpackN page xs = (0, [], 53) := by
  rw [unpackN, if_neg (fun h => h hp), if_neg (by omega), if_neg (by simp [hw]), if_neg (fun h => h hk), if_neg (by omega), if_neg (fun h => h hq), if_pos h]
theorem un_ok (hp : PlaceOk page) (hl : xs.length = 256) (hw : wholeN xs = true) (hk : 1 ≤ xs.getD 0 0 ∧ xs.getD 0 0 ≤ 3) (hn : xs.getD 1 0 ≤ 246) (hq : (numN xs : Int) = page) (h : restZ xs) : unpackN page xs = (xs.getD 0 0, loadN xs, 0) := by
  rw [unpackN, if_neg (fun h => h hp), if_neg (by omega), if_neg (by simp [hw]), if_neg (fun h => h hk), if_neg (by omega), if_neg (fun h => h hq), if_neg (fun k => k h)]
theorem un_cases : unpackN page xs = (0, [], (unpackN page xs).2.2) ∧ (unpackN page xs).2.2 ≠ 0 ∨
    PlaceOk page ∧ xs.length = 256 ∧ wholeN xs = true ∧ (1 ≤ xs.getD 0 0 ∧ xs.getD 0 0 ≤ 3) ∧ xs.getD 1 0 ≤ 246 ∧ (numN xs : Int) = page ∧ restZ xs := by
  by_cases hp : PlaceOk page
  · by_cases hl : xs.length = 256
    · cases hw : wholeN xs
      · exact .inl (by rw [un_sum hp hl hw]; simp)
      · by_cases hk : 1 ≤ xs.getD 0 0 ∧ xs.getD 0 0 ≤ 3
        · by_cases hn : xs.getD 1 0 ≤ 246
          · by_cases hq : (numN xs : Int) = page
            · by_cases h : restZ xs
              · exact .inr ⟨hp, hl, rfl, hk, hn, hq, h⟩
              · exact .inl (by rw [un_rest hp hl hw hk hn hq h]; simp)
            · exact .inl (by rw [un_num hp hl hw hk hn hq]; simp)
          · exact .inl (by rw [un_load hp hl hw hk (by omega)]; simp)
        · exact .inl (by rw [un_kind hp hl hw hk]; simp)
    · exact .inl (by rw [un_len hp hl]; simp)
  · exact .inl (by rw [un_place hp]; simp)
theorem loadN_length (hl : xs.length = 256) (hn : xs.getD 1 0 ≤ 246) : (loadN xs).length = xs.getD 1 0 := by
  rw [loadN, List.length_take, List.length_drop, hl]
  omega
theorem unpackN_isB (h : IsB xs) : IsB (unpackN page xs).2.1 := by
  rcases un_cases (page := page) (xs := xs) with ⟨e, _⟩ | ⟨hp, hl, hw, hk, hn, hq, hr⟩
  · rw [e]; exact IsB.nil
  · rw [un_ok hp hl hw hk hn hq hr]; exact (h.drop _).take _
theorem unpackN_len : (unpackN page xs).2.1.length ≤ 246 := by
  rcases un_cases (page := page) (xs := xs) with ⟨e, _⟩ | ⟨hp, hl, hw, hk, hn, hq, hr⟩
  · rw [e]; simp
  · rw [un_ok hp hl hw hk hn hq hr]
    rw [show (xs.getD 0 0, loadN xs, 0).2.1 = loadN xs from rfl, loadN_length hl hn]
    exact hn
end
/-! ### What is laid comes back -/
theorem sealN_whole' (xs : List Nat) : wholeN (sealN xs) = true := by
  unfold wholeN
  refine decide_eq_true ⟨by rw [sealN_length]; omega, ?_⟩
  rw [sealN_length, Nat.add_sub_cancel, sealN, List.drop_left, List.take_left]
theorem whole_seal {xs : List Nat} (h : wholeN xs = true) : xs = sealN (xs.take (xs.length - 4)) := by
  unfold wholeN at h
  obtain ⟨_, h2⟩ := of_decide_eq_true h
  rw [sealN, ← h2, List.take_append_drop]
section
variable {kind page : Nat} {load : List Nat}
theorem pageN_kind : (pageN kind page load).getD 0 0 = kind := rfl
theorem pageN_len : (pageN kind page load).getD 1 0 = load.length := rfl
theorem pageN_eq : pageN kind page load = [kind, load.length] ++ (leN page 4 ++ (load ++ (zs (246 - load.length) ++ le4 (updN 0 (bodyN kind page load))))) := by
  simp only [pageN, sealN]
  rw [show bodyN kind page load = [kind, load.length] ++ (leN page 4 ++ (load ++ zs (246 - load.length))) from rfl]
  simp only [List.append_assoc]
theorem pageN_num (hp : page < 4294967296) : numN (pageN kind page load) = page := by
  have e : ((pageN kind page load).drop 2).take 4 = leN page 4 := by
    rw [pageN_eq]
    show (leN page 4 ++ _).take 4 = _
    exact List.take_left' (leN_length _ _)
  rw [numN, e, leVal_leN]
  exact Nat.mod_eq_of_lt hp
theorem pageN_drop6 : (pageN kind page load).drop 6 = load ++ (zs (246 - load.length) ++ le4 (updN 0 (bodyN kind page load))) := by
  rw [pageN_eq]
  show (leN page 4 ++ _).drop 4 = _
  exact List.drop_left' (leN_length _ _)
theorem pageN_load : loadN (pageN kind page load) = load := by
  rw [loadN, pageN_drop6, pageN_len]
  exact List.take_left' rfl
theorem pageN_rest : restZ (pageN kind page load) := by
  unfold restZ
  rw [pageN_len, ← List.drop_drop, pageN_drop6, List.drop_left' rfl, List.take_left' (zs_length _)]
  exact zs_all _
theorem un_pack (hk : 1 ≤ kind ∧ kind ≤ 3) (hp : PlaceOk page) (hl : load.length ≤ 246) : unpackN page (pageN kind page load) = (kind, load, 0) := by
  have h1 : page < 4096 := by unfold PlaceOk at hp; omega
  rw [un_ok hp (pageN_length hl) (sealN_whole' _) hk hl (by rw [pageN_num (by omega)]) pageN_rest, pageN_load, pageN_kind]
theorem un_other {q : Int} (hk : 1 ≤ kind ∧ kind ≤ 3) (hp : page < 4096) (hl : load.length ≤ 246) (hq : q ≠ page) : unpackN q (pageN kind page load) = (0, [], 54) := by
  by_cases h : PlaceOk q
  · exact un_num h (pageN_length hl) (sealN_whole' _) hk hl (by rw [pageN_num (by omega)]; exact fun e => hq e.symm)
  · exact un_place h
end
theorem take_drop_split (xs : List Nat) (a b : Nat) : xs.drop a = (xs.drop a).take b ++ xs.drop (a + b) := by
  rw [← List.drop_drop, List.take_append_drop]
/-- What Unpack takes is what Pack lays. -/
theorem only_law {page : Int} {xs : List Nat} (hB : IsB xs) (hp : PlaceOk page) (hl : xs.length = 256) (hw : wholeN xs = true) (hk : 1 ≤ xs.getD 0 0 ∧ xs.getD 0 0 ≤ 3) (hn : xs.getD 1 0 ≤ 246) (hq : (numN xs : Int) = page) (hr : restZ xs) :
    packN (xs.getD 0 0 : Nat) page (loadN xs) = (xs, 0) := by
  have hll := loadN_length hl hn
  rw [packN_ok (by unfold KindOk; omega) hp (by omega)]
  congr 1
  have hs := whole_seal hw
  rw [hl] at hs
  rw [pageN]
  rw [show bodyN (((xs.getD 0 0 : Nat) : Int).toNat) page.toNat (loadN xs) = [xs.getD 0 0, (loadN xs).length] ++ (leN page.toNat 4 ++ (loadN xs ++ zs (246 - (loadN xs).length))) from rfl, hll]
  have e1 : xs = [xs.getD 0 0, xs.getD 1 0] ++ xs.drop 2 := by
    rcases xs with _ | ⟨a, _ | ⟨b, ys⟩⟩
    · simp at hl
    · simp at hl
    · rfl
  have e2 : leN page.toNat 4 = (xs.drop 2).take 4 := by
    have h4 : ((xs.drop 2).take 4).length = 4 := by simp [hl]
    have h := leN_leVal ((hB.drop 2).take 4)
    rw [h4] at h
    rw [← h, ← hq, Int.toNat_natCast, numN]
  have e3 : zs (246 - xs.getD 1 0) = (xs.drop (6 + xs.getD 1 0)).take (246 - xs.getD 1 0) := by
    have h := zs_of hr
    rw [show ((xs.drop (6 + xs.getD 1 0)).take (246 - xs.getD 1 0)).length = 246 - xs.getD 1 0 by simp [hl]; omega] at h
    exact h.symm
  have e4 : xs.take 252 = [xs.getD 0 0, xs.getD 1 0] ++ ((xs.drop 2).take 4 ++ (loadN xs ++ (xs.drop (6 + xs.getD 1 0)).take (246 - xs.getD 1 0))) := by
    have h5 : xs.drop 2 = (xs.drop 2).take 4 ++ xs.drop 6 := take_drop_split xs 2 4
    have h6 : xs.drop 6 = loadN xs ++ xs.drop (6 + xs.getD 1 0) := take_drop_split xs 6 _
    have h7 : xs.drop (6 + xs.getD 1 0) = (xs.drop (6 + xs.getD 1 0)).take (246 - xs.getD 1 0) ++ xs.drop 252 := by
      have := take_drop_split xs (6 + xs.getD 1 0) (246 - xs.getD 1 0)
      rwa [show 6 + xs.getD 1 0 + (246 - xs.getD 1 0) = 252 by omega] at this
    have h8 : xs = ([xs.getD 0 0, xs.getD 1 0] ++ ((xs.drop 2).take 4 ++ (loadN xs ++ (xs.drop (6 + xs.getD 1 0)).take (246 - xs.getD 1 0)))) ++ xs.drop 252 := by
      simp only [List.append_assoc]
      rw [← h7, ← h6, ← h5]
      exact e1
    have h9 : ([xs.getD 0 0, xs.getD 1 0] ++ ((xs.drop 2).take 4 ++ (loadN xs ++ (xs.drop (6 + xs.getD 1 0)).take (246 - xs.getD 1 0)))).length = 252 := by
      simp only [List.length_append, List.length_cons, List.length_nil, List.length_take, List.length_drop, hll, hl]
      omega
    conv => lhs; rw [h8]
    exact List.take_left' h9
  rw [e2, e3, ← e4]
  exact hs.symm
end Go.Proofs.YtbjbpgbpefkbhaaDoor
