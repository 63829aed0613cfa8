/- Superblocks written in turn. Plain facts; no program is named here. -/
import Derived.Test.YtbjbpgbpefkbhaaChoice
namespace Go.Proofs.Ytbjbpgbpefkbhaa
/-- A page whose first sector is b's and whose others are tail's, zeros behind it. -/
def slotN (b tail : List Nat) : List Nat := b.take 64 ++ (tail ++ zs 192).take 192
theorem tail192 (tail : List Nat) : ((tail ++ zs 192).take 192).length = 192 := by
  rw [List.length_take, List.length_append, zs_length]
  omega
theorem slotN_length {b tail : List Nat} (h : b.length = 256) : (slotN b tail).length = 256 := by
  rw [slotN, List.length_append, tail192, List.length_take, h]
  rfl
theorem slotN_isB {b tail : List Nat} (h : IsB b) (ht : IsB tail) : IsB (slotN b tail) := (h.take 64).app ((ht.app (zs_isB _)).take _)
/-- xs: the slot of s's generation; ys: the slot of the one ahead of it. -/
def Stands (s : Sup) (xs ys : List Nat) : Prop :=
  s.Ok ∧ IsB xs ∧ IsB ys ∧ ∃ (r : Sup) (t u : List Nat), r.Ok ∧ t.length = 192 ∧ u.length = 192 ∧ s.gen = r.gen + 1 ∧ s.width = r.width ∧ s.pages = r.pages ∧ r.mark ≤ s.mark ∧ xs = sectN s ++ t ∧ ys = sectN r ++ u
theorem Stands.length {s : Sup} {xs ys : List Nat} (h : Stands s xs ys) : xs.length = 256 ∧ ys.length = 256 := by
  obtain ⟨_, _, _, r, t, u, _, ht, hu, _, _, _, _, rfl, rfl⟩ := h
  exact ⟨by rw [List.length_append, sectN_length, ht], by rw [List.length_append, sectN_length, hu]⟩
theorem Stands.even {s : Sup} {xs ys : List Nat} (h : Stands s xs ys) (hp : s.gen % 2 = 0) : chooseN xs ys = (s, 0) := by
  obtain ⟨hs, _, _, r, t, u, hr, ht, hu, h1, h2, h3, h4, rfl, rfl⟩ := h
  rw [choose_both (by rw [us_super hs ht]) (by rw [us_super hr hu]), us_super hs ht, us_super hr hu]
  unfold newerN
  dsimp only
  rw [if_pos (by omega)]
theorem Stands.odd {s : Sup} {xs ys : List Nat} (h : Stands s xs ys) (hp : s.gen % 2 = 1) : chooseN ys xs = (s, 0) := by
  obtain ⟨hs, _, _, r, t, u, hr, ht, hu, h1, h2, h3, h4, rfl, rfl⟩ := h
  rw [choose_both (by rw [us_super hr hu]) (by rw [us_super hs ht]), us_super hs ht, us_super hr hu]
  unfold newerN
  dsimp only
  rw [if_neg (by omega), if_pos (by omega)]
theorem take64 (s : Sup) (t : List Nat) : (sectN s ++ t).take 64 = sectN s := List.take_left' (sectN_length s)
theorem Stands.lost {s : Sup} {xs ys : List Nat} (h : Stands s xs ys) {tail : List Nat} (ht : IsB tail) : Stands s xs (slotN ys tail) := by
  have hB := slotN_isB h.2.2.1 ht
  obtain ⟨hs, hx, _, r, t, u, hr, h1, h2, h3, h4, h5, h6, rfl, rfl⟩ := h
  refine ⟨hs, hx, hB, r, t, _, hr, h1, tail192 tail, h3, h4, h5, h6, rfl, ?_⟩
  rw [slotN, take64]
theorem Stands.got {s u : Sup} {xs ys : List Nat} (h : Stands s xs ys) {tail : List Nat} (ht : IsB tail) (hu : u.Ok) (h1 : u.gen = s.gen + 1) (h2 : u.width = s.width) (h3 : u.pages = s.pages) (h4 : s.mark ≤ u.mark) :
    Stands u (slotN (superN u) tail) xs := by
  have hB := slotN_isB (superN_isB hu) ht
  obtain ⟨hs, hx, _, r, t, v, hr, k1, _, _, _, _, _, rfl, _⟩ := h
  refine ⟨hu, hB, hx, s, _, t, hs, tail192 tail, k1, h1, h2, h3, h4, ?_, rfl⟩
  rw [slotN, superN, take64]
/-- Ahead of the first turn. -/
theorem stands_first {a p : Int} (h : Sup.Ok ⟨a, 0, 2, 0, p⟩) : Stands ⟨a, 1, 2, 0, p⟩ (superN ⟨a, 1, 2, 0, p⟩) (superN ⟨a, 0, 2, 0, p⟩) := by
  have h1 : Sup.Ok ⟨a, 1, 2, 0, p⟩ := by
    unfold Sup.Ok at h ⊢
    dsimp only at h ⊢
    omega
  exact ⟨h1, superN_isB h1, superN_isB h, ⟨a, 0, 2, 0, p⟩, zs 192, zs 192, h, zs_length _, zs_length _, rfl, rfl, rfl, Int.le_refl _, rfl, rfl⟩
theorem us_zs : (unsupN (zs 256)).2 ≠ 0 := by
  rcases us_cases (xs := zs 256) with h | ⟨_, _, hf, _⟩
  · exact h.2
  · have := hf.1
    rw [zs, List.take_replicate] at this
    exact absurd this (by decide)
theorem empty_zs : emptyN (zs 256) = true := by
  unfold emptyN cutZ
  rw [zs_length]
  refine decide_eq_true ⟨rfl, fun x hx => ?_⟩
  exact zs_all _ x (List.mem_of_mem_drop (List.mem_of_mem_take hx))
theorem us_superNT {s : Sup} (h : s.Ok) : unsupN (superN s) = (s, 0) := us_super h (zs_length 192)
theorem choose_none : chooseN (zs 256) (zs 256) = (Sup.zero, 55) := choose_blank (fun h => us_zs h.1) ⟨empty_zs, .inl empty_zs⟩
theorem choose_one {a p : Int} (h : Sup.Ok ⟨a, 0, 2, 0, p⟩) : chooseN (superN ⟨a, 0, 2, 0, p⟩) (zs 256) = (Sup.zero, 55) :=
  choose_blank (fun h => us_zs h.2) ⟨empty_zs, .inr (by rw [us_superNT h]; exact ⟨rfl, rfl⟩)⟩
/-- One superblock more. -/
theorem Sup.turn_ok {s : Sup} {m h : Int} (hs : s.Ok) (hg : s.gen < 1099511627776) (h1 : s.mark ≤ m) (h2 : m ≤ s.pages) (hh : h = 0 ∨ 2 ≤ h ∧ h < m) : Sup.Ok ⟨s.width, s.gen + 1, m, h, s.pages⟩ := by
  unfold Sup.Ok at hs ⊢
  dsimp only
  omega
end Go.Proofs.Ytbjbpgbpefkbhaa
