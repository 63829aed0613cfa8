/- Bytes as strings: 'string(b)', bytes.Equal; ledgerlaw13.copied. -/
import Derived.Test.YtfnlhfaihoojfaaDoorMi
import Derived.Laws.BytesArg
namespace Go.Proofs.YtfnlhfaihoojfaaDoor
open Go.RowKit
def strB (xs : List Nat) : ByteArray := ⟨(xs.map fun x => UInt8.ofNat x).toArray⟩
theorem conv_rb {P : Program} {w : World} {A : Option Addr} {n : Nat} {xs : List Nat} (src dst e : TypeId) (hs : P.underlying src = some (.slice e)) (he : P.underlying e = some (.int .u8)) (hd : P.underlying dst = some .string) (h : RB w A n xs) (c : Nat) :
    (convert src dst (.slice A n c)).run P w = .ok (.string (strB xs)) w := by
  cases A with
  | none =>
    have hn : n = 0 := by
      rcases Nat.eq_zero_or_pos n with h0 | h0
      · exact h0
      · obtain ⟨ad, e', _⟩ := h.2.2 h0
        cases e'
    have hx : xs = [] := List.eq_nil_of_length_eq_zero (h.1.trans hn)
    subst hx
    rw [run_convert_bytes_nil w src e hs he n c dst hd]
    rfl
  | some ad =>
    have hl : (loadCells ad n).run P w = .ok ((xs.map fun x : Nat => (x : Int)).map (Value.int .u8)).toArray w := by
      have := run_loadCells_list (P := P) w ad (bvs xs) (fun j v hj => by
        simp only [bvs, List.getElem?_map, Option.map_eq_some_iff] at hj
        obtain ⟨x, hx, rfl⟩ := hj
        have hjl : j < xs.length := (List.getElem?_eq_some_iff.1 hx).1
        obtain ⟨ad', e', _, hc⟩ := h.2.2 (by have := h.1; omega)
        injection e' with e'
        subst e'
        exact hc j x hx)
      rw [show (bvs xs).length = n by simp [bvs, h.1]] at this
      rw [this, List.map_map]
      rfl
    rw [run_convert_bytes_string w src dst e _ n c hs he hd, run_bytesToString w _ n c _ hl, foldl_push_bytes]
    simp [strB, ByteArray.empty, ByteArray.emptyWithCapacity]
    exact List.map_congr_left fun x _ => by simp
theorem strB_eq {xs ys : List Nat} (hx : IsB xs) (hy : IsB ys) : ((strB xs).toList == (strB ys).toList) = decide (xs = ys) := by
  have e : ∀ zs : List Nat, (strB zs).toList = zs.map fun x => UInt8.ofNat x := fun zs => by
    rw [ByteArray.toList_eq]
    simp [strB]
  rw [e, e, Bool.eq_iff_iff, beq_iff_eq, decide_eq_true_eq]
  constructor
  · intro h
    have h2 : ∀ zs : List Nat, IsB zs → (zs.map fun x => UInt8.ofNat x).map UInt8.toNat = zs := fun zs hz => by
      rw [List.map_map]
      conv => rhs; rw [← List.map_id zs]
      apply List.map_congr_left
      intro x hx
      have := hz x hx
      simp
      omega
    rw [← h2 xs hx, ← h2 ys hy, h]
  · rintro rfl; rfl
theorem equal_any (A B : Option Addr) (n m c d : Nat) (xs ys : List Nat) (w : World) (hx : RB w A n xs) (hy : RB w B m ys) :
    Calls Tryd.prog 39 #[.slice A n c, .slice B m d] w fun e w' => e = .returned (.bool (decide (xs = ys))) ∧ w' = w := by
  have h1 : ∀ c, (convert 22 9 (.slice A n c)).run Tryd.prog w = .ok (.string (strB xs)) w := conv_rb 22 9 5 und_bytes (by kernel_rfl) (by kernel_rfl) hx
  have h2 : ∀ c, (convert 22 9 (.slice B m c)).run Tryd.prog w = .ok (.string (strB ys)) w := conv_rb 22 9 5 und_bytes (by kernel_rfl) (by kernel_rfl) hy
  have h3 := strB_eq hx.2.1 hy.2.1
  generalize strB xs = s1 at *
  generalize strB ys = s2 at *
  obtain ⟨b, hb⟩ : ∃ b, decide (xs = ys) = b := ⟨_, rfl⟩
  rw [hb] at h3 ⊢
  clear hx hy hb
  go_enter Tryd.func39, Tryd.ntmps39
  go_wp2_with fail
  go_ret
  exact ⟨rfl, rfl⟩
theorem copied_any (A : Option Addr) (n c : Nat) (xs : List Nat) (w : World) (hx : RB w A n xs) (hA : A = none → c = 0) (hn : n ≤ 140737488355328) :
    Calls Tryd.prog 16 #[.slice A n c] w (OwnRet w xs) := by
  have HX := Lib.hid hx
  have HN := Lib.hid hn
  clear hx hn
  go_enter Tryd.func16, Tryd.ntmps16
  go_wp2_with (at_builtin; refine appendRB (o := ⟨some 4, _, _, _, _, _⟩) und_bytes info_byte w (by rfl) (.const (.slice none 0 0)) (.tmp 3) (by rfl) w.heap.size _ [] (Own.nil _ _ _) A n c xs HX.out hA (by rfl) (by rfl) (by have := HN.out; simp; omega) (Nat.le_refl _) ?_; intro V w3 ho hg)
  go_ret
  exact ⟨_, rfl, ho, (Below.refl _ _).grown hg (Nat.le_refl _) fun k hk => by cases hk⟩
end Go.Proofs.YtfnlhfaihoojfaaDoor
