/- frame.valid, frame.Pack. -/
import Derived.Test.YtbjbpgbpefkbhaaDoorLow
import Derived.Test.YtbjbpgbpefkbhaaDoorSeal
import Derived.Deep.WholeRow
namespace Go.Proofs.YtbjbpgbpefkbhaaDoor
open Go.RowKit
def supV (s : Sup) : Value := .agg #[.int .i64 s.width, .int .i64 s.gen, .int .i64 s.mark, .int .i64 s.head, .int .i64 s.pages]
theorem ret_bool {a b : Bool} (h : a = b) : Ending.returned (.bool a) = .returned (.bool b) := by rw [h]
set_option maxHeartbeats 400000 in
theorem valid_any (s : Sup) (w : World) : Calls Tryd.prog 26 #[supV s] w fun e w' => e = .returned (.bool (decide s.Ok)) ∧ Below w.heap.size w w' := by
  obtain ⟨a, b, c, d, p⟩ := s
  have HD : Hid ((decide (Sup.Ok ⟨a, b, c, d, p⟩)) = decide ((1 ≤ a ∧ a ≤ 32) ∧ (0 ≤ b ∧ b ≤ 1099511627776) ∧ (3 ≤ p ∧ p ≤ 4096) ∧ (2 ≤ c ∧ c ≤ p) ∧ (d = 0 ∨ 2 ≤ d ∧ d < c))) := rfl
  unfold supV
  dsimp only
  generalize decide (Sup.Ok ⟨a, b, c, d, p⟩) = ok at *
  go_enter Tryd.func26, Tryd.ntmps26
  go_wp2
  all_goals
    go_ret
    refine ⟨ret_bool ?_, (Below.refl _ _).alloc (Nat.le_refl _) _⟩
    rw [HD.out, Bool.eq_iff_iff]
    simp
    omega
/-- An array of zero bytes. -/
def zarr (n : Nat) : Array Value := (bvs (zs n)).toArray
theorem zarr_blk (n : Nat) (w : World) (t : TypeId) : BlkB (w.alloc (.cells (zarr n) t)) w.heap.size t (zs n) := BlkIs.new w t (zarr n)
theorem zarr_at {n i : Nat} (h : i < n) : (zarr n)[i]? = some (.int .u8 0) := by
  simp [zarr, bvs, bv, zs, h]
theorem splice_bvs (L : List Nat) (o : Nat) (cs : List Nat) : splice (bvs L) o (bvs cs) = bvs (splice L o cs) := by
  simp [splice, bvs]
theorem splice_at {X Y Z cs : List Nat} {o : Nat} (h : X.length = o) (hY : Y.length = cs.length) : splice (X ++ (Y ++ Z)) o cs = X ++ (cs ++ Z) := by
  unfold splice
  rw [List.take_left' h, ← List.append_assoc X Y Z, List.drop_left' (by simp; omega)]
theorem zs_split (a b : Nat) : zs (a + b) = zs a ++ zs b := by simp [zs, List.replicate_append_replicate]
theorem pack_body {kn pn : Nat} {xs : List Nat} (h : xs.length ≤ 246) : splice (splice ([kn, xs.length] ++ zs 250) 2 (leN pn 4)) 6 xs = bodyN kn pn xs := by
  rw [show zs 250 = zs 4 ++ zs 246 from zs_split 4 246, splice_at (X := [kn, xs.length]) (o := 2) rfl (by rw [leN_length, zs_length]), show zs 246 = zs xs.length ++ zs (246 - xs.length) by rw [← zs_split]; congr 1; omega,
    show [kn, xs.length] ++ (leN pn 4 ++ (zs xs.length ++ zs (246 - xs.length))) = ([kn, xs.length] ++ leN pn 4) ++ (zs xs.length ++ zs (246 - xs.length)) by rw [List.append_assoc],
    splice_at (by simp [leN_length]) (by rw [zs_length]), List.append_assoc]
  rfl
theorem head_set {kn n : Nat} : ((zarr 252).setIfInBounds 0 (.int .u8 (kn : Int))).setIfInBounds 1 (.int .u8 (n : Int)) = (bvs ([kn, n] ++ zs 250)).toArray := by
  unfold zarr
  rw [show zs 252 = 0 :: 0 :: zs 250 from rfl]
  simp [bvs, bv]
theorem zarr_info : (Tryd.prog.info? 79).map (fun i => (i.zero, i.size)) = some (some (.agg (zarr 252)), 252) := by kernel_rfl
theorem byte_size : (Tryd.prog.info? 5).map (·.size) = some 1 := by kernel_rfl
/-- 'copy' into a block of bytes. -/
theorem copyB {P : Program} {w : World} {ops : Array Oper} {rest : List Oper} {o : Oper} {a : Act} {Q : Exit → Act → World → Prop} (hgd : o.guard = none) (d s : Operand) (dT sT : TypeId)
    (ho : o.op = .call { callee := .builtin .copy, args := #[d, s], argTypes := #[dT, sT] }) (elem : TypeId) (hu : P.underlying dT = some (.slice elem)) (hsz : (P.info? elem).map (·.size) = some 1)
    (sp : Option Addr) (g off dLen dCap sLen sCap : Nat) (hd : a.eval d = .slice (some ⟨g, off, none⟩) dLen dCap) (hs : a.eval s = .slice sp sLen sCap)
    (L : List Nat) (t : TypeId) (hL : BlkB w g t L) (xs : List Nat) (hx : RB w sp sLen xs) (hle : sLen ≤ dLen) (hfit : off + sLen ≤ L.length) (B : Nat) (w0 : World) (hb : Below B w0 w) (hBg : B ≤ g)
    (h : ∀ w', Hid (BlkB w' g t (splice L off xs)) → Below B w0 w' → wpList P ops Q rest (a.put o.dst (goInt sLen)) w') : wpList P ops Q (o :: rest) a w := by
  have hl : (bvs xs).length = sLen := by simp [bvs, hx.1]
  rw [← hl] at h
  refine wpList_copy_splice hgd d s dT sT ho elem hu hsz _ sp dLen dCap sLen sCap hd hs g off (bvs L) t hL (bvs xs) (by rw [hl]; exact (Nat.min_eq_left hle).symm) (fun hp => ⟨rfl, ?_⟩) (by rw [hl]; simpa [bvs] using hfit) (bvs_oneCell xs) B w0 hb hBg ?_
  · obtain ⟨ad, e, _, hc⟩ := hx.2.2 (by omega)
    refine ⟨ad, e, fun j v hj => ?_⟩
    simp only [bvs, List.getElem?_map, Option.map_eq_some_iff] at hj
    obtain ⟨y, hy, rfl⟩ := hj
    exact hc j y hy
  · intro w' hg' hb'
    refine h w' ?_ hb'
    have := hg'.out
    rw [splice_bvs] at this
    exact this
theorem BlkB.whole {w : World} {g n : Nat} {t : TypeId} {xs : List Nat} (h : BlkB w g t xs) (hB : IsB xs) (hn : xs.length = n) : RB w (some ⟨g, 0, none⟩) n xs := by
  have := h.reads hB (o := 0) (n := n) (by omega)
  rwa [List.drop_zero, List.take_of_length_le (by omega)] at this
theorem body_reads {w w0 : World} {g kn pn n : Nat} {t : TypeId} {A : Option Addr} {xs L : List Nat} (h : BlkB w g t L) (e : L = bodyN kn pn xs) (hx : RB w0 A n xs) (hk : kn < 256) (hn : n ≤ 246) : RB w (some ⟨g, 0, none⟩) 252 (bodyN kn pn xs) := by
  subst e
  have := hx.1
  exact h.whole (bodyN_isB hk (by omega) hx.isB) (bodyN_length (by omega))
def Packed (base : Nat) (kind page : Int) (xs : List Nat) (e : Ending) (w' : World) : Prop :=
  ∃ v, e = .returned (.tuple #[v, .int .i64 ((packN kind page xs).2 : Nat)]) ∧ OwnU w' base v (packN kind page xs).1
set_option maxHeartbeats 400000 in
theorem pack_any (kind page : Int) (A : Option Addr) (n c : Nat) (xs : List Nat) (w : World) (hx : RB w A n xs) (hn : n ≤ 140737488355328) :
    Calls Tryd.prog 31 #[.int .i64 kind, .int .i64 page, .slice A n c] w fun e w' => Packed w.heap.size kind page xs e w' ∧ Below w.heap.size w w' := by
  have HX := Lib.hid hx
  have HK := Lib.hid (kindOf_any kind w)
  have HP := Lib.hid (place_any page w)
  have hlen := hx.1
  clear hx
  by_cases hk : KindOk kind
  · rw [decide_eq_true hk] at HK
    by_cases hp : PlaceOk page
    · rw [decide_eq_true hp] at HP
      by_cases hl : 246 < n
      · have HR := Lib.hid (packN_load hk hp (by omega : 246 < xs.length))
        clear hk hp hlen
        go_enter Tryd.func31, Tryd.ntmps31
        go_wp2_with fail
        refine HK.out.mono ?_
        rintro e w' ⟨rfl, rfl⟩
        go_wp2_with fail
        refine HP.out.mono ?_
        rintro e w' ⟨rfl, rfl⟩
        go_wp2_with fail
        go_ret2
        exact ⟨⟨_, by rw [HR.out]; rfl, by rw [HR.out]; exact Own.nil _ _ _⟩, Below.refl _ _⟩
      · have HR := Lib.hid (packN_ok hk hp (by omega : xs.length ≤ 246))
        obtain ⟨za, HZA⟩ : ∃ za, Hid (za = zarr 252) := ⟨_, rfl⟩
        have hz := (zero_of_info zarr_info).1
        have hz0 := zarr_at (n := 252) (i := 0) (by omega)
        have hz1 := zarr_at (n := 252) (i := 1) (by omega)
        rw [← HZA.out] at hz hz0 hz1
        have hk' : 1 ≤ kind ∧ kind ≤ 3 := hk
        have hp' : 2 ≤ page ∧ page < 4096 := hp
        clear hk hp
        obtain ⟨kn, rfl⟩ := Int.eq_ofNat_of_zero_le (show 0 ≤ kind by omega)
        obtain ⟨pn, rfl⟩ := Int.eq_ofNat_of_zero_le (show 0 ≤ page by omega)
        simp only [Int.toNat_natCast] at HR
        have HPB : Hid (splice (splice ([kn, n] ++ zs 250) 2 (leN pn 4)) 6 xs = bodyN kn pn xs) := by
          have h := pack_body (kn := kn) (pn := pn) (xs := xs) (by omega)
          rwa [hlen] at h
        have HBL : Hid (BlkB (w.alloc (.cells ((za.setIfInBounds 0 (.int .u8 (kn : Int))).setIfInBounds 1 (.int .u8 (n : Int))) 79)) w.heap.size 79 ([kn, n] ++ zs 250)) := by
          have h := BlkIs.new w 79 ((za.setIfInBounds 0 (.int .u8 (kn : Int))).setIfInBounds 1 (.int .u8 (n : Int)))
          rw [HZA.out, head_set] at h
          rw [HZA.out, head_set]
          exact h
        clear hlen
        go_enter Tryd.func31, Tryd.ntmps31
        go_wp2_with fail
        refine HK.out.mono ?_
        rintro e w' ⟨rfl, rfl⟩
        go_wp2_with fail
        refine HP.out.mono ?_
        rintro e w' ⟨rfl, rfl⟩
        go_wp2_with fail
        refine (put_any w'.heap.size 2 250 250 4 pn 79 ([kn, n] ++ zs 250) _ HBL.out (by omega) (by simp [zs_length]) (by omega)).mono ?_
        rintro e w2 ⟨rfl, hb2, hg2⟩
        have HB2 := Lib.hid hb2
        have HG2 := Lib.hid (((Below.refl w'.heap.size w').alloc (Nat.le_refl _) _).grown hg2 (by simp) (fun k hk => by injection hk with hk; omega))
        clear hb2 hg2
        have HX2 := Lib.hid (HX.out.below HG2.out)
        have HF2 : Hid (6 + n ≤ (splice ([kn, n] ++ zs 250) 2 (leN pn 4)).length) := by
          show 6 + n ≤ (splice ([kn, n] ++ zs 250) 2 (leN pn 4)).length
          rw [splice_length' (by rw [leN_length]; simp [zs_length])]
          simp [zs_length]
          omega
        have hn6 : n ≤ 246 := by omega
        go_wp2_with (refine copyB (o := ⟨some 30, _, _, _, _, _⟩) rfl (.tmp 28) (.tmp 29) 24 24 rfl 5 und_bytes byte_size A w'.heap.size 6 246 246 n c rfl rfl _ _ HB2.out xs HX2.out hn6 HF2.out w'.heap.size w' HG2.out (Nat.le_refl _) ?_; intro w3 HB3 hG3)
        have HG3 := Lib.hid hG3
        have HS := Lib.hid (body_reads HB3.out HPB.out HX.out (by omega) (by omega))
        have HP2 : Hid (pageN kn pn xs = sealN (bodyN kn pn xs)) := rfl
        clear hG3
        go_wp2_with fail
        refine (seal_any (some ⟨w'.heap.size, 0, none⟩) 252 252 (bodyN kn pn xs) w3 HS.out (fun h => by cases h) (by omega)).mono ?_
        rintro e w4 ⟨v, rfl, hown, hb4⟩
        have HO := Lib.hid (hown.mono HG3.out.size)
        have HB4 := Lib.hid (HG3.out.trans (hb4.mono HG3.out.size))
        clear hown hb4
        go_wp2_with fail
        go_ret2
        exact ⟨⟨_, by rw [HR.out]; rfl, by rw [HR.out, HP2.out]; exact HO.out⟩, HB4.out⟩
    · rw [decide_eq_false hp] at HP
      have HR := Lib.hid (packN_place (load := xs) hk hp)
      clear hk hp hlen
      go_enter Tryd.func31, Tryd.ntmps31
      go_wp2_with fail
      refine HK.out.mono ?_
      rintro e w' ⟨rfl, rfl⟩
      go_wp2_with fail
      refine HP.out.mono ?_
      rintro e w' ⟨rfl, rfl⟩
      go_wp2_with fail
      go_ret2
      exact ⟨⟨_, by rw [HR.out]; rfl, by rw [HR.out]; exact Own.nil _ _ _⟩, Below.refl _ _⟩
  · rw [decide_eq_false hk] at HK
    have HR := Lib.hid (packN_kind (page := page) (load := xs) hk)
    clear hk hlen
    go_enter Tryd.func31, Tryd.ntmps31
    go_wp2_with fail
    refine HK.out.mono ?_
    rintro e w' ⟨rfl, rfl⟩
    go_wp2_with fail
    go_ret2
    exact ⟨⟨_, by rw [HR.out]; rfl, by rw [HR.out]; exact Own.nil _ _ _⟩, Below.refl _ _⟩
end Go.Proofs.YtbjbpgbpefkbhaaDoor
