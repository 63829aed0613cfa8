/- ledgerlaw3.after. -/
import Derived.Test.YtkpbeibcfaenhaaAfterN
namespace Go.Proofs.Ytkpbeibcfaenhaa
open Go.RowKit
def AfterRet (L : List Chg) (w : World) (e : Ending) (w' : World) : Prop := ∃ v Ad Cp, e = .returned v ∧ EntsOwn w' w.heap.size v L.length (fnOf L) Ad Cp ∧ Below w.heap.size w w'
section
variable {w w' : World} {base n : Nat} {v : Value} {Z : Nat → Chg} {Ad : Nat → Option Addr} {Cp : Nat → Nat}
theorem EntsOwn.toList (h : EntsOwn w base v n Z Ad Cp) {L : List Chg} (hl : lst Z n = L) : EntsOwn w base v L.length (fnOf L) Ad Cp := by
  have hn : L.length = n := by rw [← hl, lst_length]
  rw [hn]
  exact h.congr fun i hi => by rw [← hl, fnOf, lst_getD hi]
theorem EntsOwn.head (h : EntsOwn w base v n Z Ad Cp) (h0 : 0 < n) : ∃ g c, v = .slice (some ⟨g, 0, none⟩) n c ∧ base ≤ g ∧ g < w.heap.size := by
  rcases h.own.2 with ⟨_, e⟩ | ⟨g, cap, _, e, hg, hb, _⟩
  · omega
  · exact ⟨g, cap, e, hg, (Array.getElem?_eq_some_iff.1 hb).1⟩
theorem EntsOwn.cell32 {g c : Nat} (h : EntsOwn w base (.slice (some ⟨g, 0, none⟩) n c) n Z Ad Cp) {i : Nat} (hi : i < n) : w.cell? ⟨g, i * 33 + 32, none⟩ = some (.slice (Ad i) (Z i).val.length (Cp i)) ∧ w.frozen? ⟨g, i * 33 + 32, none⟩ = false := by
  refine ⟨?_, World.ownsRow.frozenAt h.own _⟩
  rw [World.ownsRow.cellAt h.own _ (by omega), flatE_at (fun i hi => (h.key i hi).2) hi (by omega)]
  unfold enC
  rw [List.getElem?_append_right (by simp [bvs, (h.key i hi).2])]
  simp [bvs, (h.key i hi).2]
end
def restJ (F : Nat → Chg) (z : Int) (j : Nat) : List Chg := ((List.range j).filter fun q : Nat => decide ((q : Int) ≠ z)).map F
theorem restJ_next (F : Nat → Chg) (z : Int) (j : Nat) : restJ F z (j + 1) = restJ F z j ++ if (j : Int) = z then [] else [F j] := by
  unfold restJ
  rw [List.range_succ, List.filter_append, List.map_append]
  congr 1
  by_cases h : (j : Int) = z
  · simp [h]
  · simp [h]
theorem restJ_le (F : Nat → Chg) (z : Int) (j : Nat) : (restJ F z j).length ≤ j := by
  unfold restJ
  rw [List.length_map]
  have := List.length_filter_le (fun q : Nat => decide ((q : Int) ≠ z)) (List.range j)
  simpa using this
theorem restJ_none (F : Nat → Chg) (j : Nat) : restJ F (-1) j = lst F j := by
  induction j with
  | zero => rfl
  | succ j ih => rw [restJ_next, ih, if_neg (by omega), lst_succ]
theorem restJ_at (F : Nat → Chg) (i j : Nat) : restJ F (i : Int) j = if j ≤ i then lst F j else (lst F j).eraseIdx i := by
  induction j with
  | zero => rw [if_pos (Nat.zero_le _)]; rfl
  | succ j ih =>
    rw [restJ_next, ih, lst_succ]
    by_cases h : j = i
    · subst h
      rw [if_pos (Nat.le_refl _), if_pos rfl, if_neg (by omega), List.eraseIdx_append_of_length_le (by rw [lst_length]; exact Nat.le_refl _), lst_length, Nat.sub_self]
      rfl
    · have hz : ¬ ((j : Int) = (i : Int)) := by omega
      rw [if_neg hz]
      by_cases h2 : j < i
      · rw [if_pos (by omega), if_pos (by omega)]
      · rw [if_neg (by omega), if_neg (by omega), List.eraseIdx_append_of_lt_length (by rw [lst_length]; omega)]
theorem restJ_step {L : List Chg} {c : Chg} (hd : c.del = true) : restJ (fnOf L) (atN (fnOf L) c.key L.length) L.length = stepL L c := by
  unfold stepL
  rw [if_pos hd]
  rcases atN_spec (F := fnOf L) (k := c.key) (n := L.length) with ⟨h1, _⟩ | ⟨i, h1, h2, _⟩
  · rw [h1, restJ_none, lst_fnOf]
    rfl
  · rw [h1, restJ_at, if_neg (by omega), lst_fnOf, if_neg (by omega)]
    rfl
theorem ent_new {w : World} {base g n c : Nat} {F : Nat → Chg} {k : List Nat} {Ad : Nat → Option Addr} {Cp : Nat → Nat} (h : EntsOwn w base (.slice (some ⟨g, 0, none⟩) (n + 1) c) (n + 1) (upd F n ⟨k, false, []⟩) (upd Ad n none) (upd Cp n 0)) {p : Nat} (hp : n + 1 = p) :
    w.cell? ⟨g, (p - 1) * 33 + 32, none⟩ = some (.slice none 0 0) ∧ w.frozen? ⟨g, (p - 1) * 33 + 32, none⟩ = false := by
  have h1 := h.cell32 (i := n) (by omega)
  rw [upd_same, upd_same, upd_same] at h1
  rw [show p - 1 = n by omega]
  exact h1
theorem far_of {w w1 : World} {A : Option Addr} {vl : List Nat} {g : Nat} (h : RB w A vl.length vl) (hb : Below w.heap.size w w1) (hg : w.heap.size ≤ g) : RB w1 A vl.length vl ∧ (0 < vl.length → ∀ ad, A = some ad → ad.block ≠ g) :=
  ⟨h.below hb, fun h0 ad e => by
    obtain ⟨ad', e', q1, _⟩ := h.2.2 h0
    rw [e] at e'
    injection e' with e'
    rw [← e'] at q1
    omega⟩
theorem ent_put {w w7 : World} {g c m p : Nat} {L : List Chg} {x : Chg} {Ad : Nat → Option Addr} {Cp : Nat → Nat} {A : Option Addr} {C : Nat} (h : EntsOwn w7 w.heap.size (.slice (some ⟨g, 0, none⟩) (m + 1) c) (m + 1) (upd (fnOf L) m ⟨x.key, false, []⟩) (upd Ad m none) (upd Cp m 0)) (hp : m + 1 = p)
    (hr : RB w A x.val.length x.val) (hb : Below w.heap.size w w7) (hv : x.val.length ≤ C ∧ C ≤ maxLen ∧ (A = none → C = 0)) (hg : w.heap.size ≤ g) (hL : m = L.length) :
    ∃ Ad' Cp', Hid (EntsOwn (w7.setCell ⟨g, (p - 1) * 33 + 32, none⟩ (.slice A x.val.length C)) w.heap.size (.slice (some ⟨g, 0, none⟩) p c) (L ++ [entC x]).length (fnOf (L ++ [entC x])) Ad' Cp') := by
  have hf := far_of hr hb hg
  have h1 := h.setVal (i := m) (Nat.lt_succ_self m) false ⟨hf.1, hv⟩ hf.2
  rw [upd_same] at h1
  have hl : lst (upd (upd (fnOf L) m ⟨x.key, false, []⟩) m ⟨x.key, false, x.val⟩) (m + 1) = L ++ [entC x] := by
    rw [lst_set, lst_upd, List.set_append_right _ _ (by rw [lst_length]; exact Nat.le_refl _), lst_length, Nat.sub_self, hL, lst_fnOf]
    rfl
  have h2 := h1.toList hl
  rw [show p - 1 = m by omega, ← hp]
  exact ⟨_, _, h2⟩
theorem ent_set {w w3 : World} {g c m i : Nat} {L : List Chg} {x : Chg} {Ad : Nat → Option Addr} {Cp : Nat → Nat} {A : Option Addr} {C : Nat} (h : EntsOwn w3 w.heap.size (.slice (some ⟨g, 0, none⟩) m c) m (fnOf L) Ad Cp) (hi : i < m) (hk : (fnOf L i).key = x.key)
    (hr : RB w A x.val.length x.val) (hb : Below w.heap.size w w3) (hv : x.val.length ≤ C ∧ C ≤ maxLen ∧ (A = none → C = 0)) (hg : w.heap.size ≤ g) (hL : m = L.length) :
    ∃ Ad' Cp', Hid (EntsOwn (w3.setCell ⟨g, i * 33 + 32, none⟩ (.slice A x.val.length C)) w.heap.size (.slice (some ⟨g, 0, none⟩) m c) (L.set i (entC x)).length (fnOf (L.set i (entC x))) Ad' Cp') := by
  have hf := far_of hr hb hg
  have h1 := h.setVal hi false ⟨hf.1, hv⟩ hf.2
  have hl : lst (upd (fnOf L) i ⟨(fnOf L i).key, false, x.val⟩) m = L.set i (entC x) := by
    rw [lst_set, hL, lst_fnOf, hk]
    rfl
  exact ⟨_, _, h1.toList hl⟩
def blkOf : Option Addr → Nat
  | some a => a.block
  | none => 0
set_option maxRecDepth 100000 in
set_option maxHeartbeats 8000000 in
theorem after_any (A B : Option Addr) (N M c d : Nat) (E X : Nat → Chg) (w : World) (hm : EntsAt w A N E) (hx : ChsAt w B M X) (hn : N + M ≤ 4096) :
    Calls Try.prog 29 #[.slice A N c, .slice B M d] w (AfterRet (afterL (lst E N) (lst X M)) w) := by
  have HM := Lib.hid hm
  have HX := Lib.hid hx
  have hu := und_key
  clear hm hx
  go_enter Try.func29, Try.ntmps29
  go_wp2_with fail
  go_loopw [5, 6] (fun v i wr => ∃ k : Nat, k ≤ N ∧ i = .int .i64 k ∧ (∃ Ad Cp, Hid (EntsOwn wr w.heap.size v k E Ad Cp)) ∧ Hid (Below w.heap.size w wr)) (fun _ i _ => N - (intOf i).toNat)
  case atStart => exact ⟨0, by omega, rfl, ⟨fun _ => none, fun _ => 0, EntsOwn.nil _ _ _ _ _⟩, Below.refl _ _⟩
  case round =>
    obtain ⟨k, hk, rfl, ⟨Ad, Cp, HO⟩, HB⟩ := hrel
    obtain ⟨w1, rfl⟩ : ∃ w1, w1 = wr := ⟨_, rfl⟩
    by_cases hlt : k < N
    · have hlt' : (k : Int) < N := by omega
      obtain ⟨b, o, Av, Cv, rfl, hb, hr, hkB, hkl, hvr, hvC, hCm, hnil⟩ := HM.out.2 k hlt
      have HR := Lib.hid (range_below HB.out hb hr)
      have HK := Lib.hid (show IsB (E k).key ∧ (E k).key.length = 32 from ⟨hkB, hkl⟩)
      have HV := Lib.hid (show RB w1 Av (E k).val.length (E k).val ∧ (E k).val.length ≤ Cv ∧ Cv ≤ maxLen ∧ (Av = none → Cv = 0) from ⟨hvr.below HB.out, hvC, hCm, hnil⟩)
      have HAP : Hid (0 < (E k).val.length → ∀ ad, Av = some ad → some ad.block ≠ u5.ownBlock) := fun h0 ad e he => by
        obtain ⟨ad', e', q1, _⟩ := hvr.2.2 h0
        rw [e] at e'
        injection e' with e'
        rw [← e'] at q1
        have q2 := HO.out.ge _ he.symm
        omega
      have HUP : Hid (∀ _ : Nat, upd E k (E k) = E) := fun _ => upd_self E k
      clear hr hkB hkl hvr hvC hCm hnil hb
      generalize E k = x at *
      go_wp2_with (first
        | ((with_reducible refine stopAt (o := ⟨some 22, _, _, _, _, _⟩) ?_); refine loadRange (o := ⟨some 22, _, _, _, _, _⟩) (by rfl) 79 (.tmp 21) rfl b (o + k * 33) (enC x Av Cv) rfl HR.out row_ent (by rw [size_ent, enC_length HK.out.2]) ?_)
        | ((with_reducible refine stopAt (o := ⟨some 23, _, _, _, _, _⟩) ?_); refine buildSlice1 (o := ⟨some 23, _, _, _, _, _⟩) rfl w1 46 79 _ 33 (.tmp 22) rfl und_enl info_ent (by decide) (by decide) (enC x Av Cv).toArray rfl (by rw [List.size_toArray, enC_length HK.out.2]) ?_)
        | ((with_reducible refine stopAt (o := ⟨some 24, _, _, _, _, _⟩) ?_); refine append1E (o := ⟨some 24, _, _, _, _, _⟩) und_enl info_ent3 rfl w1 rfl (.tmp 18) (.tmp 23) rfl w.heap.size u5 k _ HO.out.own (enC x Av Cv) (enC_length HK.out.2) enC_one rfl rfl (by omega) (by omega) HB.out.size ?_; intro v3 w3 ho3 hg3 hl3; have HO3 := Lib.hid (HO.out.more HK.out HV.out HAP.out ho3 hg3 hl3); have HB3 : Hid (Below w.heap.size w w3) := HB.out.grown hg3 HB.out.size HO.out.ge; clear ho3 hg3 hl3))
      rw [HUP.out 0] at HO3
      go_roundw
      case rel => exact ⟨k + 1, by omega, by go_num, ⟨_, _, HO3.out⟩, HB3.out⟩
      case measure => simp [intOf]; omega
    · have hnlt : ¬ (k : Int) < N := by omega
      obtain rfl : k = N := by omega
      have HO2 : Hid (EntsOwn w1 w.heap.size u5 (lst E k).length (fnOf (lst E k)) Ad Cp) := HO.out.toList rfl
      have HL2 : Hid ((lst E k).length = k) := lst_length E k
      clear HO HM
      go_wp2_with fail
      go_loopw [5, 7] (fun v i wr => ∃ (j : Nat) (L : List Chg), j ≤ M ∧ i = .int .i64 (j : Int) ∧ L.length ≤ k + j ∧ Hid (L = afterL (lst E k) (lst X j)) ∧ (∃ Ad Cp, Hid (EntsOwn wr w.heap.size v L.length (fnOf L) Ad Cp)) ∧ Hid (Below w.heap.size w wr)) (fun _ i _ => M - (intOf i).toNat)
      case atStart => exact ⟨0, lst E k, by omega, rfl, by rw [HL2.out]; omega, rfl, ⟨_, _, HO2.out⟩, HB.out⟩
      case round =>
        clear HO2 HB HL2 Ad Cp
        obtain ⟨j, L, hj, rfl, hLn, HL, ⟨Ad, Cp, HO⟩, HB⟩ := hrel
        obtain ⟨w2, rfl⟩ : ∃ w2, w2 = wr := ⟨_, rfl⟩
        by_cases hlt2 : j < M
        · have hlt2' : (j : Int) < M := by omega
          have hL8 : L.length ≤ 4096 := by omega
          obtain ⟨bc, oc, Ac, Cc, rfl, hbc, hrc, hkBc, hklc, hvrc, hvCc, hCmc, hnilc⟩ := HX.out.2 j hlt2
          have HRC : Hid (∀ W, Below w.heap.size w W → W.rangeAt bc (oc + j * 34) (chC (X j) Ac Cc)) := fun W hW => range_below hW hbc hrc
          have HKC := Lib.hid (show IsB (X j).key ∧ (X j).key.length = 32 from ⟨hkBc, hklc⟩)
          have HVC := Lib.hid (show RB w Ac (X j).val.length (X j).val ∧ (X j).val.length ≤ Cc ∧ Cc ≤ maxLen ∧ (Ac = none → Cc = 0) from ⟨hvrc, hvCc, hCmc, hnilc⟩)
          have HBC := Lib.hid hbc
          have HNX : Hid (afterL (lst E k) (lst X (j + 1)) = stepL L (X j)) := by show _ = _; rw [afterL_next, ← HL.out]
          have hszc : (Try.prog.info? 25).map (·.size) = some (bvs (X j).key).length := by rw [size_key]; simp [bvs, hklc]
          clear hrc hkBc hklc hvrc hvCc hCmc hnilc hbc HL
          generalize X j = x at *
          have hnL : ∃ n, n = L.length := ⟨_, rfl⟩
          obtain ⟨n, hnL⟩ := hnL
          have HNL := Lib.hid hnL
          rw [← hnL] at HO hLn hL8
          clear hnL
          go_wp2_with fail
          obtain ⟨A5, C5, hv5, hcap5⟩ : ∃ A5 C5, u5 = .slice A5 n C5 ∧ (0 < n → ∃ g, A5 = some ⟨g, 0, none⟩ ∧ w.heap.size ≤ g ∧ g < w2.heap.size) := by
            rcases Nat.eq_zero_or_pos n with h0 | h0
            · rcases HO.out.own.2 with ⟨e, _⟩ | ⟨g, cap, _, e, _⟩
              · exact ⟨none, 0, by rw [e, h0], fun h => by omega⟩
              · exact ⟨_, cap, e, fun h => by omega⟩
            · obtain ⟨g, cap, e, h1, h2⟩ := HO.out.head h0
              exact ⟨_, cap, e, fun _ => ⟨g, rfl, h1, h2⟩⟩
          subst hv5
          have HCAP := Lib.hid hcap5
          clear hcap5
          go_loopw [8, 9] (fun a i wr => ∃ m q : Nat, m ≤ n ∧ i = .int .i64 m ∧ (∃ z : Int, a = .int .i64 z ∧ Hid (z = atN (fnOf L) x.key m)) ∧ wr = w2.drewN q) (fun _ i _ => n - (intOf i).toNat)
          case atStart => exact ⟨0, 0, by omega, rfl, ⟨_, rfl, rfl⟩, rfl⟩
          case round =>
            obtain ⟨m, q, hm, rfl, ⟨z, rfl, HZ⟩, rfl⟩ := hrel
            by_cases hmn : m < n
            · have hmn' : (m : Int) < n := by omega
              obtain ⟨g, rfl, hg1, hg2⟩ := HCAP.out (by omega)
              have hke := HO.out.key m hmn
              have hrm : w2.rangeAt g (m * 33) (bvs (fnOf L m).key) := fun i v hi => by
                have hi32 : i < 32 := by
                  have := (List.getElem?_eq_some_iff.1 hi).1
                  simpa [bvs, hke.2] using this
                rw [World.ownsRow.cellAt HO.out.own _ (by omega), flatE_at (fun i hi => (HO.out.key i hi).2) hmn (by omega)]
                unfold enC
                rw [List.getElem?_append_left (by simp [bvs, hke.2]; exact hi32)]
                exact hi
              have hsz : (Try.prog.info? 25).map (·.size) = some (bvs (fnOf L m).key).length := by rw [size_key]; simp [bvs, hke.2]
              have hek : ∀ w, (Op.equalIn 10000 25 (.agg (bvs (fnOf L m).key).toArray) (.agg (bvs x.key).toArray)).run Try.prog w = .ok (decide ((fnOf L m).key = x.key)) w := fun w => key_eq w _ _ hke.1 HKC.out.1 hke.2 HKC.out.2
              have HZN : Hid (atN (fnOf L) x.key (m + 1) = if (fnOf L m).key = x.key then (m : Int) else z) := by show _ = _; rw [atN, ← HZ.out]
              have KS : Hid (∀ i, (w2.drewN i).rangeAt g (m * 33) (bvs (fnOf L m).key) ∧ (w2.drewN i).rangeAt bc (oc + j * 34) (bvs x.key)) := fun i => ⟨hrm, ch_key (HRC.out _ (drewN_below HB.out i))⟩
              clear hke hrm
              generalize (fnOf L m).key = y at *
              obtain ⟨w3, hw3⟩ : ∃ w3, w2.drewN q = w3 := ⟨_, rfl⟩
              have HW3 := Lib.hid hw3
              have KT : Hid (∀ i, (w3.drewN i).rangeAt g (m * 33) (bvs y) ∧ (w3.drewN i).rangeAt bc (oc + j * 34) (bvs x.key)) := fun i => by rw [← hw3]; exact KS.out (q + i)
              rw [hw3]
              clear hw3 KS
              go_wp2_with fail
              rename_i KK hKK
              have HKK := Lib.hid hKK
              clear hKK
              refine wp_region_held_drew (S := fun w' => w'.rangeAt g (m * 33) (bvs y) ∧ w'.rangeAt bc (oc + j * 34) (bvs x.key)) (by kernel_rfl) (KT.out 1) fun hH => ?_
              refine wpAnyH_take (i := 0) (oi := ⟨some 37, _, _, _, _, _⟩) rfl (by kernel_rfl) (by kernel_rfl) (by kernel_rfl) (fun _ _ _ h => h) (Or.inl ⟨by rfl, fun w hw => by ((try dsimp only at hw); go_split_ands; go_simp; with_reducible rfl)⟩) (by assumption) ?_
              try simp only [Act.put, List.setIfInBounds_toArray, List.set_cons_zero, List.set_cons_succ]
              refine wpAnyH_take (i := 1) (oi := ⟨some 38, _, _, _, _, _⟩) rfl (by kernel_rfl) (by kernel_rfl) (by kernel_rfl) (fun _ _ _ h => h) (Or.inl ⟨by rfl, fun w hw => by ((try dsimp only at hw); go_split_ands; go_simp; with_reducible rfl)⟩) (by assumption) ?_
              try simp only [Act.put, List.setIfInBounds_toArray, List.set_cons_zero, List.set_cons_succ]
              refine wpAnyH_take (i := 2) (oi := ⟨some 39, _, _, _, _, _⟩) rfl (by kernel_rfl) (by kernel_rfl) (by kernel_rfl) (fun _ _ _ h => h) (Or.inl ⟨by rfl, fun w hw => by ((try dsimp only at hw); go_split_ands; go_simp; with_reducible rfl)⟩) (by assumption) ?_
              try simp only [Act.put, List.setIfInBounds_toArray, List.set_cons_zero, List.set_cons_succ]
              refine wpAnyH_take (i := 3) (oi := ⟨some 40, _, _, _, _, _⟩) rfl (by kernel_rfl) (by kernel_rfl) (by kernel_rfl) (fun _ _ _ h => h) (Or.inl ⟨by rfl, fun w hw => by ((try dsimp only at hw); go_split_ands; go_simp; with_reducible rfl)⟩) (by assumption) ?_
              try simp only [Act.put, List.setIfInBounds_toArray, List.set_cons_zero, List.set_cons_succ]
              refine wpAnyH_take (i := 4) (oi := ⟨some 41, _, _, _, _, _⟩) rfl (by kernel_rfl) (by kernel_rfl) (by kernel_rfl) (fun _ _ _ h => h) (yieldsIf_load_mid (by rfl) _ _ rfl _ _ rfl _ _ (fun w hw => by (try dsimp only at hw); go_split_ands; assumption) (by assumption) rfl (by assumption)) (by assumption) ?_
              try simp only [Act.put, List.setIfInBounds_toArray, List.set_cons_zero, List.set_cons_succ]
              refine wpAnyH_take (i := 5) (oi := ⟨some 42, _, _, _, _, _⟩) rfl (by kernel_rfl) (by kernel_rfl) (by kernel_rfl) (fun _ _ _ h => h) (Or.inl ⟨by rfl, fun w hw => by ((try dsimp only at hw); go_split_ands; go_simp; with_reducible rfl)⟩) (by assumption) ?_
              try simp only [Act.put, List.setIfInBounds_toArray, List.set_cons_zero, List.set_cons_succ]
              refine wpAnyH_take (i := 6) (oi := ⟨some 43, _, _, _, _, _⟩) rfl (by kernel_rfl) (by kernel_rfl) (by kernel_rfl) (fun _ _ _ h => h) (Or.inl ⟨by rfl, fun w hw => by ((try dsimp only at hw); go_split_ands; go_simp; with_reducible rfl)⟩) (by assumption) ?_
              try simp only [Act.put, List.setIfInBounds_toArray, List.set_cons_zero, List.set_cons_succ]
              refine wpAnyH_take (i := 7) (oi := ⟨some 44, _, _, _, _, _⟩) rfl (by kernel_rfl) (by kernel_rfl) (by kernel_rfl) (fun _ _ _ h => h) (Or.inl ⟨by rfl, fun w hw => by ((try dsimp only at hw); go_split_ands; go_simp; with_reducible rfl)⟩) (by assumption) ?_
              try simp only [Act.put, List.setIfInBounds_toArray, List.set_cons_zero, List.set_cons_succ]
              refine wpAnyH_take (i := 8) (oi := ⟨some 45, _, _, _, _, _⟩) rfl (by kernel_rfl) (by kernel_rfl) (by kernel_rfl) (fun _ _ _ h => h) (Or.inl ⟨by rfl, fun w hw => by ((try dsimp only at hw); go_split_ands; go_simp; with_reducible rfl)⟩) (by assumption) ?_
              try simp only [Act.put, List.setIfInBounds_toArray, List.set_cons_zero, List.set_cons_succ]
              refine wpAnyH_take (i := 9) (oi := ⟨some 46, _, _, _, _, _⟩) rfl (by kernel_rfl) (by kernel_rfl) (by kernel_rfl) (fun _ _ _ h => h) (yieldsIf_load_mid (by rfl) _ _ rfl _ _ rfl _ _ (fun w hw => by (try dsimp only at hw); go_split_ands; assumption) (by assumption) rfl (by assumption)) (by assumption) ?_
              try simp only [Act.put, List.setIfInBounds_toArray, List.set_cons_zero, List.set_cons_succ]
              refine wpAnyH_ready (rs := [10]) (by kernel_rfl) (by simp) ?_
              refine AllReadyH.cons rfl (fun K hK => ?_) (AllReadyH.nil)
              go_simp
              refine hK.out _ _ hH (fun hH2 => ?_)
              clear hK hH
              refine wpAnyH_done (by kernel_rfl) ?_ _
              change KK _ _
              refine HKK.out _ _ ?_
              clear hH2 hsz hek HKK KK
              by_cases hxy : y = x.key
              · rw [decide_eq_true hxy]
                go_wp2_with fail
                go_roundw
                case rel => exact ⟨m + 1, q + 1, by omega, by go_num, ⟨m, rfl, by show _ = _; rw [HZN.out, if_pos hxy]⟩, by rw [← HW3.out]; rfl⟩
                case measure => simp [intOf]; omega
              · rw [decide_eq_false hxy]
                go_wp2_with fail
                go_roundw
                case rel => exact ⟨m + 1, q + 1, by omega, by go_num, ⟨z, rfl, by show _ = _; rw [HZN.out, if_neg hxy]⟩, by rw [← HW3.out]; rfl⟩
                case measure => simp [intOf]; omega
            · have hnm : ¬ (m : Int) < n := by omega
              obtain rfl : m = n := by omega
              have HO3 : Hid (EntsOwn (w2.drewN q) w.heap.size (.slice A5 m C5) m (fnOf L) Ad Cp) := HO.out.later (drewN_below (Below.refl _ _) q)
              have HB3 : Hid (Below w.heap.size w (w2.drewN q)) := drewN_below HB.out q
              have HC3 : Hid (0 < m → ∃ g, A5 = some ⟨g, 0, none⟩ ∧ w.heap.size ≤ g ∧ g < (w2.drewN q).heap.size) := HCAP.out
              generalize w2.drewN q = w3 at *
              clear HO HB HCAP
              have d1 := ch_del (HRC.out _ HB3.out) HKC.out.2
              have d2 := ch_val (HRC.out _ HB3.out) HKC.out.2
              have HZS := Lib.hid (atN_spec (F := fnOf L) (k := x.key) (n := m))
              have hzlo : -1 ≤ z ∧ z < m := by
                rw [HZ.out]
                rcases HZS.out with ⟨h1, _⟩ | ⟨i, h1, h2, _⟩ <;> omega
              obtain ⟨hzl, hzh⟩ := hzlo
              cases hdx : x.del
              · rw [hdx] at d1
                by_cases hz0 : z < 0
                · have hzm : Hid (stepL L x = L ++ [entC x]) := by
                    show _ = _
                    unfold stepL
                    rw [hdx, if_neg (by decide), ← HNL.out, ← HZ.out, if_pos hz0]
                  obtain ⟨p7, hp7⟩ : ∃ p7, m + 1 = p7 := ⟨_, rfl⟩
                  have HP7 := Lib.hid hp7
                  have hp71 : 1 ≤ p7 := by omega
                  have hp72 : p7 ≤ 8192 := by omega
                  have hp73 : p7 - 1 < p7 := by omega
                  have hp7m : m + 1 ≤ 8192 := by omega
                  clear hp7
                  go_wp2_with (first
                    | ((with_reducible refine stopAt (o := ⟨some 78, _, _, _, _, _⟩) ?_); refine loadRange (o := ⟨some 78, _, _, _, _, _⟩) (by rfl) 25 (.tmp 77) rfl bc (oc + j * 34) (bvs x.key) rfl (ch_key (HRC.out _ HB3.out)) row_key hszc ?_)
                    | ((with_reducible refine stopAt (o := ⟨some 79, _, _, _, _, _⟩) ?_); refine buildAt (o := ⟨some 79, _, _, _, _, _⟩) (by rfl) 79 #[(0, .tmp 78)] rfl [(0, .agg (bvs x.key).toArray)] (by simp [go_sem]) _ (built_en HKC.out.2) ?_)
                    | ((with_reducible refine stopAt (o := ⟨some 80, _, _, _, _, _⟩) ?_); refine buildSlice1 (o := ⟨some 80, _, _, _, _, _⟩) rfl w3 46 79 _ 33 (.tmp 79) rfl und_enl info_ent (by decide) (by decide) (enC ⟨x.key, false, []⟩ none 0).toArray rfl (by rw [List.size_toArray, enC_length (x := ⟨x.key, false, []⟩) HKC.out.2]) ?_)
                    | ((with_reducible refine stopAt (o := ⟨some 81, _, _, _, _, _⟩) ?_); refine append1E (o := ⟨some 81, _, _, _, _, _⟩) und_enl info_ent3 rfl w3 rfl (.tmp 73) (.tmp 80) rfl w.heap.size (.slice A5 m C5) m _ HO3.out.own (enC ⟨x.key, false, []⟩ none 0) (enC_length (x := ⟨x.key, false, []⟩) HKC.out.2) enC_one rfl rfl (by omega) (by omega) HB3.out.size ?_; intro v7 w7 ho7 hg7 hl7; have HO7 := Lib.hid (HO3.out.more (x := ⟨x.key, false, []⟩) (A := none) (C := 0) HKC.out ⟨RB.nil _ _, Nat.le_refl _, Nat.zero_le _, fun _ => rfl⟩ (fun h0 => absurd h0 (by simp)) ho7 hg7 hl7); have HB7 : Hid (Below w.heap.size w w7) := HB3.out.grown hg7 HB3.out.size HO3.out.ge; obtain ⟨g7, c7, hv7, hb7, hs7⟩ := HO7.out.head (Nat.succ_pos m); subst hv7; have HC7 := Lib.hid (ent_new HO7.out HP7.out); rw [HP7.out]; have c7a := HC7.out.1; have c7b := HC7.out.2; have d7 := ch_val (HRC.out _ HB7.out) HKC.out.2; clear ho7 hg7 hl7))
                  have HEND := Lib.hid (ent_put HO7.out HP7.out HVC.out.1 HB7.out HVC.out.2 hb7 (L := L) HNL.out)
                  have HBE : Hid (Below w.heap.size w (w7.setCell ⟨g7, (p7 - 1) * 33 + 32, none⟩ (.slice Ac x.val.length Cc))) := HB7.out.setCell (p := ⟨g7, (p7 - 1) * 33 + 32, none⟩) hb7 _
                  have HLL := Lib.hid (stepL_length L x)
                  go_roundw
                  case rel => exact ⟨j + 1, stepL L x, by omega, by go_num, by have := HLL.out; have := HNL.out; omega, HNX.out.symm, by rw [hzm.out]; exact HEND.out, HBE.out⟩
                  case measure => simp [intOf]; omega
                · obtain ⟨i, hiz, him, hik⟩ : ∃ i : Nat, z = (i : Int) ∧ i < m ∧ (fnOf L i).key = x.key := by
                    rcases HZS.out with ⟨h1, _⟩ | ⟨i, h1, h2, h3⟩
                    · rw [HZ.out, h1] at hz0; exact absurd (by decide) hz0
                    · exact ⟨i, by rw [HZ.out, h1], h2, h3⟩
                  have hzm : Hid (stepL L x = L.set i (entC x)) := by
                    show _ = _
                    unfold stepL
                    rw [hdx, if_neg (by decide), ← HNL.out, ← HZ.out, if_neg hz0, hiz]
                    rfl
                  subst hiz
                  have HIK := Lib.hid hik
                  clear hik HZ HZS hzl hzh
                  obtain ⟨g7, eg7, hb7, hs7⟩ := HC3.out (by omega)
                  subst eg7
                  have HC7 := Lib.hid (HO3.out.cell32 him)
                  have c7a := HC7.out.1
                  have c7b := HC7.out.2
                  have him' : (i : Int) < m := by omega
                  have HEND := Lib.hid (ent_set HO3.out him HIK.out HVC.out.1 HB3.out HVC.out.2 hb7 HNL.out)
                  have HBE : Hid (Below w.heap.size w (w3.setCell ⟨g7, i * 33 + 32, none⟩ (.slice Ac x.val.length Cc))) := HB3.out.setCell (p := ⟨g7, i * 33 + 32, none⟩) hb7 _
                  have HLL := Lib.hid (stepL_length L x)
                  generalize (fnOf L i).val.length = q7 at *
                  go_wp2_with fail
                  go_roundw
                  case rel => exact ⟨j + 1, stepL L x, by omega, by go_num, by have := HLL.out; have := HNL.out; omega, HNX.out.symm, by rw [hzm.out]; exact HEND.out, HBE.out⟩
                  case measure => simp [intOf]; omega
              · rw [hdx] at d1
                have HOLD : Hid (∀ p, p < m → ∀ W, Below w3.heap.size w3 W → ∀ Av Cv, W.rangeAt (blkOf A5) (p * 33) (enC (fnOf L p) Av Cv) → ∀ u : Value, (∀ b, u.ownBlock = some b → w3.heap.size ≤ b) → 0 < (fnOf L p).val.length → ∀ ad, Av = some ad → some ad.block ≠ u.ownBlock) := fun p hp W hW Av Cv hr u hu h0 ad e he => by
                  obtain ⟨g, eg, _, hg2⟩ := HC3.out (by omega)
                  subst eg
                  have h32 := en_val hr (HO3.out.key p hp).2
                  have h33 := (HO3.out.later hW).cell32 hp
                  rw [show blkOf (some (⟨g, 0, none⟩ : Addr)) = g from rfl] at h32
                  rw [h33.1] at h32
                  injection h32 with h32
                  injection h32 with h32 _ _
                  obtain ⟨ad', e', hb', _⟩ := (HO3.out.val p hp).1.2.2 h0
                  rw [h32, e] at e'
                  injection e' with e'
                  have := hu _ he.symm
                  rw [← e'] at hb'
                  omega
                have HST : Hid (restJ (fnOf L) z m = stepL L x) := by
                  show _ = _
                  have h := restJ_step (L := L) (c := x) hdx
                  rw [← HNL.out, ← HZ.out] at h
                  exact h
                go_wp2_with fail
                go_loopw [10, 11] (fun r i wr => ∃ p n2 : Nat, p ≤ m ∧ n2 ≤ p ∧ i = .int .i64 (p : Int) ∧ (∃ Z2 Ad2 Cp2, Hid (EntsOwn wr w3.heap.size r n2 Z2 Ad2 Cp2) ∧ Hid (lst Z2 n2 = restJ (fnOf L) z p)) ∧ Hid (Below w3.heap.size w3 wr)) (fun _ i _ => m - (intOf i).toNat)
                case atStart => exact ⟨0, 0, by omega, by omega, rfl, ⟨fun _ => default, fun _ => none, fun _ => 0, EntsOwn.nil _ _ _ _ _, rfl⟩, Below.refl _ _⟩
                case round =>
                  obtain ⟨p, n2, hp, hn2, rfl, ⟨Z2, Ad2, Cp2, HO4, HZ4⟩, HB4⟩ := hrel
                  obtain ⟨w4, rfl⟩ : ∃ w4, w4 = wr := ⟨_, rfl⟩
                  by_cases hpm : p < m
                  · have hpm' : (p : Int) < m := by omega
                    obtain ⟨g, rfl, hg1, hg2⟩ := HC3.out (by omega)
                    have HO5 := Lib.hid (HO3.out.later HB4.out)
                    obtain ⟨A6, C6, e6, hat6, _⟩ := HO5.out.form
                    injection e6 with e6 _ e7
                    subst e6 e7
                    obtain ⟨b6, o6, Av, Cv, e8, hb6, hr6, hkB6, hkl6, hvr6, hvC6, hCm6, hnil6⟩ := hat6.2 p hpm
                    injection e8 with e8
                    injection e8 with e8 e9
                    subst e8 e9
                    rw [Nat.zero_add] at hr6
                    have HR6 := Lib.hid hr6
                    have HK6 := Lib.hid (show IsB (fnOf L p).key ∧ (fnOf L p).key.length = 32 from ⟨hkB6, hkl6⟩)
                    have HV6 := Lib.hid (show RB w4 Av (fnOf L p).val.length (fnOf L p).val ∧ (fnOf L p).val.length ≤ Cv ∧ Cv ≤ maxLen ∧ (Av = none → Cv = 0) from ⟨hvr6, hvC6, hCm6, hnil6⟩)
                    have HAP : Hid (0 < (fnOf L p).val.length → ∀ ad, Av = some ad → some ad.block ≠ u10.ownBlock) := HOLD.out p hpm w4 HB4.out Av Cv hr6 u10 (fun b hb => HO4.out.ge b hb)
                    have HRN : Hid (restJ (fnOf L) z (p + 1) = restJ (fnOf L) z p ++ if (p : Int) = z then [] else [fnOf L p]) := restJ_next _ _ _
                    clear hr6 hkB6 hkl6 hvr6 hvC6 hCm6 hnil6 hat6 HO5 hb6
                    generalize fnOf L p = y at *
                    by_cases hpz : (p : Int) = z
                    · have hpz' : ((p : Int) != z) = false := by simp [hpz]
                      have HZ5 : Hid (lst Z2 n2 = restJ (fnOf L) z (p + 1)) := by show _ = _; rw [HRN.out, if_pos hpz, List.append_nil, HZ4.out]
                      have HPZ := Lib.hid hpz
                      clear hpz
                      go_wp2_with fail
                      go_roundw
                      case rel => exact ⟨p + 1, n2, by omega, by omega, by go_num, ⟨Z2, Ad2, Cp2, HO4.out, HZ5.out⟩, HB4.out⟩
                      case measure => simp [intOf]; omega
                    · have hpz' : ((p : Int) != z) = true := by simpa using hpz
                      have HZ5 : Hid (lst (upd Z2 n2 y) (n2 + 1) = restJ (fnOf L) z (p + 1)) := by show _ = _; rw [lst_upd, HRN.out, if_neg hpz, HZ4.out]
                      go_wp2_with (first
                        | ((with_reducible refine stopAt (o := ⟨some 67, _, _, _, _, _⟩) ?_); refine loadRange (o := ⟨some 67, _, _, _, _, _⟩) (by rfl) 79 (.tmp 66) rfl g (p * 33) (enC y Av Cv) rfl HR6.out row_ent (by rw [size_ent, enC_length HK6.out.2]) ?_)
                        | ((with_reducible refine stopAt (o := ⟨some 68, _, _, _, _, _⟩) ?_); refine buildSlice1 (o := ⟨some 68, _, _, _, _, _⟩) rfl w4 46 79 _ 33 (.tmp 67) rfl und_enl info_ent (by decide) (by decide) (enC y Av Cv).toArray rfl (by rw [List.size_toArray, enC_length HK6.out.2]) ?_)
                        | ((with_reducible refine stopAt (o := ⟨some 69, _, _, _, _, _⟩) ?_); refine append1E (o := ⟨some 69, _, _, _, _, _⟩) und_enl info_ent3 rfl w4 rfl (.tmp 63) (.tmp 68) rfl w3.heap.size u10 n2 _ HO4.out.own (enC y Av Cv) (enC_length HK6.out.2) enC_one rfl rfl (by omega) (by omega) HB4.out.size ?_; intro v7 w7 ho7 hg7 hl7; have HO7 := Lib.hid (HO4.out.more HK6.out HV6.out HAP.out ho7 hg7 hl7); have HB7 : Hid (Below w3.heap.size w3 w7) := HB4.out.grown hg7 HB4.out.size HO4.out.ge; clear ho7 hg7 hl7))
                      go_roundw
                      case rel => exact ⟨p + 1, n2 + 1, by omega, by omega, by go_num, ⟨_, _, _, HO7.out, HZ5.out⟩, HB7.out⟩
                      case measure => simp [intOf]; omega
                  · have hpm' : ¬ (p : Int) < m := by omega
                    obtain rfl : p = m := by omega
                    have HO6 : Hid (EntsOwn w4 w.heap.size u10 (stepL L x).length (fnOf (stepL L x)) Ad2 Cp2) := (HO4.out.mono HB3.out.size).toList (HZ4.out.trans HST.out)
                    have HB6 : Hid (Below w.heap.size w w4) := HB3.out.trans (HB4.out.mono HB3.out.size)
                    have HLL := Lib.hid (stepL_length L x)
                    go_wp2_with fail
                    go_roundw
                    case rel => exact ⟨j + 1, stepL L x, by omega, by go_num, by have := HLL.out; have := HNL.out; omega, HNX.out.symm, ⟨_, _, HO6.out⟩, HB6.out⟩
                    case measure => simp [intOf]; omega
        · have hnlt2 : ¬ (j : Int) < M := by omega
          obtain rfl : j = M := by omega
          have HO' := HL.out ▸ HO.out
          have HOH := Lib.hid HO'
          clear HO'
          go_wp2_with fail
          go_ret
          exact ⟨_, Ad, Cp, rfl, HOH.out, HB.out⟩
end Go.Proofs.Ytkpbeibcfaenhaa
