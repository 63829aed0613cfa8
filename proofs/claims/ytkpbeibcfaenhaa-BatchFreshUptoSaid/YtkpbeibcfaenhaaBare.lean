/- ledgerlaw3.bare. -/
import Derived.Test.YtkpbeibcfaenhaaGb
namespace Go.Proofs.Ytkpbeibcfaenhaa
open Go.RowKit
def bareC (x : Chg) : Chg := if x.del then ⟨x.key, x.del, []⟩ else x
def mixB (X : Nat → Chg) (k i : Nat) : Chg := if i < k then bareC (X i) else X i
theorem mixB_zero (X : Nat → Chg) : mixB X 0 = X := by
  funext i
  unfold mixB
  rw [if_neg (by omega)]
theorem mixB_step (X : Nat → Chg) (k : Nat) : upd (mixB X k) k (bareC (X k)) = mixB X (k + 1) := by
  funext i
  unfold upd mixB
  by_cases e : i = k
  · subst e
    rw [if_pos rfl, if_pos (by omega)]
  · rw [if_neg e]
    by_cases h : i < k
    · rw [if_pos h, if_pos (by omega)]
    · rw [if_neg h, if_neg (by omega)]
theorem mixB_same {X : Nat → Chg} {k : Nat} (h : (X k).del = false) : mixB X k = mixB X (k + 1) := by
  rw [← mixB_step, show bareC (X k) = mixB X k k by unfold bareC mixB; rw [h]; simp, upd_self]
theorem mixB_here (X : Nat → Chg) (k : Nat) : mixB X k k = X k := by
  unfold mixB
  rw [if_neg (by omega)]
theorem mixB_end (X : Nat → Chg) {k n : Nat} (h : k < n) : mixB X n k = bareC (X k) := by
  unfold mixB
  rw [if_pos h]
theorem flat_set {X : Nat → Chg} {Ad : Nat → Option Addr} {Cp : Nat → Nat} {n i : Nat} (h : ∀ i, i < n → (X i).key.length = 32) (hi : i < n) :
    (flat X Ad Cp n).set (i * 34 + 33) (.slice none 0 0) = flat (upd X i ⟨(X i).key, (X i).del, []⟩) (upd Ad i none) (upd Cp i 0) n := by
  have h' : ∀ j, j < n → (upd X i ⟨(X i).key, (X i).del, []⟩ j).key.length = 32 := fun j hj => by
    by_cases e : j = i
    · subst e; rw [upd_same]; exact h j hj
    · rw [upd_other _ _ e]; exact h j hj
  have hl := flat_length (Ad := Ad) (Cp := Cp) h
  have hl' := flat_length (Ad := upd Ad i none) (Cp := upd Cp i 0) h'
  apply List.ext_getElem?
  intro j
  by_cases hj : j < n * 34
  · have hq : j / 34 < n := by omega
    have hd : j = j / 34 * 34 + j % 34 := by omega
    rw [List.getElem?_set, hl]
    by_cases e : i * 34 + 33 = j
    · rw [if_pos e, if_pos (show i * 34 + 33 < n * 34 by omega)]
      have e1 : j / 34 = i := by omega
      have e2 : j % 34 = 33 := by omega
      rw [hd, e1, e2, flat_at h' hi (by omega), upd_same, upd_same, upd_same]
      unfold chC
      rw [List.getElem?_append_right (by simp [bvs, h i hi])]
      simp [bvs, h i hi]
    · rw [if_neg e, hd, flat_at h hq (Nat.mod_lt _ (by omega)), flat_at h' hq (Nat.mod_lt _ (by omega))]
      by_cases e1 : j / 34 = i
      · rw [e1, upd_same, upd_same, upd_same]
        have e3 : j % 34 < 33 := by omega
        unfold chC
        by_cases e4 : j % 34 < 32
        · rw [List.getElem?_append_left (by simp [bvs, h i hi]; exact e4), List.getElem?_append_left (by simp [bvs, h i hi]; exact e4)]
        · have e5 : j % 34 = 32 := by omega
          rw [e5, List.getElem?_append_right (by simp [bvs, h i hi]), List.getElem?_append_right (by simp [bvs, h i hi])]
          simp [bvs, h i hi]
      · rw [upd_other _ _ e1, upd_other _ _ e1, upd_other _ _ e1]
  · rw [List.getElem?_eq_none (by rw [List.length_set]; omega), List.getElem?_eq_none (by omega)]
theorem ChsOwn.noVal {w : World} {base n g c : Nat} {X : Nat → Chg} {Ad : Nat → Option Addr} {Cp : Nat → Nat} (h : ChsOwn w base (.slice (some ⟨g, 0, none⟩) n c) n X Ad Cp) {i : Nat} (hi : i < n) :
    ChsOwn (w.setCell ⟨g, i * 34 + 33, none⟩ (.slice none 0 0)) base (.slice (some ⟨g, 0, none⟩) n c) n (upd X i ⟨(X i).key, (X i).del, []⟩) (upd Ad i none) (upd Cp i 0) := by
  have hg := grown_setCell w (g := g) (i * 34 + 33) (.slice none 0 0)
  refine ⟨?_, fun j hj => ?_, fun j hj => ?_, fun j hj => ?_⟩
  · rw [← flat_set (fun i hi => (h.key i hi).2) hi]
    exact (World.ownsRow.stored h.own _ _).1
  · by_cases e : j = i
    · subst e; rw [upd_same]; exact h.key j hj
    · rw [upd_other _ _ e]; exact h.key j hj
  · by_cases e : j = i
    · subst e; rw [upd_same, upd_same, upd_same]; exact ⟨RB.nil _ _, Nat.le_refl _, Nat.zero_le _, fun _ => rfl⟩
    · rw [upd_other _ _ e, upd_other _ _ e, upd_other _ _ e]; exact ⟨(h.val j hj).1.grownBy hg (h.apart j hj), (h.val j hj).2⟩
  · by_cases e : j = i
    · subst e; rw [upd_same]; exact fun h0 => absurd h0 (by simp)
    · rw [upd_other _ _ e, upd_other _ _ e]; exact h.apart j hj
set_option maxRecDepth 100000 in
set_option maxHeartbeats 1600000 in
theorem bare_any (A : Option Addr) (N c : Nat) (X : Nat → Chg) (w : World) (hx : ChsAt w A N X) (hn : N * 64 ≤ 140737488355328) (hv : ∀ k, k < N → (X k).val.length ≤ 140737488355328) :
    Calls Try.prog 25 #[.slice A N c] w (ChsRet N (fun k => bareC (X k)) w) := by
  have HC := Lib.hid (copyChanges_any A N c X w hx hn hv)
  clear hx hv
  go_enter Try.func25, Try.ntmps25
  go_wp2_with fail
  refine HC.out.mono ?_
  rintro e w1 ⟨v, Ad, Cp, rfl, ho, hb⟩
  obtain ⟨A1, C1, hv1, _, hle1, _, _, hg1⟩ := ho.form
  subst hv1
  have HO1 : Hid (ChsOwn w1 w.heap.size (.slice A1 N C1) N (mixB X 0) Ad Cp) := by rw [mixB_zero]; exact ho
  have HB1 := Lib.hid hb
  have HG1 := Lib.hid hg1
  clear hb ho hg1
  go_wp2_with fail
  go_loopw [4] (fun i wr => ∃ k : Nat, k ≤ N ∧ i = .int .i64 k ∧ (∃ Ad Cp, Hid (ChsOwn wr w.heap.size (.slice A1 N C1) N (mixB X k) Ad Cp)) ∧ Hid (Below w.heap.size w wr)) (fun i _ => N - (intOf i).toNat)
  case atStart => exact ⟨0, by omega, rfl, ⟨_, _, HO1.out⟩, HB1.out⟩
  case round =>
    clear HO1 HB1
    obtain ⟨k, hk, rfl, ⟨Ad, Cp, HO⟩, HB⟩ := hrel
    obtain ⟨w2, rfl⟩ : ∃ w2, w2 = wr := ⟨_, rfl⟩
    by_cases hlt : k < N
    · have hlt' : (k : Int) < N := by omega
      obtain ⟨A', C', e', hch, _⟩ := HO.out.form
      injection e' with e1 _ e3
      subst e1 e3
      obtain ⟨b, o, Av, Cv, e2, hbb, hr, hkB, hkl, hq⟩ := hch.2 k hlt
      subst e2
      obtain ⟨g, eg, hgw⟩ := HG1.out _ rfl
      injection eg with eg1 eg2 eg3
      subst eg1 eg2
      have d1 := ch_del hr hkl
      have d2 := ch_val hr hkl
      rw [Nat.zero_add] at d1 d2
      rw [mixB_here] at d1 d2
      have f2 : w2.frozen? ⟨b, k * 34 + 33, none⟩ = false := World.ownsRow.frozenAt HO.out.own _
      have hm := mixB_here X k
      have HN := Lib.hid (HO.out.noVal hlt)
      have HBn : Hid (Below w.heap.size w (w2.setCell ⟨b, k * 34 + 33, none⟩ (.slice none 0 0))) := HB.out.setCell hgw _
      have HMS : Hid ((X k).del = false → mixB X k = mixB X (k + 1)) := fun h => mixB_same h
      have HMT : Hid ((X k).del = true → upd (mixB X k) k ⟨(mixB X k k).key, (mixB X k k).del, []⟩ = mixB X (k + 1)) := fun h => by rw [← mixB_step, hm]; unfold bareC; rw [if_pos h]
      clear hr hkB hkl hq hch hbb eg3 hm
      generalize hdl : (X k).del = dl at *
      generalize hvl : (X k).val.length = vl at *
      clear hdl hvl
      cases dl
      · have e0 := HMS.out rfl
        rw [e0] at HO
        clear HMS HMT HN HBn e0
        go_wp2_with fail
        go_roundw
        case rel => exact ⟨k + 1, by omega, by go_num, ⟨_, _, HO.out⟩, HB.out⟩
        case measure => simp [intOf]; omega
      · have e0 := HMT.out rfl
        rw [e0] at HN
        clear HMS HMT e0
        go_wp2_with fail
        go_roundw
        case rel => exact ⟨k + 1, by omega, by go_num, ⟨_, _, HN.out⟩, HBn.out⟩
        case measure => simp [intOf]; omega
    · have hnlt : ¬ (k : Int) < N := by omega
      obtain rfl : k = N := by omega
      go_wp2_with fail
      go_ret
      refine ⟨_, Ad, Cp, rfl, ?_, HB.out⟩
      have h := HO.out
      exact { own := by rw [← flat_congr (X := mixB X k) (Ad := Ad) (Cp := Cp) fun i hi => ⟨mixB_end X hi, rfl, rfl⟩]; exact h.own, key := fun i hi => by rw [← mixB_end X hi]; exact h.key i hi, val := fun i hi => by rw [← mixB_end X hi]; exact h.val i hi, apart := fun i hi => by rw [← mixB_end X hi]; exact h.apart i hi }
end Go.Proofs.Ytkpbeibcfaenhaa
