/- digest.Hasher.step: one whole block. -/
import Derived.Test.YtfnlhfaihoojfaaDoorHash
import Derived.Deep.RegionHeld3
import Derived.BigQuiet
import Derived.StillTailTactics
namespace Go.Proofs.YtfnlhfaihoojfaaDoor
open Go.RowKit
theorem or_mul (i a b : Nat) (hb : b < 2 ^ i) : a * 2 ^ i ||| b = a * 2 ^ i + b := by
  rw [Nat.mul_comm, Nat.two_pow_add_eq_or_of_lt hb]
theorem be_bits (a b c d : Nat) (ha : a < 256) (hb : b < 256) (hc : c < 256) (hd : d < 256) :
    bits .or .u32 (bits .or .u32 (bits .or .u32 ((a : Int) * 16777216) ((b : Int) * 65536)) ((c : Int) * 256)) (d : Int) = ((beW a b c d : Nat) : Int) := by
  have e1 : ((a : Int) * 16777216) = ((a * 16777216 : Nat) : Int) := by omega
  have e2 : ((b : Int) * 65536) = ((b * 65536 : Nat) : Int) := by omega
  have e3 : ((c : Int) * 256) = ((c * 256 : Nat) : Int) := by omega
  rw [e1, e2, e3, or32 _ _ (by omega) (by omega), show a * 16777216 ||| b * 65536 = a * 16777216 + b * 65536 from or_mul 24 a (b * 65536) (by omega),
    or32 _ _ (by omega) (by omega), show (a * 16777216 + b * 65536) ||| c * 256 = (a * 16777216 + b * 65536) + c * 256 by
      have := or_mul 16 (a * 256 + b) (c * 256) (by omega); rwa [show (a * 256 + b) * 2 ^ 16 = a * 16777216 + b * 65536 by omega] at this,
    or32 _ _ (by omega) (by omega), show (a * 16777216 + b * 65536 + c * 256) ||| d = (a * 16777216 + b * 65536 + c * 256) + d by
      have := or_mul 8 (a * 65536 + b * 256 + c) d (by omega); rwa [show (a * 65536 + b * 256 + c) * 2 ^ 8 = a * 16777216 + b * 65536 + c * 256 by omega] at this]
  rfl
/-- The words so far, zeros behind them. -/
def wordsZ (bl : List Nat) (k : Nat) : List Nat := wordsN bl k ++ List.replicate (64 - k) 0
theorem wordsZ_length (bl : List Nat) {k : Nat} (h : k ≤ 64) : (wordsZ bl k).length = 64 := by
  rw [wordsZ, List.length_append, wordsN_length, List.length_replicate]; omega
theorem wordsZ_next (bl : List Nat) {k x : Nat} (h : k < 64) (hx : x = if k < 16 then wordAt bl k else nextW (wordsN bl k) k) : (wordsZ bl k).set k x = wordsZ bl (k + 1) := by
  subst hx
  unfold wordsZ
  rw [List.set_append_right _ _ (by rw [wordsN_length]; omega), wordsN_length, Nat.sub_self, show 64 - k = (64 - (k + 1)) + 1 by omega, List.replicate_succ, List.set_cons_zero]
  show _ = (wordsN bl k ++ [_]) ++ _
  simp
theorem wordsZ_at (bl : List Nat) {k i : Nat} (h : i < k) : (wordsZ bl k).getD i 0 = (wordsN bl k).getD i 0 := by
  unfold wordsZ
  simp only [List.getD]
  rw [List.getElem?_append_left (by rw [wordsN_length]; exact h)]
theorem xor3 (a b c : Nat) (ha : a < 4294967296) (hb : b < 4294967296) (hc : c < 4294967296) : bits .xor .u32 (bits .xor .u32 (a : Int) (b : Int)) (c : Int) = ((a ^^^ b ^^^ c : Nat) : Int) := by
  rw [xor32 _ _ ha hb, xor32 _ _ (xor_lt32 ha hb) hc]
theorem rotl_at (m x : Nat) (i : Int) (w : World) (hx : x < 4294967296) (h0 : 1 ≤ m) (h1 : m ≤ 31) (hi : i = -(m : Int)) :
    Calls Tryd.prog 82 #[.int .u32 x, .int .i64 i] w fun e w' => e = .returned (.int .u32 (rot x m : Nat)) ∧ w' = w := by
  subst hi
  exact rotl_any x m w hx h0 h1
theorem sum4 (a b c d : Nat) : ((a : Int) + b + c + d) % 4294967296 = (((a + b + c + d) % 4294967296 : Nat) : Int) := by omega
theorem wordsZ_w {bl : List Nat} (hB : IsB bl) (k : Nat) : IsW (wordsZ bl k) := (wordsN_w hB k).app fun x hx => by
  have := (List.mem_replicate.1 hx).2
  omega
theorem wordsZ_end (bl : List Nat) : wordsZ bl 64 = wordsN bl 64 := by simp [wordsZ]
theorem high1_bits {e : Nat} (h : e < 4294967296) : bits .xor .u32 (bits .xor .u32 (rot e 6 : Int) (rot e 11 : Int)) (rot e 25 : Int) = ((high1 e : Nat) : Int) :=
  xor3 _ _ _ (rot_lt h _) (rot_lt h _) (rot_lt h _)
theorem high0_bits {e : Nat} (h : e < 4294967296) : bits .xor .u32 (bits .xor .u32 (rot e 2 : Int) (rot e 13 : Int)) (rot e 22 : Int) = ((high0 e : Nat) : Int) :=
  xor3 _ _ _ (rot_lt h _) (rot_lt h _) (rot_lt h _)
theorem pick_bits {e f g : Nat} (he : e < 4294967296) (hf : f < 4294967296) (hg : g < 4294967296) : bits .xor .u32 (g : Int) (bits .and .u32 (e : Int) (bits .xor .u32 (f : Int) (g : Int))) = ((pick e f g : Nat) : Int) := by
  rw [xor32 _ _ hf hg, and32 _ _ he (xor_lt32 hf hg), xor32 _ _ hg (and_lt32 he)]
  rfl
theorem most_bits {a b c : Nat} (ha : a < 4294967296) (hb : b < 4294967296) (hc : c < 4294967296) : bits .or .u32 (bits .and .u32 (a : Int) (b : Int)) (bits .and .u32 (c : Int) (bits .or .u32 (a : Int) (b : Int))) = ((most a b c : Nat) : Int) := by
  rw [or32 _ _ ha hb, and32 _ _ ha hb, and32 _ _ hc (or_lt32 ha hb), or32 _ _ (and_lt32 ha) (and_lt32 hc)]
  rfl
theorem round_a (a b c d e f g z kk wk : Nat) : (((z : Int) + (high1 e : Nat) + (pick e f g : Nat) + kk + wk) % 4294967296 + (((high0 a : Nat) : Int) + (most a b c : Nat)) % 4294967296) % 4294967296 =
    (((oneN ⟨a, b, c, d, e, f, g, z⟩ kk wk + twoN ⟨a, b, c, d, e, f, g, z⟩) % 4294967296 : Nat) : Int) := by
  simp only [oneN, twoN]; omega
theorem round_e (a b c d e f g z kk wk : Nat) : ((d : Int) + ((z : Int) + (high1 e : Nat) + (pick e f g : Nat) + kk + wk) % 4294967296) % 4294967296 =
    (((d + oneN ⟨a, b, c, d, e, f, g, z⟩ kk wk) % 4294967296 : Nat) : Int) := by
  simp only [oneN]; omega
theorem index_at {P : Program} {t e : TypeId} {n : Nat} {cs : Array Value} {k : Nat} {v : Value} (w : World) (hu : P.underlying t = some (.array n e)) (hp : P.plainKey e = true) (hs : (P.info? e).map (·.size) = some 1) (hk : k < n) (hv : cs[k]? = some v) :
    (Instr.index t (.agg cs) (.int .i64 (k : Int))).run P w = .ok v w := by
  cases hq : P.info? e with
  | none => simp [hq] at hs
  | some i =>
    have h1 : i.size = 1 := by simpa [hq] using hs
    have h2 := run_part_plain (P := P) w hp (off := k) hv
    have h3 : (0 : Int) ≤ (k : Int) ∧ (k : Int) < (n : Int) := ⟨by omega, by omega⟩
    simp [Instr.index, run_underlying hu, asIntOf, Sem.run_bind, h3, sizeOf, typeInfo, hq, h1, h2]
    intro h
    omega
theorem grown_drew {a b : World} {row : Option Nat} (h : a.grownBy b row) : a.grownBy b.drew row := ⟨h.os, h.tape, h.output, h.size, h.block⟩
/-- What a call of step leaves. -/
def StepPost (gh : Nat) (s : St) (bl rest : List Nat) (h t : Nat) (w w' : World) : Prop := HBlk w' gh (blockN s bl).list rest h t ∧ w.grownBy w' (some gh)
set_option maxRecDepth 100000 in
set_option maxHeartbeats 8000000 in
theorem step_any (gh : Nat) (A : Option Addr) (c : Nat) (bl rest : List Nat) (s : St) (h t : Nat) (w : World) (hx : RB w A 64 bl) (hh : HBlk w gh s.list rest h t) (hs : s.Ok) (hk : TabU w 2 kL) (hne : gh ≠ 2) :
    Calls Tryd.prog 63 #[.pointer (some ⟨gh, 0, none⟩), .slice A 64 c] w fun e w' => e = .returned (.tuple #[]) ∧ StepPost gh s bl rest h t w w' := by
  have HX := Lib.hid hx
  have HH := Lib.hid hh
  have HS := Lib.hid hs
  have HK := Lib.hid hk
  have HNE := Lib.hid hne
  clear hx hh hs hk hne
  go_enter Tryd.func63, Tryd.ntmps63
  go_wp2_with fail
  have HW0 : Hid (BlkU (w.alloc (.cells (uvs (List.replicate 64 0)).toArray 111)) w.heap.size 111 (List.replicate 64 0)) := BlkIs.new w _ _
  have HB0 := Lib.hid ((Below.refl w.heap.size w).alloc (Nat.le_refl _) (.cells (uvs (List.replicate 64 0)).toArray 111))
  generalize hw1 : w.alloc (.cells (uvs (List.replicate 64 0)).toArray 111) = w1 at HW0 HB0
  change Code.wp _ _ _ _ (w.alloc (.cells (uvs (List.replicate 64 0)).toArray 111))
  rw [hw1]
  clear hw1
  go_loopw [24] (fun i wr => ∃ k : Nat, k ≤ 16 ∧ i = .int .i64 k ∧ Hid (BlkU wr w.heap.size 111 (wordsZ bl k)) ∧ Hid (Below w.heap.size w wr)) (fun i _ => 16 - (intOf i).toNat)
  case atStart => exact ⟨0, by omega, rfl, HW0.out, HB0.out⟩
  case round =>
    clear HW0 HB0
    obtain ⟨k, hk, rfl, HW, HB⟩ := hrel
    by_cases hlt : k < 16
    · obtain ⟨ad, rfl, hb0, hcell⟩ := (HX.out.below HB.out).2.2 (by omega)
      have hl := HX.out.1
      have c0 := hcell (4 * k) _ (getD_of_lt (by omega))
      have c1 := cell_add (by omega) (hcell (4 * k + 1) _ (getD_of_lt (by omega)))
      have c2 := cell_add (by omega) (hcell (4 * k + 2) _ (getD_of_lt (by omega)))
      have c3 := cell_add (by omega) (hcell (4 * k + 3) _ (getD_of_lt (by omega)))
      have b0 := byteAt HX.out.isB (4 * k)
      have b1 := byteAt HX.out.isB (4 * k + 1)
      have b2 := byteAt HX.out.isB (4 * k + 2)
      have b3 := byteAt HX.out.isB (4 * k + 3)
      have HWD : Hid (wordAt bl k = beW (bl.getD (4 * k) 0) (bl.getD (4 * k + 1) 0) (bl.getD (4 * k + 2) 0) (bl.getD (4 * k + 3) 0)) := rfl
      have hc := HW.out.cell (i := k) (by rw [wordsZ_length _ (by omega)]; omega)
      have hf := BlkIs.frozen HW.out k
      clear hcell hl
      generalize bl.getD (4 * k) 0 = x0 at *
      generalize bl.getD (4 * k + 1) 0 = x1 at *
      generalize bl.getD (4 * k + 2) 0 = x2 at *
      generalize bl.getD (4 * k + 3) 0 = x3 at *
      generalize (wordsZ bl k).getD k 0 = z at *
      have i0 : (0 : Int) ≤ 4 * (k : Int) := by omega
      have i1 : (0 : Int) ≤ 4 * (k : Int) + 1 := by omega
      have i2 : (0 : Int) ≤ 4 * (k : Int) + 2 := by omega
      have i3 : (0 : Int) ≤ 4 * (k : Int) + 3 := by omega
      have j0 : 4 * (k : Int) < 64 := by omega
      have j1 : 4 * (k : Int) + 1 < 64 := by omega
      have j2 : 4 * (k : Int) + 2 < 64 := by omega
      have j3 : 4 * (k : Int) + 3 < 64 := by omega
      have n0 : (4 * (k : Int)).toNat = 4 * k := by omega
      have n1 : (4 * (k : Int) + 1).toNat = 4 * k + 1 := by omega
      have n2 : (4 * (k : Int) + 2).toNat = 4 * k + 2 := by omega
      have n3 : (4 * (k : Int) + 3).toNat = 4 * k + 3 := by omega
      have jk : (k : Int) < 64 := by omega
      go_wp2_with fail
      refine wp_region_still_tail 35 (by kernel_rfl) (by kernel_rfl) ?_
      simp only [List.take_succ_cons, List.take_zero, List.drop_succ_cons, List.drop_zero]
      repeat (refine wpStill_step (fun K hK => ?_); go_simp; (try go_bits); refine hK _ ?_; clear hK K)
      try refine wpStill_nil ?_
      change wpList _ _ _ _ _ wr.drew
      have HWn : Hid (BlkU (wr.drew.setCell ⟨w.heap.size, k, none⟩ (.int .u32 (beW x0 x1 x2 x3 : Nat))) w.heap.size 111 (wordsZ bl (k + 1))) := by
        have h := BlkU.set (w := wr.drew) HW.out k (beW x0 x1 x2 x3)
        rwa [wordsZ_next bl (by omega) (by rw [if_pos hlt]; exact HWD.out.symm)] at h
      have HBn : Hid (Below w.heap.size w (wr.drew.setCell ⟨w.heap.size, k, none⟩ (.int .u32 (beW x0 x1 x2 x3 : Nat)))) := (drewN_below HB.out 1).setCell (Nat.le_refl _) _
      have hbe := be_bits x0 x1 x2 x3 b0 b1 b2 b3
      go_wp2_with fail
      go_roundw
      case rel => exact ⟨k + 1, by omega, by go_num, HWn.out, HBn.out⟩
      case measure => simp [intOf]; omega
    · have hk16 : 16 ≤ k := by omega
      go_wp2_with fail
      go_loopw [6] (fun i wr => ∃ k : Nat, 16 ≤ k ∧ k ≤ 64 ∧ i = .int .i64 k ∧ Hid (BlkU wr w.heap.size 111 (wordsZ bl k)) ∧ Hid (Below w.heap.size w wr)) (fun i _ => 64 - (intOf i).toNat)
      case atStart => exact ⟨16, by omega, by omega, rfl, (show k = 16 by omega) ▸ HW.out, HB.out⟩
      case round =>
        clear HW HB
        obtain ⟨w1, rfl⟩ : ∃ w1, w1 = wr := ⟨_, rfl⟩
        obtain ⟨k, hk6, hk, rfl, HW, HB⟩ := hrel
        by_cases hlt : k < 64
        · have hw := wordsZ_w HX.out.isB k
          have cx := HW.out.cell (i := k - 2) (by rw [wordsZ_length _ hk]; omega)
          have cy := HW.out.cell (i := k - 15) (by rw [wordsZ_length _ hk]; omega)
          have cu := HW.out.cell (i := k - 7) (by rw [wordsZ_length _ hk]; omega)
          have cv := HW.out.cell (i := k - 16) (by rw [wordsZ_length _ hk]; omega)
          have cz := HW.out.cell (i := k) (by rw [wordsZ_length _ hk]; omega)
          have cf := BlkIs.frozen HW.out k
          have lx := hw.getD (k - 2)
          have ly := hw.getD (k - 15)
          have lu := hw.getD (k - 7)
          have lv := hw.getD (k - 16)
          have HN : Hid (nextW (wordsN bl k) k = (low1 ((wordsZ bl k).getD (k - 2) 0) + (wordsZ bl k).getD (k - 7) 0 + low0 ((wordsZ bl k).getD (k - 15) 0) + (wordsZ bl k).getD (k - 16) 0) % 4294967296) := by
            show _ = _
            rw [wordsZ_at bl (show k - 2 < k by omega), wordsZ_at bl (show k - 7 < k by omega), wordsZ_at bl (show k - 15 < k by omega), wordsZ_at bl (show k - 16 < k by omega)]
            rfl
          clear hw
          generalize (wordsZ bl k).getD (k - 2) 0 = x at *
          generalize (wordsZ bl k).getD (k - 15) 0 = y at *
          generalize (wordsZ bl k).getD (k - 7) 0 = u at *
          generalize (wordsZ bl k).getD (k - 16) 0 = v at *
          generalize (wordsZ bl k).getD k 0 = z at *
          have i0 : (2 : Int) ≤ (k : Int) := by omega
          have i1 : (15 : Int) ≤ (k : Int) := by omega
          have i2 : (7 : Int) ≤ (k : Int) := by omega
          have i3 : (16 : Int) ≤ (k : Int) := by omega
          have i4 : (0 : Int) ≤ (k : Int) := by omega
          have j0 : (k : Int) - 2 < 64 := by omega
          have j1 : (k : Int) - 15 < 64 := by omega
          have j2 : (k : Int) - 7 < 64 := by omega
          have j3 : (k : Int) - 16 < 64 := by omega
          have j4 : (k : Int) < 64 := by omega
          have n0 : ((k : Int) - 2).toNat = k - 2 := by omega
          have n1 : ((k : Int) - 15).toNat = k - 15 := by omega
          have n2 : ((k : Int) - 7).toNat = k - 7 := by omega
          have n3 : ((k : Int) - 16).toNat = k - 16 := by omega
          have hl1 : bits .xor .u32 (bits .xor .u32 (rot x 17 : Int) (rot x 19 : Int)) ((x : Int) / 1024) = ((low1 x : Nat) : Int) := by
            rw [show (x : Int) / 1024 = ((x / 1024 : Nat) : Int) by omega]
            exact xor3 _ _ _ (rot_lt lx _) (rot_lt lx _) (div_lt32 lx 10)
          have hl0 : bits .xor .u32 (bits .xor .u32 (rot y 7 : Int) (rot y 18 : Int)) ((y : Int) / 8) = ((low0 y : Nat) : Int) := by
            rw [show (y : Int) / 8 = ((y / 8 : Nat) : Int) by omega]
            exact xor3 _ _ _ (rot_lt ly _) (rot_lt ly _) (div_lt32 ly 3)
          go_wp2_with fail
          go_quiet (fail)
          go_wp2_with (first
            | (go_at_call 82; ((with_reducible refine (rotl_at 17 _ _ _ lx (by omega) (by omega) (by omega)).mono ?_); rintro e w' ⟨rfl, rfl⟩))
            | (go_at_call 82; ((with_reducible refine (rotl_at 19 _ _ _ lx (by omega) (by omega) (by omega)).mono ?_); rintro e w' ⟨rfl, rfl⟩))
            | (go_at_call 82; ((with_reducible refine (rotl_at 7 _ _ _ ly (by omega) (by omega) (by omega)).mono ?_); rintro e w' ⟨rfl, rfl⟩))
            | (go_at_call 82; ((with_reducible refine (rotl_at 18 _ _ _ ly (by omega) (by omega) (by omega)).mono ?_); rintro e w' ⟨rfl, rfl⟩)))
          replace cu : (w1.drewN nq).cell? ⟨w.heap.size, k - 7, none⟩ = some (.int .u32 (u : Int)) := cu
          replace cv : (w1.drewN nq).cell? ⟨w.heap.size, k - 16, none⟩ = some (.int .u32 (v : Int)) := cv
          replace cz : (w1.drewN nq).cell? ⟨w.heap.size, k, none⟩ = some (.int .u32 (z : Int)) := cz
          replace cf : (w1.drewN nq).frozen? ⟨w.heap.size, k, none⟩ = false := cf
          replace HW : Hid (BlkU (w1.drewN nq) w.heap.size 111 (wordsZ bl k)) := HW.out
          replace HB : Hid (Below w.heap.size w (w1.drewN nq)) := Lib.hid (drewN_below HB.out nq)
          clear cx cy
          generalize w1.drewN nq = w2 at *
          refine wp_region_still_tail 15 (by kernel_rfl) (by kernel_rfl) ?_
          simp only [List.take_succ_cons, List.take_zero, List.drop_succ_cons, List.drop_zero]
          repeat (refine wpStill_step (fun K hK => ?_); go_simp; (try go_bits); refine hK _ ?_; clear hK K)
          try refine wpStill_nil ?_
          change wpList _ _ _ _ _ w2.drew
          have HWn : Hid (∀ e : Int, e = (((low1 x + u + low0 y + v) % 4294967296 : Nat) : Int) → BlkU (w2.drew.setCell ⟨w.heap.size, k, none⟩ (.int .u32 e)) w.heap.size 111 (wordsZ bl (k + 1))) := by
            intro e he
            subst he
            have h := BlkU.set (w := w2.drew) HW.out k ((low1 x + u + low0 y + v) % 4294967296)
            rwa [wordsZ_next bl (by omega) (by rw [if_neg (by omega)]; exact HN.out.symm)] at h
          have HBn : Hid (∀ e : Value, Below w.heap.size w (w2.drew.setCell ⟨w.heap.size, k, none⟩ e)) := fun e => (drewN_below HB.out 1).setCell (Nat.le_refl _) _
          go_wp2_with fail
          go_roundw
          case rel => exact ⟨k + 1, by omega, by omega, by go_num, HWn.out _ (sum4 _ _ _ _), HBn.out _⟩
          case measure => simp [intOf]; omega
        · have HWK : Hid (BlkU w1 w.heap.size 111 (wordsN bl 64)) := by
            have h := HW.out
            rwa [show k = 64 by omega, wordsZ_end] at h
          clear HW
          have HHK : Hid (HBlk w1 gh s.list rest h t) := HH.out.below HB.out
          have HTK : Hid (TabU w1 2 kL) := HK.out.below HB.out
          have k0 := HHK.out.state (i := 0) (by omega)
          have k1 := HHK.out.state (i := 1) (by omega)
          have k2 := HHK.out.state (i := 2) (by omega)
          have k3 := HHK.out.state (i := 3) (by omega)
          have k4 := HHK.out.state (i := 4) (by omega)
          have k5 := HHK.out.state (i := 5) (by omega)
          have k6 := HHK.out.state (i := 6) (by omega)
          have k7 := HHK.out.state (i := 7) (by omega)
          replace k0 : w1.cell? ⟨gh, 0, none⟩ = some (.int .u32 (s.a : Int)) := k0
          replace k1 : w1.cell? ⟨gh, 1, none⟩ = some (.int .u32 (s.b : Int)) := k1
          replace k2 : w1.cell? ⟨gh, 2, none⟩ = some (.int .u32 (s.c : Int)) := k2
          replace k3 : w1.cell? ⟨gh, 3, none⟩ = some (.int .u32 (s.d : Int)) := k3
          replace k4 : w1.cell? ⟨gh, 4, none⟩ = some (.int .u32 (s.e : Int)) := k4
          replace k5 : w1.cell? ⟨gh, 5, none⟩ = some (.int .u32 (s.f : Int)) := k5
          replace k6 : w1.cell? ⟨gh, 6, none⟩ = some (.int .u32 (s.g : Int)) := k6
          replace k7 : w1.cell? ⟨gh, 7, none⟩ = some (.int .u32 (s.h : Int)) := k7
          go_wp2_with fail
          go_quiet (fail)
          replace HWK : Hid (BlkU (w1.drewN nq) w.heap.size 111 (wordsN bl 64)) := HWK.out
          replace HHK : Hid (HBlk (w1.drewN nq) gh s.list rest h t) := HHK.out
          replace HTK : Hid (TabU (w1.drewN nq) 2 kL) := HTK.out
          replace HB : Hid (Below w.heap.size w (w1.drewN nq)) := Lib.hid (drewN_below HB.out nq)
          clear k0 k1 k2 k3 k4 k5 k6 k7
          generalize w1.drewN nq = w2 at *
          go_wp2_with fail
          go_loopw [11, 12, 13, 14, 15, 16, 17, 18, 146] (fun u1 u2 u3 u4 u5 u6 u7 u8 i wr => ∃ k a b c d e f g z : Nat, k ≤ 64 ∧ i = .int .i64 k ∧ u1 = .int .u32 a ∧ u2 = .int .u32 b ∧ u3 = .int .u32 c ∧ u4 = .int .u32 d ∧ u5 = .int .u32 e ∧ u6 = .int .u32 f ∧ u7 = .int .u32 g ∧ u8 = .int .u32 z ∧ Hid (roundsN s (wordsN bl 64) k = ⟨a, b, c, d, e, f, g, z⟩) ∧ Hid (BlkU wr w.heap.size 111 (wordsN bl 64)) ∧ Hid (HBlk wr gh s.list rest h t) ∧ Hid (TabU wr 2 kL) ∧ Hid (Below w.heap.size w wr)) (fun _ _ _ _ _ _ _ _ i _ => 64 - (intOf i).toNat)
          case atStart => exact ⟨0, s.a, s.b, s.c, s.d, s.e, s.f, s.g, s.h, by omega, rfl, rfl, rfl, rfl, rfl, rfl, rfl, rfl, rfl, rfl, HWK.out, HHK.out, HTK.out, HB.out⟩
          case round =>
            clear HWK HHK HTK HB
            obtain ⟨k, a, b, c, d, e, f, g, z, hk, rfl, rfl, rfl, rfl, rfl, rfl, rfl, rfl, rfl, HR, HWK, HHK, HTK, HB⟩ := hrel
            obtain ⟨w3, rfl⟩ : ∃ w3, w3 = wr := ⟨_, rfl⟩
            have hok := roundsN_ok HS.out (wordsN bl 64) k
            rw [HR.out] at hok
            obtain ⟨la, lb, lc, ld, le, lf, lg, lz⟩ := hok
            simp only at la lb lc ld le lf lg lz
            by_cases hlt : k < 64
            · have cw := HWK.out.cell (i := k) (by rw [wordsN_length]; exact hlt)
              have ck := HTK.out.2 k hlt
              have hj : (k : Int) < 64 := by omega
              have hi : (0 : Int) ≤ (k : Int) := by omega
              have HRN : Hid (roundsN s (wordsN bl 64) (k + 1) = roundN ⟨a, b, c, d, e, f, g, z⟩ (kL.getD k 0) ((wordsN bl 64).getD k 0)) := by
                show _ = _
                rw [← HR.out]
                rfl
              generalize (wordsN bl 64).getD k 0 = wk at *
              generalize kL.getD k 0 = kk at *
              have h1 := high1_bits le
              have h0 := high0_bits la
              have hp := pick_bits le lf lg
              have hm := most_bits la lb lc
              go_wp2_with fail
              go_quiet ((first
                | (go_at_call 82; exact Calls.quiet_of_same (rotl_at 6 _ _ _ le (by omega) (by omega) (by omega)))
                | (go_at_call 82; exact Calls.quiet_of_same (rotl_at 11 _ _ _ le (by omega) (by omega) (by omega)))
                | (go_at_call 82; exact Calls.quiet_of_same (rotl_at 25 _ _ _ le (by omega) (by omega) (by omega)))))
              go_wp2_with (first
                | (go_at_call 82; ((with_reducible refine (rotl_at 2 _ _ _ la (by omega) (by omega) (by omega)).mono ?_); rintro e w' ⟨rfl, rfl⟩))
                | (go_at_call 82; ((with_reducible refine (rotl_at 13 _ _ _ la (by omega) (by omega) (by omega)).mono ?_); rintro e w' ⟨rfl, rfl⟩))
                | (go_at_call 82; ((with_reducible refine (rotl_at 22 _ _ _ la (by omega) (by omega) (by omega)).mono ?_); rintro e w' ⟨rfl, rfl⟩)))
              go_roundw
              case rel => exact ⟨k + 1, _, a, b, c, _, e, f, g, by omega, by go_num, num (round_a a b c d e f g z kk wk), rfl, rfl, rfl, num (round_e a b c d e f g z kk wk), rfl, rfl, rfl, HRN.out, HWK.out, HHK.out, HTK.out, drewN_below HB.out nq⟩
              case measure => simp [intOf]; omega
            · have HV : Hid (roundsN s (wordsN bl 64) 64 = ⟨a, b, c, d, e, f, g, z⟩) := by
                have h := HR.out
                rwa [show k = 64 by omega] at h
              have hv : (⟨a, b, c, d, e, f, g, z⟩ : St).list = [a, b, c, d, e, f, g, z] := rfl
              have HVL := Lib.hid hv
              clear hv
              go_wp2_with fail
              go_loopw [215] (fun i wr => ∃ k : Nat, k ≤ 8 ∧ i = .int .i64 k ∧ Hid (HBlk wr gh (mixL s ⟨a, b, c, d, e, f, g, z⟩ k) rest h t) ∧ Hid (w.grownBy wr (some gh))) (fun i _ => 8 - (intOf i).toNat)
              case atStart => exact ⟨0, by omega, rfl, HHK.out, grown_of_below HB.out _⟩
              case round =>
                clear HHK HB HTK HWK
                obtain ⟨k, hk, rfl, HM, HG⟩ := hrel
                obtain ⟨w4, rfl⟩ : ∃ w4, w4 = wr := ⟨_, rfl⟩
                by_cases hlt : k < 8
                · have hc := HM.out.state (i := k) hlt
                  rw [mixL_at _ _ hlt] at hc
                  have hf := HM.out.frozen k
                  have hn := mixL_next s ⟨a, b, c, d, e, f, g, z⟩ hlt
                  rw [HVL.out] at hn
                  have hx : #[Value.int .u32 a, .int .u32 b, .int .u32 c, .int .u32 d, .int .u32 e, .int .u32 f, .int .u32 g, .int .u32 z][k]? = some (.int .u32 (([a, b, c, d, e, f, g, z] : List Nat).getD k 0 : Nat)) := by
                    have := uvs_at [a, b, c, d, e, f, g, z] (i := k) hlt
                    rw [← this, ← List.getElem?_toArray]
                    rfl
                  have hsl := (St.list_w HS.out).getD k
                  generalize ([a, b, c, d, e, f, g, z] : List Nat).getD k 0 = vk at *
                  generalize s.list.getD k 0 = sk at *
                  have HN := Lib.hid hn
                  clear hn
                  have hj : (k : Int) < 8 := by omega
                  have hi : (0 : Int) ≤ (k : Int) := by omega
                  have hrun := fun w => index_at (P := Tryd.prog) (t := 82) (e := 81) w Tryd.underlying82 (by kernel_rfl) (by kernel_rfl) hlt hx
                  clear hx
                  go_wp2_with fail
                  refine wp_region_still_tail 11 (by kernel_rfl) (by kernel_rfl) ?_
                  simp only [List.take_succ_cons, List.take_zero, List.drop_succ_cons, List.drop_zero]
                  repeat (refine wpStill_step (fun K hK => ?_); go_simp; (try go_bits); refine hK _ ?_; clear hK K)
                  try refine wpStill_nil ?_
                  change wpList _ _ _ _ _ w4.drew
                  have HMn : Hid (HBlk (w4.drew.setCell ⟨gh, k, none⟩ (.int .u32 (((sk : Int) + vk) % 4294967296))) gh (mixL s ⟨a, b, c, d, e, f, g, z⟩ (k + 1)) rest h t) := by
                    have h := HBlk.setState (w := w4.drew) HM.out hlt ((sk + vk) % 4294967296)
                    rw [HN.out] at h
                    rwa [show (((sk + vk) % 4294967296 : Nat) : Int) = ((sk : Int) + vk) % 4294967296 by omega] at h
                  have HGn : Hid (w.grownBy (w4.drew.setCell ⟨gh, k, none⟩ (.int .u32 (((sk : Int) + vk) % 4294967296))) (some gh)) :=
                    grown_trans (b := w4.drew) (grown_drew HG.out) (grown_setCell w4.drew (g := gh) k _)
                  clear hrun
                  go_wp2_with fail
                  go_roundw
                  case rel => exact ⟨k + 1, by omega, by go_num, HMn.out, HGn.out⟩
                  case measure => simp [intOf]; omega
                · have HF : Hid (StepPost gh s bl rest h t w w4) := by
                    have h1 := HM.out
                    rw [show k = 8 by omega, mixL_end] at h1
                    refine ⟨?_, HG.out⟩
                    unfold blockN
                    rw [HV.out]
                    exact h1
                  go_wp2_with fail
                  go_end0
                  exact ⟨rfl, HF.out⟩
end Go.Proofs.YtfnlhfaihoojfaaDoor
