/- ledgerlaw1.DigestForks: what stands in memory between its calls. -/
import Derived.Test.YtadhjgopekekgaaDoorLawSplits1
import Derived.Test.YtadhjgopekekgaaDoorAppRB
namespace Go.Proofs.YtadhjgopekekgaaDoor
open Go.RowKit
/-- Three hashers and two lists, none of them sharing memory. -/
structure FkInv (w0 : World) (base g1 g2 g3 : Nat) (va vb : Value) (T1 T2 T3 UA UB : List Nat) (w : World) : Prop where
  below : Below w0.heap.size w0 w
  size : base ≤ w.heap.size
  p1 : w0.heap.size ≤ g1
  p2 : w0.heap.size ≤ g2
  p3 : w0.heap.size ≤ g3
  b1 : g1 < base
  b2 : g2 < base
  b3 : g3 < base
  d12 : g1 ≠ g2
  d13 : g1 ≠ g3
  d23 : g2 ≠ g3
  h1 : HashIs w g1 T1
  h2 : HashIs w g2 T2
  h3 : HashIs w g3 T3
  oa : OwnU w base va UA
  ob : OwnU w base vb UB
  ap : Apart va vb
  lo : w0.heap.size ≤ base
section
variable {w0 w w' : World} {base g1 g2 g3 : Nat} {va vb : Value} {T1 T2 T3 UA UB ys : List Nat}
theorem FkInv.later (h : FkInv w0 base g1 g2 g3 va vb T1 T2 T3 UA UB w) (hb : Below w.heap.size w w') : FkInv w0 base g1 g2 g3 va vb T1 T2 T3 UA UB w' :=
  { h with below := h.below.trans (hb.mono h.below.size), size := Nat.le_trans h.size hb.size, h1 := h.h1.below hb, h2 := h.h2.below hb, h3 := h.h3.below hb, oa := h.oa.below hb, ob := h.ob.below hb }
theorem grown_below {B : Nat} {row : Option Nat} (hb : Below B w0 w) (hg : w.grownBy w' row) (hB : B ≤ w.heap.size) (hr : ∀ k, row = some k → B ≤ k) : Below B w0 w' := hb.grown hg hB hr
theorem FkInv.put1 (h : FkInv w0 base g1 g2 g3 va vb T1 T2 T3 UA UB w) (hh : HashIs w' g1 ys) (hg : w.grownBy w' (some g1)) : FkInv w0 base g1 g2 g3 va vb ys T2 T3 UA UB w' :=
  { h with below := h.below.grown hg h.below.size (fun _ hk => (Option.some.inj hk) ▸ h.p1), size := Nat.le_trans h.size hg.size, h1 := hh, h2 := h.h2.grown hg (fun e => h.d12 (Option.some.inj e).symm), h3 := h.h3.grown hg (fun e => h.d13 (Option.some.inj e).symm), oa := h.oa.kept hg (own_ne h.oa h.b1), ob := h.ob.kept hg (own_ne h.ob h.b1) }
theorem FkInv.put2 (h : FkInv w0 base g1 g2 g3 va vb T1 T2 T3 UA UB w) (hh : HashIs w' g2 ys) (hg : w.grownBy w' (some g2)) : FkInv w0 base g1 g2 g3 va vb T1 ys T3 UA UB w' :=
  { h with below := h.below.grown hg h.below.size (fun _ hk => (Option.some.inj hk) ▸ h.p2), size := Nat.le_trans h.size hg.size, h2 := hh, h1 := h.h1.grown hg (fun e => h.d12 (Option.some.inj e)), h3 := h.h3.grown hg (fun e => h.d23 (Option.some.inj e).symm), oa := h.oa.kept hg (own_ne h.oa h.b2), ob := h.ob.kept hg (own_ne h.ob h.b2) }
theorem FkInv.put3 (h : FkInv w0 base g1 g2 g3 va vb T1 T2 T3 UA UB w) (hh : HashIs w' g3 ys) (hg : w.grownBy w' (some g3)) : FkInv w0 base g1 g2 g3 va vb T1 T2 ys UA UB w' :=
  { h with below := h.below.grown hg h.below.size (fun _ hk => (Option.some.inj hk) ▸ h.p3), size := Nat.le_trans h.size hg.size, h3 := hh, h1 := h.h1.grown hg (fun e => h.d13 (Option.some.inj e)), h2 := h.h2.grown hg (fun e => h.d23 (Option.some.inj e)), oa := h.oa.kept hg (own_ne h.oa h.b3), ob := h.ob.kept hg (own_ne h.ob h.b3) }
theorem FkInv.addA {v' : Value} (h : FkInv w0 base g1 g2 g3 va vb T1 T2 T3 UA UB w) (hh : OwnU w' base v' ys) (hg : w.grownBy w' va.ownBlock) (hl : Lies w va v') : FkInv w0 base g1 g2 g3 v' vb T1 T2 T3 ys UB w' :=
  { h with below := h.below.grown hg h.below.size (fun k hk => Nat.le_trans h.lo (h.oa.lt k hk).1), size := Nat.le_trans h.size hg.size, h1 := h.h1.grown hg (own_ne' h.oa h.b1), h2 := h.h2.grown hg (own_ne' h.oa h.b2), h3 := h.h3.grown hg (own_ne' h.oa h.b3), oa := hh, ob := kept_apart h.ob hg h.ap, ap := apart_step h.ap hl (fun k hk => (h.ob.lt k hk).2) }
theorem FkInv.addB {v' : Value} (h : FkInv w0 base g1 g2 g3 va vb T1 T2 T3 UA UB w) (hh : OwnU w' base v' ys) (hg : w.grownBy w' vb.ownBlock) (hl : Lies w vb v') : FkInv w0 base g1 g2 g3 va v' T1 T2 T3 UA ys w' :=
  { h with below := h.below.grown hg h.below.size (fun k hk => Nat.le_trans h.lo (h.ob.lt k hk).1), size := Nat.le_trans h.size hg.size, h1 := h.h1.grown hg (own_ne' h.ob h.b1), h2 := h.h2.grown hg (own_ne' h.ob h.b2), h3 := h.h3.grown hg (own_ne' h.ob h.b3), ob := hh, oa := kept_apart h.oa hg h.ap.symm', ap := (apart_step h.ap.symm' hl (fun k hk => (h.oa.lt k hk).2)).symm' }
/-- A piece that was there before: it reads in every later world, and lies apart from every hasher. -/
structure PcAt (w0 : World) (A : Option Addr) (c : Nat) (ys : List Nat) : Prop where
  reads : ∀ W, Below w0.heap.size w0 W → RB W A ys.length ys
  room : ys.length ≤ c
  lim : c ≤ maxLen
  nil_ : A = none → c = 0
  low : 0 < ys.length → ∀ ad, A = some ad → ad.block < w0.heap.size
theorem PcAt.mk' {A : Option Addr} {c : Nat} (hr : RB w0 A ys.length ys) (h1 : ys.length ≤ c) (h2 : c ≤ maxLen) (h3 : A = none → c = 0) : PcAt w0 A c ys :=
  ⟨fun W hb => hr.below hb, h1, h2, h3, fun h0 ad e => by
    obtain ⟨ad', e2, hb2, _⟩ := hr.2.2 h0
    rw [e] at e2
    injection e2 with e2
    rw [e2]
    exact hb2⟩
theorem FkInv.write1 (h : FkInv w0 base g1 g2 g3 va vb T1 T2 T3 UA UB w) (ht : Tabs w0) {A : Option Addr} {c : Nat} (hp : PcAt w0 A c ys) (hl : ys.length ≤ 140737488355328) :
    Calls Tryd.prog 19 #[.pointer (some ⟨g1, 0, none⟩), .slice A ys.length c] w fun e w' => e = .returned (.tuple #[]) ∧ FkInv w0 base g1 g2 g3 va vb (T1 ++ ys) T2 T3 UA UB w' :=
  (write_any g1 A ys.length c T1 ys w (hp.reads w h.below) hp.room hl (fun h0 ad e => by have h1 := hp.low h0 ad e; have := h.p1; omega) h.h1 (ht.below h.below).2 (fun e => by have h1 := ht.2.1; have := h.p1; omega)).mono fun _ _ ⟨he, hh, hg⟩ => ⟨he, h.put1 hh hg⟩
theorem FkInv.write2 (h : FkInv w0 base g1 g2 g3 va vb T1 T2 T3 UA UB w) (ht : Tabs w0) {A : Option Addr} {c : Nat} (hp : PcAt w0 A c ys) (hl : ys.length ≤ 140737488355328) :
    Calls Tryd.prog 19 #[.pointer (some ⟨g2, 0, none⟩), .slice A ys.length c] w fun e w' => e = .returned (.tuple #[]) ∧ FkInv w0 base g1 g2 g3 va vb T1 (T2 ++ ys) T3 UA UB w' :=
  (write_any g2 A ys.length c T2 ys w (hp.reads w h.below) hp.room hl (fun h0 ad e => by have h1 := hp.low h0 ad e; have := h.p2; omega) h.h2 (ht.below h.below).2 (fun e => by have h1 := ht.2.1; have := h.p2; omega)).mono fun _ _ ⟨he, hh, hg⟩ => ⟨he, h.put2 hh hg⟩
theorem FkInv.write3 (h : FkInv w0 base g1 g2 g3 va vb T1 T2 T3 UA UB w) (ht : Tabs w0) {A : Option Addr} {c : Nat} (hp : PcAt w0 A c ys) (hl : ys.length ≤ 140737488355328) :
    Calls Tryd.prog 19 #[.pointer (some ⟨g3, 0, none⟩), .slice A ys.length c] w fun e w' => e = .returned (.tuple #[]) ∧ FkInv w0 base g1 g2 g3 va vb T1 T2 (T3 ++ ys) UA UB w' :=
  (write_any g3 A ys.length c T3 ys w (hp.reads w h.below) hp.room hl (fun h0 ad e => by have h1 := hp.low h0 ad e; have := h.p3; omega) h.h3 (ht.below h.below).2 (fun e => by have h1 := ht.2.1; have := h.p3; omega)).mono fun _ _ ⟨he, hh, hg⟩ => ⟨he, h.put3 hh hg⟩
theorem FkInv.reset3 (h : FkInv w0 base g1 g2 g3 va vb T1 T2 T3 UA UB w) (ht : Tabs w0) :
    Calls Tryd.prog 21 #[.pointer (some ⟨g3, 0, none⟩)] w fun e w' => e = .returned (.tuple #[]) ∧ FkInv w0 base g1 g2 g3 va vb T1 T2 [] UA UB w' :=
  (reset_any g3 T3 w (ht.below h.below).1 h.h3).mono fun _ _ ⟨he, hh, hg⟩ => ⟨he, h.put3 hh hg⟩
theorem FkInv.sum1 (h : FkInv w0 base g1 g2 g3 va vb T1 T2 T3 UA UB w) (ht : Tabs w0) :
    Calls Tryd.prog 17 #[.pointer (some ⟨g1, 0, none⟩)] w fun e w' => e = .returned (.agg (bvs (shaN T1)).toArray) ∧ FkInv w0 base g1 g2 g3 va vb T1 T2 T3 UA UB w' :=
  (hsum_any g1 T1 w h.h1 (ht.below h.below).2).mono fun _ _ ⟨he, hb⟩ => ⟨he, h.later hb⟩
theorem FkInv.sum2 (h : FkInv w0 base g1 g2 g3 va vb T1 T2 T3 UA UB w) (ht : Tabs w0) :
    Calls Tryd.prog 17 #[.pointer (some ⟨g2, 0, none⟩)] w fun e w' => e = .returned (.agg (bvs (shaN T2)).toArray) ∧ FkInv w0 base g1 g2 g3 va vb T1 T2 T3 UA UB w' :=
  (hsum_any g2 T2 w h.h2 (ht.below h.below).2).mono fun _ _ ⟨he, hb⟩ => ⟨he, h.later hb⟩
theorem FkInv.sum3 (h : FkInv w0 base g1 g2 g3 va vb T1 T2 T3 UA UB w) (ht : Tabs w0) :
    Calls Tryd.prog 17 #[.pointer (some ⟨g3, 0, none⟩)] w fun e w' => e = .returned (.agg (bvs (shaN T3)).toArray) ∧ FkInv w0 base g1 g2 g3 va vb T1 T2 T3 UA UB w' :=
  (hsum_any g3 T3 w h.h3 (ht.below h.below).2).mono fun _ _ ⟨he, hb⟩ => ⟨he, h.later hb⟩
theorem FkInv.dsumP (h : FkInv w0 base g1 g2 g3 va vb T1 T2 T3 UA UB w) (ht : Tabs w0) {A : Option Addr} {c : Nat} (hp : PcAt w0 A c ys) (hl : ys.length ≤ 140737488355328) :
    Calls Tryd.prog 8 #[.slice A ys.length c] w fun e w' => e = .returned (.agg (bvs (shaN ys)).toArray) ∧ FkInv w0 base g1 g2 g3 va vb T1 T2 T3 UA UB w' :=
  (dsum_any A ys.length c ys w (hp.reads w h.below) hp.room hl (ht.below h.below)).mono fun _ _ ⟨he, hb⟩ => ⟨he, h.later hb⟩
theorem FkInv.dsumA {A : Option Addr} {c : Nat} (h : FkInv w0 base g1 g2 g3 (.slice A UA.length c) vb T1 T2 T3 UA UB w) (ht : Tabs w0) (hl : UA.length ≤ 140737488355328) :
    Calls Tryd.prog 8 #[.slice A UA.length c] w fun e w' => e = .returned (.agg (bvs (shaN UA)).toArray) ∧ FkInv w0 base g1 g2 g3 (.slice A UA.length c) vb T1 T2 T3 UA UB w' :=
  (dsum_any A UA.length c UA w h.oa.reads h.oa.room hl (ht.below h.below)).mono fun _ _ ⟨he, hb⟩ => ⟨he, h.later hb⟩
theorem FkInv.dsumB {A : Option Addr} {c : Nat} (h : FkInv w0 base g1 g2 g3 va (.slice A UB.length c) T1 T2 T3 UA UB w) (ht : Tabs w0) (hl : UB.length ≤ 140737488355328) :
    Calls Tryd.prog 8 #[.slice A UB.length c] w fun e w' => e = .returned (.agg (bvs (shaN UB)).toArray) ∧ FkInv w0 base g1 g2 g3 va (.slice A UB.length c) T1 T2 T3 UA UB w' :=
  (dsum_any A UB.length c UB w h.ob.reads h.ob.room hl (ht.below h.below)).mono fun _ _ ⟨he, hb⟩ => ⟨he, h.later hb⟩
end
end Go.Proofs.YtadhjgopekekgaaDoor
