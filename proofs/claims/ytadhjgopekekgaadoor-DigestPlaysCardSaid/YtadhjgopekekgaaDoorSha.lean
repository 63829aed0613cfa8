/- SHA-256, plain: no program is named here. -/
import Derived.Test.YtadhjgopekekgaaDoorLib
namespace Go.Proofs.YtadhjgopekekgaaDoor
def kL : List Nat := [0x428a2f98, 0x71374491, 0xb5c0fbcf, 0xe9b5dba5, 0x3956c25b, 0x59f111f1, 0x923f82a4, 0xab1c5ed5,
  0xd807aa98, 0x12835b01, 0x243185be, 0x550c7dc3, 0x72be5d74, 0x80deb1fe, 0x9bdc06a7, 0xc19bf174,
  0xe49b69c1, 0xefbe4786, 0x0fc19dc6, 0x240ca1cc, 0x2de92c6f, 0x4a7484aa, 0x5cb0a9dc, 0x76f988da,
  0x983e5152, 0xa831c66d, 0xb00327c8, 0xbf597fc7, 0xc6e00bf3, 0xd5a79147, 0x06ca6351, 0x14292967,
  0x27b70a85, 0x2e1b2138, 0x4d2c6dfc, 0x53380d13, 0x650a7354, 0x766a0abb, 0x81c2c92e, 0x92722c85,
  0xa2bfe8a1, 0xa81a664b, 0xc24b8b70, 0xc76c51a3, 0xd192e819, 0xd6990624, 0xf40e3585, 0x106aa070,
  0x19a4c116, 0x1e376c08, 0x2748774c, 0x34b0bcb5, 0x391c0cb3, 0x4ed8aa4a, 0x5b9cca4f, 0x682e6ff3,
  0x748f82ee, 0x78a5636f, 0x84c87814, 0x8cc70208, 0x90befffa, 0xa4506ceb, 0xbef9a3f7, 0xc67178f2]
def hL : List Nat := [0x6a09e667, 0xbb67ae85, 0x3c6ef372, 0xa54ff53a, 0x510e527f, 0x9b05688c, 0x1f83d9ab, 0x5be0cd19]
/-- All numbers are below 2^32. -/
def IsW (xs : List Nat) : Prop := ∀ x ∈ xs, x < 4294967296
theorem IsW.nil : IsW [] := fun _ h => by cases h
theorem IsW.app {xs ys : List Nat} (h : IsW xs) (k : IsW ys) : IsW (xs ++ ys) := fun x hx => by
  rcases List.mem_append.1 hx with hx | hx
  · exact h x hx
  · exact k x hx
theorem IsW.one {x : Nat} (h : x < 4294967296) : IsW [x] := fun y hy => by simp at hy; omega
theorem IsW.getD {xs : List Nat} (h : IsW xs) (i : Nat) : xs.getD i 0 < 4294967296 := by
  rcases Nat.lt_or_ge i xs.length with hi | hi
  · exact h _ (getD_mem hi)
  · simp [List.getD, List.getElem?_eq_none hi]
theorem hL_w : IsW hL := by
  show ∀ x ∈ hL, x < 4294967296
  decide
theorem kL_w : IsW kL := by
  show ∀ x ∈ kL, x < 4294967296
  decide
/-- Moved round about, n places down. -/
def rot (x n : Nat) : Nat := (x * 2 ^ (32 - n) % 4294967296) ||| (x / 2 ^ n)
theorem or_lt32 {a b : Nat} (ha : a < 4294967296) (hb : b < 4294967296) : a ||| b < 4294967296 := Nat.or_lt_two_pow (n := 32) ha hb
theorem and_lt32 {a b : Nat} (ha : a < 4294967296) : a &&& b < 4294967296 := Nat.lt_of_le_of_lt Nat.and_le_left ha
theorem xor_lt32' {a b : Nat} (ha : a < 4294967296) (hb : b < 4294967296) : a ^^^ b < 4294967296 := Nat.xor_lt_two_pow (n := 32) ha hb
theorem rot_lt {x : Nat} (h : x < 4294967296) (n : Nat) : rot x n < 4294967296 :=
  or_lt32 (Nat.mod_lt _ (by decide)) (Nat.lt_of_le_of_lt (Nat.div_le_self _ _) h)
theorem rot_comm (x n : Nat) : (x / 2 ^ n) ||| (x * 2 ^ (32 - n) % 4294967296) = rot x n := Nat.or_comm _ _
def low0 (x : Nat) : Nat := rot x 7 ^^^ rot x 18 ^^^ (x / 2 ^ 3)
def low1 (x : Nat) : Nat := rot x 17 ^^^ rot x 19 ^^^ (x / 2 ^ 10)
def high0 (x : Nat) : Nat := rot x 2 ^^^ rot x 13 ^^^ rot x 22
def high1 (x : Nat) : Nat := rot x 6 ^^^ rot x 11 ^^^ rot x 25
def pick (e f g : Nat) : Nat := g ^^^ (e &&& (f ^^^ g))
def most (a b c : Nat) : Nat := (a &&& b) ||| (c &&& (a ||| b))
theorem div_lt32 {x : Nat} (h : x < 4294967296) (n : Nat) : x / 2 ^ n < 4294967296 := Nat.lt_of_le_of_lt (Nat.div_le_self _ _) h
theorem low0_lt {x : Nat} (h : x < 4294967296) : low0 x < 4294967296 := xor_lt32' (xor_lt32' (rot_lt h _) (rot_lt h _)) (div_lt32 h _)
theorem low1_lt {x : Nat} (h : x < 4294967296) : low1 x < 4294967296 := xor_lt32' (xor_lt32' (rot_lt h _) (rot_lt h _)) (div_lt32 h _)
theorem high0_lt {x : Nat} (h : x < 4294967296) : high0 x < 4294967296 := xor_lt32' (xor_lt32' (rot_lt h _) (rot_lt h _)) (rot_lt h _)
theorem high1_lt {x : Nat} (h : x < 4294967296) : high1 x < 4294967296 := xor_lt32' (xor_lt32' (rot_lt h _) (rot_lt h _)) (rot_lt h _)
theorem pick_lt {e f g : Nat} (he : e < 4294967296) (hg : g < 4294967296) : pick e f g < 4294967296 := xor_lt32' hg (and_lt32 he)
theorem most_lt {a b c : Nat} (ha : a < 4294967296) (hc : c < 4294967296) : most a b c < 4294967296 := or_lt32 (and_lt32 ha) (and_lt32 hc)
theorem comp_testBit (e i : Nat) (he : e < 4294967296) : (4294967295 - e).testBit i = (decide (i < 32) && !e.testBit i) := by
  rw [show 4294967295 - e = 2 ^ 32 - (e + 1) by omega, Nat.testBit_two_pow_sub_succ (by omega : e < 2 ^ 32)]
theorem pick_ref {e f g : Nat} (he : e < 4294967296) (hg : g < 4294967296) : (e &&& f) ^^^ ((4294967295 - e) &&& g) = pick e f g := by
  apply Nat.eq_of_testBit_eq
  intro i
  unfold pick
  simp only [Nat.testBit_xor, Nat.testBit_and, comp_testBit e i he]
  by_cases h : i < 32
  · simp only [h, decide_true, Bool.true_and]
    cases e.testBit i <;> cases f.testBit i <;> cases g.testBit i <;> rfl
  · have h2 : 2 ^ 32 ≤ 2 ^ i := Nat.pow_le_pow_right (by decide) (by omega)
    have e1 : e.testBit i = false := Nat.testBit_lt_two_pow (Nat.lt_of_lt_of_le he h2)
    have e2 : g.testBit i = false := Nat.testBit_lt_two_pow (Nat.lt_of_lt_of_le hg h2)
    simp [h, e1, e2]
theorem most_ref (a b c : Nat) : (a &&& b) ^^^ (a &&& c) ^^^ (b &&& c) = most a b c := by
  apply Nat.eq_of_testBit_eq
  intro i
  unfold most
  simp only [Nat.testBit_xor, Nat.testBit_and, Nat.testBit_or]
  cases a.testBit i <;> cases b.testBit i <;> cases c.testBit i <;> rfl
/-- Four bytes, the great one first. -/
def beW (a b c d : Nat) : Nat := a * 16777216 + b * 65536 + c * 256 + d
def wordAt (bl : List Nat) (t : Nat) : Nat := beW (bl.getD (4 * t) 0) (bl.getD (4 * t + 1) 0) (bl.getD (4 * t + 2) 0) (bl.getD (4 * t + 3) 0)
def nextW (l : List Nat) (t : Nat) : Nat := (low1 (l.getD (t - 2) 0) + l.getD (t - 7) 0 + low0 (l.getD (t - 15) 0) + l.getD (t - 16) 0) % 4294967296
/-- The first t words of a block. -/
def wordsN (bl : List Nat) : Nat → List Nat
  | 0 => []
  | t + 1 => wordsN bl t ++ [if t < 16 then wordAt bl t else nextW (wordsN bl t) t]
theorem wordsN_length (bl : List Nat) (t : Nat) : (wordsN bl t).length = t := by
  induction t with
  | zero => rfl
  | succ t ih => simp [wordsN, ih]
theorem beW_lt {a b c d : Nat} (ha : a < 256) (hb : b < 256) (hc : c < 256) (hd : d < 256) : beW a b c d < 4294967296 := by unfold beW; omega
theorem byteAt {ks : List Nat} (hB : IsB ks) (b : Nat) : ks.getD b 0 < 256 := by
  rcases Nat.lt_or_ge b ks.length with h2 | h2
  · exact hB _ (getD_mem h2)
  · simp [List.getD, List.getElem?_eq_none h2]
theorem wordAt_lt {bl : List Nat} (hB : IsB bl) (t : Nat) : wordAt bl t < 4294967296 := beW_lt (byteAt hB _) (byteAt hB _) (byteAt hB _) (byteAt hB _)
theorem wordsN_w {bl : List Nat} (hB : IsB bl) (t : Nat) : IsW (wordsN bl t) := by
  induction t with
  | zero => exact IsW.nil
  | succ t ih =>
    unfold wordsN
    refine ih.app (IsW.one ?_)
    split
    · exact wordAt_lt hB t
    · exact Nat.mod_lt _ (by decide)
structure St where
  (a b c d e f g h : Nat)
def St.Ok (s : St) : Prop := s.a < 4294967296 ∧ s.b < 4294967296 ∧ s.c < 4294967296 ∧ s.d < 4294967296 ∧ s.e < 4294967296 ∧ s.f < 4294967296 ∧ s.g < 4294967296 ∧ s.h < 4294967296
def oneN (s : St) (k w : Nat) : Nat := (s.h + high1 s.e + pick s.e s.f s.g + k + w) % 4294967296
def twoN (s : St) : Nat := (high0 s.a + most s.a s.b s.c) % 4294967296
def roundN (s : St) (k w : Nat) : St := ⟨(oneN s k w + twoN s) % 4294967296, s.a, s.b, s.c, (s.d + oneN s k w) % 4294967296, s.e, s.f, s.g⟩
theorem roundN_ok {s : St} (h : s.Ok) (k w : Nat) : (roundN s k w).Ok := by
  obtain ⟨h1, h2, h3, h4, h5, h6, h7, h8⟩ := h
  exact ⟨Nat.mod_lt _ (by decide), h1, h2, h3, Nat.mod_lt _ (by decide), h5, h6, h7⟩
def roundsN (s : St) (ws : List Nat) : Nat → St
  | 0 => s
  | t + 1 => roundN (roundsN s ws t) (kL.getD t 0) (ws.getD t 0)
theorem roundsN_ok {s : St} (h : s.Ok) (ws : List Nat) (t : Nat) : (roundsN s ws t).Ok := by
  induction t with
  | zero => exact h
  | succ t ih => exact roundN_ok ih _ _
def addSt (s v : St) : St := ⟨(s.a + v.a) % 4294967296, (s.b + v.b) % 4294967296, (s.c + v.c) % 4294967296, (s.d + v.d) % 4294967296, (s.e + v.e) % 4294967296, (s.f + v.f) % 4294967296, (s.g + v.g) % 4294967296, (s.h + v.h) % 4294967296⟩
def blockN (s : St) (bl : List Nat) : St := addSt s (roundsN s (wordsN bl 64) 64)
theorem addSt_ok (s v : St) : (addSt s v).Ok := ⟨Nat.mod_lt _ (by decide), Nat.mod_lt _ (by decide), Nat.mod_lt _ (by decide), Nat.mod_lt _ (by decide), Nat.mod_lt _ (by decide), Nat.mod_lt _ (by decide), Nat.mod_lt _ (by decide), Nat.mod_lt _ (by decide)⟩
theorem blockN_ok (s : St) (bl : List Nat) : (blockN s bl).Ok := addSt_ok _ _
def St.begin : St := ⟨0x6a09e667, 0xbb67ae85, 0x3c6ef372, 0xa54ff53a, 0x510e527f, 0x9b05688c, 0x1f83d9ab, 0x5be0cd19⟩
theorem begin_ok : St.begin.Ok := by refine ⟨?_, ?_, ?_, ?_, ?_, ?_, ?_, ?_⟩ <;> decide
def St.list (s : St) : List Nat := [s.a, s.b, s.c, s.d, s.e, s.f, s.g, s.h]
/-- The state behind the first n blocks of a text. -/
def stAt (xs : List Nat) : Nat → St
  | 0 => St.begin
  | n + 1 => blockN (stAt xs n) ((xs.drop (64 * n)).take 64)
theorem stAt_ok (xs : List Nat) (n : Nat) : (stAt xs n).Ok := by
  cases n with
  | zero => exact begin_ok
  | succ n => exact blockN_ok _ _
/-- What comes behind a text. -/
def be64 (n : Nat) : List Nat := (List.range 8).map fun i => n / 2 ^ (56 - 8 * i) % 256
def padN (n : Nat) : List Nat := 128 :: List.replicate ((119 - n % 64) % 64) 0 ++ be64 (8 * n % 18446744073709551616)
def fillN (xs : List Nat) : List Nat := xs ++ padN xs.length
theorem be64_length (n : Nat) : (be64 n).length = 8 := by simp [be64]
theorem padN_length (n : Nat) : (padN n).length = (119 - n % 64) % 64 + 9 := by simp [padN, be64_length]
theorem fillN_length (xs : List Nat) : (fillN xs).length % 64 = 0 := by
  unfold fillN
  rw [List.length_append, padN_length]
  omega
def beB (x : Nat) : List Nat := [x / 16777216 % 256, x / 65536 % 256, x / 256 % 256, x % 256]
def shaN (xs : List Nat) : List Nat := (stAt (fillN xs) ((fillN xs).length / 64)).list.flatMap beB
theorem stAt_app (xs ys : List Nat) (n : Nat) (h : 64 * n ≤ xs.length) : stAt (xs ++ ys) n = stAt xs n := by
  induction n with
  | zero => rfl
  | succ n ih =>
    unfold stAt
    rw [ih (by omega), List.drop_append_of_le_length (by omega), List.take_append_of_le_length (by rw [List.length_drop]; omega)]
end Go.Proofs.YtadhjgopekekgaaDoor
