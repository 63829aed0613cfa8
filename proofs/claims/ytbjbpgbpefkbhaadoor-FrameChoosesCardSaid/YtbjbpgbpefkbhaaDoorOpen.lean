/- A slice of bytes that came in, as the walks ask for it. No program is named here. -/
import Derived.Test.YtbjbpgbpefkbhaaDoorLib
import Derived.OpenShut
namespace Go.Proofs.YtbjbpgbpefkbhaaDoor
open Go.RowKit
/-- What the walk is told of a slice of integers that came in. -/
def IsRow (k : IntKind) (w : World) (a : Option Addr) (len cap : Nat) (zs : List Int) : Prop :=
  (a = none ∧ len = 0 ∧ cap = 0 ∧ zs = []) ∨
  ∃ x, a = some x ∧ len ≤ cap ∧ cap ≤ maxLen ∧ zs.length = cap ∧ (∀ i, i < zs.length → w.cell? (x.add i) = some (.int k (zs.getD i 0))) ∧ ∀ n ∈ zs, (Lit.int k n).wf = true
theorem wf_u8_bounds {n : Int} (h : (Lit.int .u8 n).wf = true) : 0 ≤ n ∧ n ≤ 255 := by
  simpa [Lit.wf, IntKind.min, IntKind.max, IntKind.signed, IntKind.bits] using h
theorem wf_u32_nat {n : Int} (h : (Lit.int .u32 n).wf = true) : ∃ m : Nat, n = m ∧ m < 4294967296 := by
  have h' : 0 ≤ n ∧ n ≤ 4294967295 := by simpa [Lit.wf, IntKind.min, IntKind.max, IntKind.signed, IntKind.bits] using h
  exact ⟨n.toNat, by omega, by omega⟩
theorem wf_i64_bounds {n : Int} (h : (Lit.int .i64 n).wf = true) : -9223372036854775808 ≤ n ∧ n ≤ 9223372036854775807 := by
  simpa [Lit.wf, IntKind.min, IntKind.max, IntKind.signed, IntKind.bits] using h
theorem lt_of_cell {w : World} {p : Addr} {v : Value} (h : w.cell? p = some v) : p.block < w.heap.size := by
  rcases Nat.lt_or_ge p.block w.heap.size with h' | h'
  · exact h'
  · simp [World.cell?, Array.getElem?_eq_none h'] at h
theorem rb_of_row {w : World} {a : Option Addr} {len cap : Nat} {zs : List Int} (h : IsRow .u8 w a len cap zs) :
    ∃ xs, RB w a len xs ∧ (a = none → cap = 0) ∧ len ≤ cap ∧ cap ≤ maxLen := by
  rcases h with ⟨rfl, rfl, rfl, rfl⟩ | ⟨x, rfl, hl, hm, hz, hc, hwf⟩
  · exact ⟨[], RB.nil _ _, fun _ => rfl, Nat.le_refl _, by simp [maxLen]⟩
  · have hb : ∀ i, i < cap → 0 ≤ zs.getD i 0 ∧ zs.getD i 0 ≤ 255 := fun i hi => by
      refine wf_u8_bounds (hwf _ ?_)
      exact List.mem_of_getElem? (i := i) (by simp [List.getD, hz, hi])
    refine ⟨(zs.take len).map Int.toNat, ⟨by simp; omega, ?_, fun hn => ?_⟩, fun h => (by cases h), hl, hm⟩
    · intro y hy
      simp only [List.mem_map] at hy
      obtain ⟨z, hz', rfl⟩ := hy
      have := wf_u8_bounds (hwf z (List.mem_of_mem_take hz'))
      omega
    · refine ⟨x, rfl, ?_, fun j y hj => ?_⟩
      · have := lt_of_cell (hc 0 (by omega))
        rwa [block_add] at this
      · simp only [List.getElem?_map, Option.map_eq_some_iff] at hj
        obtain ⟨z, hz', rfl⟩ := hj
        have hjl : j < len := by
          rcases Nat.lt_or_ge j len with h | h
          · exact h
          · rw [List.getElem?_eq_none (by simp; omega)] at hz'; cases hz'
        have e : zs.getD j 0 = z := by
          rw [List.getElem?_take, if_pos hjl] at hz'
          simp [List.getD, hz']
        rw [hc j (by omega), e]
        have := hb j (by omega)
        rw [e] at this
        simp only [Option.some.injEq, Value.int.injEq, true_and]
        omega
end Go.Proofs.YtbjbpgbpefkbhaaDoor
