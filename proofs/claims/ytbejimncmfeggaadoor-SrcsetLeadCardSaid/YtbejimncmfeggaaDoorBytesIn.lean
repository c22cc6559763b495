/- Slices of numbers, and of bytes, that came in. -/
import Derived.Test.YtbejimncmfeggaaDoorBase
namespace Go.Proofs.YtbejimncmfeggaaDoor
open Go.RowKit
set_option linter.unusedVariables false

/-- A slice of numbers that came in. -/
def IsRow (k : IntKind) (w : World) (a : Option Addr) (len cap : Nat) (zs : List Int) : Prop :=
  (a = none ∧ len = 0 ∧ cap = 0 ∧ zs = []) ∨ ∃ x : Addr, a = some x ∧ len ≤ cap ∧ cap ≤ maxLen ∧ zs.length = cap ∧ (∀ i, i < zs.length → w.cell? (x.add i) = some (.int k (zs.getD i 0))) ∧ (∀ n ∈ zs, (Lit.int k n).wf = true)
/-- The value is a slice that reads as these bytes. -/
def ReadB (w : World) (v : Value) (l : List UInt8) : Prop :=
  ∃ a c, v = .slice a l.length c ∧ (0 < l.length → ∃ g o, a = some ⟨g, o, none⟩ ∧ ∀ i (h : i < l.length), w.cell? ⟨g, o + i, none⟩ = some (.int .u8 (l[i].toNat : Int)))
theorem cell_plain {w : World} {x : Addr} {v : Value} (h : w.cell? x = some v) : x = ⟨x.block, x.off, none⟩ := by
  obtain ⟨b, o, sp⟩ := x
  cases sp with
  | none => rfl
  | some s =>
    exfalso
    simp only [World.cell?] at h
    split at h
    · simp at h
    · cases h
theorem add_plain (b o i : Nat) : (⟨b, o, none⟩ : Addr).add i = ⟨b, o + i, none⟩ := by
  unfold Addr.add; split <;> simp_all
theorem IsRow.bytes {w : World} {a : Option Addr} {len cap : Nat} {zs : List Int} (h : IsRow .u8 w a len cap zs) : ∃ l : List UInt8, l.length = len ∧ ReadB w (.slice a len cap) l ∧ len ≤ maxLen := by
  rcases h with ⟨rfl, rfl, rfl, rfl⟩ | ⟨x, rfl, hl, hm, hz, hcell, hwf⟩
  · exact ⟨[], rfl, ⟨none, 0, rfl, fun h => absurd h (by decide)⟩, Nat.zero_le _⟩
  · refine ⟨(zs.take len).map fun n => UInt8.ofNat n.toNat, by simp; omega, ⟨some x, cap, by simp; omega, fun h0 => ?_⟩, by omega⟩
    have hx := cell_plain (show w.cell? x = _ from hcell 0 (by simp at h0; omega))
    refine ⟨x.block, x.off, by rw [← hx], fun i hi => ?_⟩
    have hi2 : i < zs.length := by simp at hi; omega
    have hc := hcell i hi2
    rw [hx] at hc
    have hw := bounds_u8 (hwf _ (List.getElem_mem hi2))
    have e : zs.getD i 0 = zs[i] := by simp [List.getD, hi2]
    rw [e] at hc
    rw [add_plain] at hc
    rw [hc]
    simp
    omega
end Go.Proofs.YtbejimncmfeggaaDoor
