/- Plain: a type with one more byte in it; no program in sight. -/
import Derived.Test.YtdlgpmihjecdlaaDoorMimeR
namespace Go.Proofs.YtdlgpmihjecdlaaDoor
open Go.RowKit
set_option linter.unusedVariables false
set_option linter.unusedSimpArgs false

def abcdL : List UInt8 := [97, 98, 47, 99, 100]
def insL (m : Nat) (c : UInt8) : List UInt8 := abcdL.take m ++ c :: abcdL.drop m
/-- At the edge a space is none of it; behind the last sign a semicolon ends it. -/
def offC (m : Nat) (c : UInt8) : Bool := (decide (m = 0) && (decide (c.toNat = 9) || decide (c.toNat = 10) || decide (c.toNat = 13) || decide (c.toNat = 32))) || (decide (m = 4) && decide (c.toNat = 59))
theorem ins_all : ∀ m : Fin 5, m.val ≠ 2 → ∀ n : Fin 256,
    (tokC (UInt8.ofNat n.val) = true → essL (insL m.val (UInt8.ofNat n.val)) = some (lowerL (insL m.val (UInt8.ofNat n.val)))) ∧
    (tokC (UInt8.ofNat n.val) = false → offC m.val (UInt8.ofNat n.val) = true → (essL (insL m.val (UInt8.ofNat n.val))).isSome = true) ∧
    (tokC (UInt8.ofNat n.val) = false → offC m.val (UInt8.ofNat n.val) = false → essL (insL m.val (UInt8.ofNat n.val)) = none) := by decide +kernel
theorem ins_at {m : Nat} (hm : m ≤ 4) (h2 : m ≠ 2) (c : UInt8) :
    (tokC c = true → essL (insL m c) = some (lowerL (insL m c))) ∧
    (tokC c = false → offC m c = true → (essL (insL m c)).isSome = true) ∧
    (tokC c = false → offC m c = false → essL (insL m c) = none) := by
  have h := ins_all ⟨m, by omega⟩ h2 ⟨c.toNat, c.toNat_lt⟩
  have e : UInt8.ofNat c.toNat = c := by simp
  simp only [e] at h
  exact h
end Go.Proofs.YtdlgpmihjecdlaaDoor
