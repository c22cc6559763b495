/- The contract of four.Write. -/
import Derived.Test.YtbejimncmfeggaaDoorUint
import Derived.Deep.Cut
import Derived.Deep.CutRange
import Derived.Lib.ItoaNum
namespace Go.Proofs.YtbejimncmfeggaaDoor
open Go.RowKit
set_option linter.unusedVariables false

theorem u32_wraps (n : Int) (h₀ : 0 ≤ n) (h₁ : n < 2 ^ 32) : IntKind.u32.wrap n = n := by rw [IntKind.wrap_u32]; omega
theorem u32_and255 (x : Nat) (h : x < 4294967296) : bits .and .u32 (x : Int) 255 = ((x % 256 : Nat) : Int) := by
  have := bits_mask .u32 32 (by decide) u32_wraps 8 (by decide) (x : Int) (by omega) (by omega)
  rw [show ((2 : Int) ^ 8 - 1) = 255 by decide] at this
  rw [this]; omega
/-- The decimals of a byte of the number. -/
def byte4 (n k : Nat) : List UInt8 := Lib.decDigits (n / 256 ^ (3 - k) % 256)
/-- The first k bytes' decimals, each but the last with a point behind it. -/
def fourP (n : Nat) : Nat → List UInt8
  | 0 => []
  | k + 1 => fourP n k ++ byte4 n k ++ (if k < 3 then [46] else [])
def fourL (n : Nat) : List UInt8 := fourP n 4
theorem decDigits_small (u : Nat) (h : u < 256) : (Lib.decDigits u).length ≤ 3 := by
  rw [Lib.decDigits]
  split
  · simp
  · rw [List.length_append, Lib.decDigits]
    split
    · simp
    · rw [List.length_append, Lib.decDigits, dif_pos (by omega)]; simp
theorem byte4_len (n k : Nat) : (byte4 n k).length ≤ 3 := decDigits_small _ (Nat.mod_lt _ (by decide))
theorem fourP_len (n : Nat) : ∀ k, (fourP n k).length ≤ 4 * k
  | 0 => by simp [fourP]
  | k + 1 => by
    have h1 := fourP_len n k
    have h2 := byte4_len n k
    simp only [fourP, List.length_append]
    split <;> simp <;> omega
theorem U64.small {u : Nat} (h : u < 256) : U64 u := by unfold U64; omega
theorem ty8u : ElemTy Tryd.prog 42 5 (.int .u8 0) 1 := .mk' Tryd.underlying42 (by kernel_rfl) rfl

end Go.Proofs.YtbejimncmfeggaaDoor
