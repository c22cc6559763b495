/- What the texts of addresses of four bytes tell: no program in sight. -/
import Derived.Test.YtbejimncmfeggaaDoorAscii
import Derived.Test.YtbejimncmfeggaaDoorSplit
namespace Go.Proofs.YtbejimncmfeggaaDoor
open Go.RowKit
set_option linter.unusedVariables false

/-- Digits of a base, read on from acc. -/
def digsGo (base : Nat) : Nat → List UInt8 → Option Nat
  | acc, [] => some acc
  | acc, c :: r => if digitZ (c.toNat : Int) (base : Int) < 0 then none else digsGo base (acc * base + (digitZ (c.toNat : Int) (base : Int)).toNat) r
/-- One digit or more. -/
def digs1 (base : Nat) (l : List UInt8) : Option Nat := if l = [] then none else digsGo base 0 l
/-- A number's text. -/
def numV : List UInt8 → Option Nat
  | [] => none
  | [c] => digsGo 10 0 [c]
  | c :: d :: r => if c = 48 then (if d = 120 ∨ d = 88 then digsGo 16 0 r else digsGo 8 0 (d :: r)) else digsGo 10 0 (c :: d :: r)
/-- The parts of an address. -/
def partsL (s : List UInt8) : List (List UInt8) := if 1 < (splitC 46 s).length ∧ (splitC 46 s).getLast? = some [] then (splitC 46 s).dropLast else splitC 46 s
def parseGo : Nat → List (List UInt8) → Nat → Option Nat
  | _, [], sum => some sum
  | i, [x], sum => match numV x with
    | none => none
    | some v => if v < 2 ^ (8 * (4 - i)) then some (sum + v) else none
  | i, x :: y :: r, sum => match numV x with
    | none => none
    | some v => if v ≤ 255 then parseGo (i + 1) (y :: r) (sum + v * 2 ^ (8 * (3 - i))) else none
def parseV (l : List (List UInt8)) : Option Nat := if 4 < l.length then none else parseGo 0 l 0
/-- The address that a text tells. -/
def parseL (s : List UInt8) : Option Nat := parseV (partsL s)
def lastP (l : List (List UInt8)) : List UInt8 := (l.getLast?).getD []
/-- Does a text end as an address? -/
def endsL (s : List UInt8) : Bool := (digs1 10 (lastP (partsL s))).isSome || (numV (lastP (partsL s))).isSome
theorem partsL_ne (s : List UInt8) : partsL s ≠ [] := by
  unfold partsL
  split
  · rename_i h
    intro h2
    have := congrArg List.length h2
    rw [List.length_dropLast, List.length_nil] at this; omega
  · exact splitC_ne _ _
theorem parseGo_lt : ∀ (l : List (List UInt8)) (i sum v : Nat), i + l.length ≤ 4 → 0 < l.length → sum + 2 ^ (8 * (4 - i)) ≤ 2 ^ 32 → parseGo i l sum = some v → v < 2 ^ 32
  | [], i, sum, v, h, h0, hs, e => by simp at h0
  | [x], i, sum, v, h, _, hs, e => by
    unfold parseGo at e
    cases hx : numV x with
    | none => rw [hx] at e; cases e
    | some n =>
      rw [hx] at e
      dsimp only at e
      by_cases hn : n < 2 ^ (8 * (4 - i))
      · rw [if_pos hn] at e; cases e; omega
      · rw [if_neg hn] at e; cases e
  | x :: y :: r, i, sum, v, h, _, hs, e => by
    unfold parseGo at e
    cases hx : numV x with
    | none => rw [hx] at e; cases e
    | some n =>
      rw [hx] at e
      dsimp only at e
      by_cases hn : n ≤ 255
      · rw [if_pos hn] at e
        refine parseGo_lt (y :: r) (i + 1) _ v (by simp at h ⊢; omega) (by simp) ?_ e
        have h3 : i ≤ 2 := by simp at h; omega
        have hp : 2 ^ (8 * (4 - i)) = 256 * 2 ^ (8 * (3 - i)) := by
          have : 8 * (4 - i) = 8 + 8 * (3 - i) := by omega
          rw [this, Nat.pow_add]
        have e2 : 4 - (i + 1) = 3 - i := by omega
        rw [e2]
        have : (n + 1) * 2 ^ (8 * (3 - i)) ≤ 256 * 2 ^ (8 * (3 - i)) := Nat.mul_le_mul_right _ (by omega)
        rw [Nat.add_mul] at this
        omega
      · rw [if_neg hn] at e; cases e
theorem parseL_lt {s : List UInt8} {v : Nat} (h : parseL s = some v) : v < 4294967296 := by
  unfold parseL parseV at h
  by_cases h4 : 4 < (partsL s).length
  · rw [if_pos h4] at h; cases h
  · rw [if_neg h4] at h
    exact parseGo_lt (partsL s) 0 0 v (by omega) (List.length_pos_iff.2 (partsL_ne s)) (by decide) h
end Go.Proofs.YtbejimncmfeggaaDoor
