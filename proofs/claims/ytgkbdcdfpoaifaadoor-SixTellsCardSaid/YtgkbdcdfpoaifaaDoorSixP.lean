/- How the text of an address of eight pieces is read: plain lists of bytes; no program in sight. -/
import Derived.Test.YtgkbdcdfpoaifaaDoorFourC
namespace Go.Proofs.YtgkbdcdfpoaifaaDoor
open Go.RowKit
set_option linter.unusedVariables false

/-- A piece: one to four digits of base 16. -/
def pieceV (l : List UInt8) : Option Nat := if 4 < l.length then none else digs1 16 l
/-- A number of 0 to 255, without a nought ahead. -/
def byteV10 (l : List UInt8) : Option Nat :=
  if 3 < l.length ∨ (1 < l.length ∧ l.head? = some 48) then none
  else match digs1 10 l with | none => none | some n => if 255 < n then none else some n
def fourGo : Nat → Nat → List UInt8 → Option Nat
  | 0, acc, l => if (cutC 46 l).2.2 = true then none else (byteV10 (cutC 46 l).1).map fun v => acc * 256 + v
  | k + 1, acc, l => if (cutC 46 l).2.2 = true then (match byteV10 (cutC 46 l).1 with | none => none | some v => fourGo k (acc * 256 + v) (cutC 46 l).2.1) else none
/-- Four numbers with points between. -/
def fourV (l : List UInt8) : Option Nat := fourGo 3 0 l
/-- What one text between colons tells. -/
def pieceL (last nb : Bool) (t : List UInt8) : Option (List Nat) :=
  if last = true ∧ nb = true ∧ t.contains 46 = true then (fourV t).map fun n => [n / 65536, n % 65536] else (pieceV t).map fun v => [v]
def rowGo (nb : Bool) : Nat → List UInt8 → Option (List Nat)
  | 0, _ => none
  | f + 1, l =>
    match pieceL (!(cutC 58 l).2.2) nb (cutC 58 l).1 with
    | none => none
    | some x => if (cutC 58 l).2.2 = true then (rowGo nb f (cutC 58 l).2.1).map (fun y => x ++ y) else some x
/-- A row's text. -/
def rowV (nb : Bool) (l : List UInt8) : Option (List Nat) := if l = [] then some [] else rowGo nb (l.length + 1) l
end Go.Proofs.YtgkbdcdfpoaifaaDoor
