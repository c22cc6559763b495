/- Types of data: plain lists of bytes; no program in sight. -/
import Derived.Test.YtnalafhepnfggaaDoorCut
import Derived.Test.YtnalafhepnfggaaDoorTrim
namespace Go.Proofs.YtnalafhepnfggaaDoor
open Go.RowKit
set_option linter.unusedVariables false
set_option linter.unusedSimpArgs false

/-- The spaces of types. -/
def spZ (c : Int) : Bool := decide (c = 9 ∨ c = 10 ∨ c = 13 ∨ c = 32)
def sp20 (c : Int) : Bool := decide (c = 32)
def signsL : List UInt8 := [33, 35, 36, 37, 38, 39, 42, 43, 45, 46, 94, 95, 96, 124, 126]
/-- A sign of a token. -/
def tokC (c : UInt8) : Bool := letterZ (c.toNat : Int) || decide (0 ≤ digitZ (c.toNat : Int) 10) || signsL.contains c
def tokB (l : List UInt8) : Bool := !l.isEmpty && l.all tokC
/-- The type that a text tells, in small letters. -/
def essT (t : List UInt8) : Option (List UInt8) :=
  if (cutC 47 t).2.2 = false then none
  else if tokB (cutC 47 t).1 = true ∧ tokB (rdropZ spZ (cutC 59 (cutC 47 t).2.1).1) = true then some (lowerL (cutC 47 t).1 ++ 47 :: lowerL (rdropZ spZ (cutC 59 (cutC 47 t).2.1).1)) else none
def essL (l : List UInt8) : Option (List UInt8) := essT (dropZ spZ (rdropZ spZ l))
def base64L : List UInt8 := [98, 97, 115, 101, 54, 52]
/-- A head without the word at its end that tells how data is written. -/
def bareL (s : List UInt8) : List UInt8 :=
  if 6 ≤ s.length ∧ lowerL (s.drop (s.length - 6)) = base64L then
    (if (rdropZ sp20 (s.take (s.length - 6))).getLast? = some 59 then (rdropZ sp20 (s.take (s.length - 6))).dropLast else s)
  else s
def plainL : List UInt8 := [116, 101, 120, 116, 47, 112, 108, 97, 105, 110]
/-- The type of data, its head known. -/
def typeL (h : List UInt8) : List UInt8 := (essL (if (bareL (stripL h)).head? = some 59 then plainL ++ bareL (stripL h) else bareL (stripL h))).getD plainL
/-- The type of the data of a text that begins with data: . -/
def dataL (t : List UInt8) : Option (List UInt8) := if (cutC 44 (t.drop 5)).2.2 = true then some (typeL (cutC 44 (t.drop 5)).1) else none
end Go.Proofs.YtnalafhepnfggaaDoor
