/- How a refresh's text is read and written: plain lists of bytes; no program in sight. -/
import Derived.Test.YtjbfkaniccljnaaDoorAscii
import Derived.Test.YtjbfkaniccljnaaDoorCut
namespace Go.Proofs.YtjbfkaniccljnaaDoor
open Go.RowKit
set_option linter.unusedVariables false

def isB (c : UInt8) : Bool := blankZ (c.toNat : Int)
def dgt (c : UInt8) : Bool := decide (48 ≤ c.toNat) && decide (c.toNat ≤ 57)
theorem digitZ_dgt0 : ∀ n : Fin 256, (decide (digitZ (n.val : Int) 10 < 0)) = !(decide (48 ≤ n.val) && decide (n.val ≤ 57)) := by decide +kernel
theorem digitZ_dgt (c : UInt8) : digitZ (c.toNat : Int) 10 < 0 ↔ dgt c = false := by
  have := digitZ_dgt0 ⟨c.toNat, c.toNat_lt⟩
  unfold dgt
  constructor
  · intro h
    rw [decide_eq_true (show digitZ (c.toNat : Int) 10 < 0 from h)] at this
    have this : true = !(decide (48 ≤ c.toNat) && decide (c.toNat ≤ 57)) := this
    cases hq : (decide (48 ≤ c.toNat) && decide (c.toNat ≤ 57))
    · rfl
    · rw [hq] at this; cases this
  · intro h
    apply of_decide_eq_true (p := digitZ (c.toNat : Int) 10 < 0)
    rw [this]
    show (!(decide (48 ≤ c.toNat) && decide (c.toNat ≤ 57))) = true
    rw [h]; rfl
def blanksL (l : List UInt8) : List UInt8 := l.dropWhile isB
def delayL (d : List UInt8) : List UInt8 := if d.dropWhile (· == 48) = [] then [48] else d.dropWhile (· == 48)
def dotD (c : UInt8) : Bool := c == 46 || dgt c
def gapC (c : UInt8) : Bool := isB c || c == 59 || c == 44
def sepL (l : List UInt8) : List UInt8 :=
  match blanksL l with
  | [] => []
  | c :: t => if c = 59 ∨ c = 44 then blanksL t else c :: t
def unnamedL (l : List UInt8) : List UInt8 :=
  if l.length < 3 ∨ lowerL (l.take 3) ≠ [117, 114, 108] then l else
  match blanksL (l.drop 3) with
  | [] => l
  | c :: t => if c = 61 then blanksL t else l
def unquotedL (l : List UInt8) : List UInt8 :=
  match l with
  | [] => []
  | c :: t => if c = 34 ∨ c = 39 then (cutC c t).1 else c :: t
/-- Behind the time. -/
def tailP (d r : List UInt8) : Option (List UInt8 × Bool × List UInt8) :=
  match r with
  | [] => some (delayL d, false, [])
  | c :: t => if gapC c = false then none else
    if sepL (c :: t) = [] then some (delayL d, false, []) else some (delayL d, true, unquotedL (unnamedL (sepL (c :: t))))
def parseQ (l : List UInt8) : Option (List UInt8 × Bool × List UInt8) :=
  if l.takeWhile dgt = [] ∧ l.head? ≠ some 46 then none
  else tailP (l.takeWhile dgt) ((l.dropWhile dgt).dropWhile dotD)
/-- A refresh's text, read. -/
def parseL (s : List UInt8) : Option (List UInt8 × Bool × List UInt8) := parseQ (blanksL s)
def writeL (r : List UInt8 × Bool × List UInt8) : List UInt8 := if r.2.1 then r.1 ++ [59, 32, 117, 114, 108, 61] ++ r.2.2 else r.1
end Go.Proofs.YtjbfkaniccljnaaDoor
