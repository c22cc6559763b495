/- How a row's text and an address's text are read, step by step: plain lists of bytes; no program in sight. -/
import Derived.Test.YtgkbdcdfpoaifaaDoorSixP
namespace Go.Proofs.YtgkbdcdfpoaifaaDoor
open Go.RowKit
set_option linter.unusedVariables false

/-- A row's text, of eight pieces at most. -/
def rowC (nb : Bool) (l : List UInt8) : Option (List Nat) := match rowV nb l with | none => none | some x => if x.length ≤ 8 then some x else none
/-- What a row tells, some pieces read already. -/
def rowK (nb : Bool) (f : Nat) (P : List Nat) (t : List UInt8) : Option (List Nat) := match rowGo nb f t with | none => none | some x => if (P ++ x).length ≤ 8 then some (P ++ x) else none
theorem rowC_go {nb : Bool} {l : List UInt8} (h : l ≠ []) : rowC nb l = rowK nb (l.length + 1) [] l := by
  unfold rowC rowK rowV; rw [if_neg h]; rfl
theorem rowK_none {nb : Bool} {f : Nat} {P : List Nat} {t : List UInt8} (h : pieceL (!(cutC 58 t).2.2) nb (cutC 58 t).1 = none) : rowK nb (f + 1) P t = none := by
  unfold rowK; rw [rowGo, h]
theorem rowK_more {nb : Bool} {f : Nat} {P x : List Nat} {t : List UInt8} (h : pieceL (!(cutC 58 t).2.2) nb (cutC 58 t).1 = some x) (hm : (cutC 58 t).2.2 = true) :
    rowK nb (f + 1) P t = rowK nb f (P ++ x) (cutC 58 t).2.1 := by
  unfold rowK; rw [rowGo, h]
  dsimp only
  rw [if_pos hm]
  cases rowGo nb f (cutC 58 t).2.1 with
  | none => rfl
  | some y => simp only [Option.map_some, List.append_assoc]
theorem rowK_last {nb : Bool} {f : Nat} {P x : List Nat} {t : List UInt8} (h : pieceL (!(cutC 58 t).2.2) nb (cutC 58 t).1 = some x) (hm : (cutC 58 t).2.2 = false) :
    rowK nb (f + 1) P t = if (P ++ x).length ≤ 8 then some (P ++ x) else none := by
  unfold rowK; rw [rowGo, h]
  dsimp only
  rw [if_neg (by rw [hm]; decide)]
theorem rowK_long {nb : Bool} {f : Nat} {P : List Nat} {t : List UInt8} (h : 8 < P.length) : rowK nb f P t = none := by
  unfold rowK
  cases rowGo nb f t with
  | none => rfl
  | some y => exact if_neg (by rw [List.length_append]; omega)
theorem rowK_step {nb m : Bool} {f : Nat} {P x : List Nat} {t : List UInt8} (hm : (cutC 58 t).2.2 = m) (h : pieceL (!m) nb (cutC 58 t).1 = some x) :
    ((P ++ x).length ≤ 8 → if m = true then rowK nb (f + 1) P t = rowK nb f (P ++ x) (cutC 58 t).2.1 else rowK nb (f + 1) P t = some (P ++ x)) ∧ (8 < (P ++ x).length → rowK nb (f + 1) P t = none) := by
  subst hm
  cases hm : (cutC 58 t).2.2
  · rw [rowK_last h hm]
    exact ⟨fun h8 => by rw [if_neg (by decide), if_pos h8], fun h8 => if_neg (by omega)⟩
  · rw [rowK_more h hm]
    exact ⟨fun _ => by rw [if_pos rfl], fun h8 => rowK_long h8⟩
theorem pieceL_one {last nb : Bool} {t : List UInt8} (h : last = false ∨ nb = false ∨ t.contains 46 = false) : pieceL last nb t = (pieceV t).map fun v => [v] := by
  unfold pieceL
  rw [if_neg]
  rintro ⟨h1, h2, h3⟩
  rcases h with h | h | h
  · rw [h] at h1; cases h1
  · rw [h] at h2; cases h2
  · rw [h] at h3; cases h3
theorem pieceL_four {t : List UInt8} (h : t.contains 46 = true) : pieceL true true t = (fourV t).map fun n => [n / 65536, n % 65536] := by
  unfold pieceL
  rw [if_pos ⟨rfl, rfl, h⟩]
theorem cutC_short {c : UInt8} {l : List UInt8} (h : (cutC c l).2.2 = true) : (cutC c l).2.1.length < l.length := by
  have := congrArg List.length (cutC_all c l)
  rw [h] at this; simp at this; omega
/-- A text cut at its first two colons. -/
def cutD (l : List UInt8) : List UInt8 × List UInt8 × Bool := Lib.cut l [58, 58]
/-- The address that a text tells. -/
def sixP (l : List UInt8) : Option (List Nat) :=
  if (cutD l).2.2 = true then
    match rowC false (cutD l).1 with
    | none => none
    | some x => match rowC true (cutD l).2.1 with
      | none => none
      | some y => if x.length + y.length < 8 then some (x ++ (List.replicate (8 - x.length - y.length) 0 ++ y)) else none
  else match rowC true l with | none => none | some x => if x.length = 8 then some x else none
end Go.Proofs.YtgkbdcdfpoaifaaDoor
