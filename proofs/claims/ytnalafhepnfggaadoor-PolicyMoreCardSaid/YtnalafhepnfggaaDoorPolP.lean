/- What is allowed: plain lists; no program in sight. -/
import Derived.Test.YtnalafhepnfggaaDoorMimeD
namespace Go.Proofs.YtnalafhepnfggaaDoor
open Go.RowKit
set_option linter.unusedVariables false
set_option linter.unusedSimpArgs false

/-- Is a text one of some? -/
def oneOf (l : List ByteArray) (s : List UInt8) : Bool := l.any fun e => e.toList == s
/-- Does an entry allow a host? -/
def hostE (h : HostS) (e : ByteArray) : Bool := (e.toList == hostL h) || (e.toList == [42]) || (Lib.hasPrefix e.toList [46] && decide (h.kind = 2) && decide (e.size < h.name.size) && Lib.hasSuffix h.name.toList e.toList)
def noHost (h : HostS) : Bool := decide (h.kind = 0) || decide (h.kind = 1)
def hostA (l : List ByteArray) (h : HostS) : Bool := noHost h || l.any (hostE h)
def typeA (T : List ByteArray) (u : UrlS) : Bool := if u.scheme.toList = dataW then (match dataU u with | none => false | some e => oneOf T e) else true
/-- Is an address allowed? -/
def allowsA (S H T : List ByteArray) (u : UrlS) : Bool := oneOf S u.scheme.toList && hostA H u.host && typeA T u
theorem oneOf_append (a b : List ByteArray) (s : List UInt8) : oneOf (a ++ b) s = (oneOf a s || oneOf b s) := by unfold oneOf; rw [List.any_append]
theorem hostA_append (a b : List ByteArray) (h : HostS) : hostA (a ++ b) h = (hostA b h || hostA a h) := by
  unfold hostA
  rw [List.any_append]
  cases noHost h <;> cases a.any (hostE h) <;> cases b.any (hostE h) <;> rfl
theorem allowsA_more (S H T S' H' T' : List ByteArray) (u : UrlS) (h : allowsA S H T u = true) : allowsA (S' ++ S) (H' ++ H) (T' ++ T) u = true := by
  unfold allowsA at h ⊢
  rw [Bool.and_eq_true, Bool.and_eq_true] at h
  obtain ⟨⟨h1, h2⟩, h3⟩ := h
  rw [oneOf_append, hostA_append, h1, h2, Bool.or_true, Bool.true_or, Bool.true_and, Bool.true_and]
  unfold typeA at h3 ⊢
  by_cases hd : u.scheme.toList = dataW
  · rw [if_pos hd] at h3 ⊢
    cases he : dataU u with
    | none => rw [he] at h3; exact absurd h3 (by simp)
    | some e => rw [he] at h3; dsimp only at h3 ⊢; rw [oneOf_append, h3, Bool.or_true]
  · rw [if_neg hd]
theorem allowsA_none (H T : List ByteArray) (u : UrlS) : allowsA [] H T u = false := rfl
end Go.Proofs.YtnalafhepnfggaaDoor
