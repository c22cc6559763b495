/- The text of a short address is short. -/
import Derived.Test.YtnalafhepnfggaaDoorLaws13
namespace Go.Proofs.YtnalafhepnfggaaDoor
open Go.RowKit
set_option linter.unusedVariables false
set_option linter.unusedSimpArgs false

/-- The text of an address of few, and short, pieces is short. -/
theorem writeX_few {w : World} {u : UrlS} (hu : UrlIn w u) (hf : FewP u) (f : Bool) : (writeX u f).length ≤ 9000 := by
  have f1 := hf.scheme
  have f2 := hf.user
  have f3 := hf.pass
  have f4 := hf.flat
  have f5 := hf.query
  have f6 := hf.frag
  have f7 := hf.name
  have f8 := hf.path
  have hw : (whoL u).length ≤ 1002 := by
    unfold whoL; split
    · simp
    · split <;> simp only [List.length_append, List.length_cons, List.length_nil, size_toList] <;> omega
  have hh : (hostL u.host).length ≤ 500 := by
    have h1 := fourL_len u.host.four
    have h2 := sixL_len u.host.six
    unfold hostL; split
    · rw [size_toList]; exact f7
    · split
      · omega
      · split <;> simp <;> omega
  have ha : (aheadX u).length ≤ 1600 := by
    have h3 := itoa_len u.port hu.port.1 hu.port.2
    unfold aheadX portL optB; split
    · split <;> simp
    · split <;> simp <;> omega
  have hp : (pathX u).length ≤ 2050 := by
    unfold pathX; split
    · rw [size_toList]; omega
    · exact f8
  have ho : ∀ (b : Bool) (l : List UInt8) (n : Nat), l.length ≤ n → (optB b l).length ≤ n := by
    intro b l n h; unfold optB; split
    · exact h
    · exact Nat.zero_le _
  have o1 := ho u.hasQuery ([63] ++ u.query.toList) 1001 (by simp only [List.length_append, List.length_cons, List.length_nil, size_toList]; omega)
  have o2 := ho (u.hasFrag && f) ([35] ++ u.frag.toList) 1001 (by simp only [List.length_append, List.length_cons, List.length_nil, size_toList]; omega)
  unfold writeX
  simp only [List.length_append, List.length_cons, List.length_nil, size_toList] at o1 o2 ⊢
  omega
end Go.Proofs.YtnalafhepnfggaaDoor
