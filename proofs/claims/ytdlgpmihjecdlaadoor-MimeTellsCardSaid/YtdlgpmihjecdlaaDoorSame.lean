/- The contract of tamisref01.Same, over this seat's program. -/
import Derived.Test.YtdlgpmihjecdlaaDoorBase
namespace Go.Proofs.YtdlgpmihjecdlaaDoor
open Go.RowKit
set_option linter.unusedVariables false

theorem sameB_cons {l m : List ByteArray} {k : Nat} (h1 : k < l.length) (h2 : k < m.length) : sameB (l.drop k) (m.drop k) = ((l[k].toList == m[k].toList) && sameB (l.drop (k + 1)) (m.drop (k + 1))) := by
  rw [List.drop_eq_getElem_cons h1, List.drop_eq_getElem_cons h2]; simp only [sameB, List.map_cons]; rfl
theorem sameB_len {l m : List ByteArray} (h : l.length ≠ m.length) : sameB l m = false := by
  simp only [sameB, beq_eq_false_iff_ne]
  intro e; exact h (by simpa using congrArg List.length e)
theorem OwnS.le {w : World} {B : Nat} {E : TypeId} {v : Value} {l : List ByteArray} (h : OwnS w B E v l) : l.length ≤ maxLen := by
  rcases h.2 with ⟨_, hn⟩ | ⟨g, cap, cur, _, _, _, hcap, hml, _⟩
  · omega
  · omega
end Go.Proofs.YtdlgpmihjecdlaaDoor
