/- number.Float at texts of ASCII. -/
import Derived.Test.YtbejimncmfeggaaDoorNumH
namespace Go.Proofs.YtbejimncmfeggaaDoor
open Go.RowKit
set_option linter.unusedVariables false

/-- A text of ASCII. -/
def AsciiL (l : List UInt8) : Prop := ∀ c ∈ l, c.toNat < 128
theorem AsciiL.append {a b : List UInt8} (h : AsciiL a) (k : AsciiL b) : AsciiL (a ++ b) := fun c hc => (List.mem_append.1 hc).elim (h c) (k c)
theorem anyE_ascii (x : ByteArray) (hs : x.size < 4294967281) (h : AsciiL x.toList) : AnyE x := by
  intro w
  refine (Tryd.strings_IndexAny_laid x ⟨#[101, 69]⟩ w hs (by decide) ?_ ?_).mono ?_
  · intro j b hb
    refine h b ?_
    rw [ByteArray.toList_eq]
    exact List.mem_of_getElem? hb
  · intro j b hb
    have : b ∈ ([101, 69] : List UInt8) := List.mem_of_getElem? hb
    revert this b
    intro b _ hb2
    simp at hb2
    rcases hb2 with rfl | rfl <;> decide
  · rintro e w' ⟨rfl, hb⟩
    exact ⟨by rw [ByteArray.toList_eq], hb⟩
theorem behindM_ascii {s : ByteArray} (h : AsciiL s.toList) : AsciiL (behindM s).toList := by
  have e0 : (behindM s).toList = Lib.trimPrefix s.data.toList [45] := toList_mk _
  have e2 : s.data.toList = s.toList := (ByteArray.toList_eq ..).symm
  rw [e0, e2]
  unfold Lib.trimPrefix
  split
  · intro c hc; exact h c (List.mem_of_mem_drop hc)
  · exact h
theorem float_ascii (s : ByteArray) (o : Option (Bool × Nat × Int)) (w : World) (hs : s.size ≤ 4294967000) (hm : ML w) (ha : AsciiL s.toList) (h : floatP s.toList = o) :
    Calls Tryd.prog 38 #[.string s] w (RetF w o) :=
  h ▸ float_at s w hs hm (anyE_ascii _ (by have := behindM_size s; omega) (behindM_ascii ha))
end Go.Proofs.YtbejimncmfeggaaDoor
