/- The contracts of host.Write, and of the reference's. -/
import Derived.Test.YtgkbdcdfpoaifaaDoorFourW
import Derived.Test.YtgkbdcdfpoaifaaDoorSixW
namespace Go.Proofs.YtgkbdcdfpoaifaaDoor
open Go.RowKit
set_option linter.unusedVariables false

/-- A host. -/
structure HostS where
  kind : Int
  name : ByteArray
  four : Nat
  six : List Nat
/-- .. as a value. -/
def hostC (h : HostS) : Array Value := #[.int .i64 h.kind, .string h.name, .int .u32 (h.four : Int), .int .u16 ((pc h.six 0 : Nat) : Int), .int .u16 ((pc h.six 1 : Nat) : Int), .int .u16 ((pc h.six 2 : Nat) : Int), .int .u16 ((pc h.six 3 : Nat) : Int), .int .u16 ((pc h.six 4 : Nat) : Int), .int .u16 ((pc h.six 5 : Nat) : Int), .int .u16 ((pc h.six 6 : Nat) : Int), .int .u16 ((pc h.six 7 : Nat) : Int)]
structure HostOk (h : HostS) : Prop where
  four : h.four < 4294967296
  six : Six h.six
  name : h.name.size ≤ maxLen
/-- .. and its text. -/
def hostL (h : HostS) : List UInt8 := if h.kind = 2 ∨ h.kind = 5 then h.name.toList else if h.kind = 3 then fourL h.four else if h.kind = 4 then [91] ++ sixL h.six ++ [93] else []
/-- What the kind is, in the code's order. -/
theorem kind_ways (h : HostS) : ((h.kind == 2) = true ∧ hostL h = h.name.toList) ∨ ((h.kind == 2) = false ∧ (((h.kind == 5) = true ∧ hostL h = h.name.toList) ∨ ((h.kind == 5) = false ∧
    (((h.kind == 3) = true ∧ hostL h = fourL h.four) ∨ ((h.kind == 3) = false ∧ (((h.kind == 4) = true ∧ hostL h = [91] ++ sixL h.six ++ [93]) ∨ ((h.kind == 4) = false ∧ hostL h = []))))))) := by
  unfold hostL
  by_cases h2 : h.kind = 2
  · exact .inl ⟨by simp [h2], by simp [h2]⟩
  refine .inr ⟨by simp [h2], ?_⟩
  by_cases h5 : h.kind = 5
  · exact .inl ⟨by simp [h5], by simp [h5]⟩
  refine .inr ⟨by simp [h5], ?_⟩
  by_cases h3 : h.kind = 3
  · exact .inl ⟨by simp [h3], by simp [h3]⟩
  refine .inr ⟨by simp [h3], ?_⟩
  by_cases h4 : h.kind = 4
  · exact .inl ⟨by simp [h4], by simp [h4]⟩
  exact .inr ⟨by simp [h4], by simp [h2, h3, h4, h5]⟩
theorem fourL_len (n : Nat) : (fourL n).length ≤ 16 := fourP_len n 4
theorem sixGo_len : ∀ f l b e i, (sixGo f l b e i).length ≤ 5 * f
  | 0, _, _, _, _ => by simp [sixGo]
  | f + 1, l, b, e, i => by
    have h1 := sixGo_len f l b e e
    have h2 := sixGo_len f l b e (i + 1)
    have h3 := hexL_len (pc l i)
    unfold sixGo
    split
    · split
      · simp; omega
      · simp only [List.length_append]; split <;> simp <;> omega
    · simp
theorem sixL_len (l : List Nat) : (sixL l).length ≤ 40 := sixGo_len 8 l _ _ 0
theorem sizeOfL {t : ByteArray} {l : List UInt8} {n : Nat} (h : t.toList = l) (hl : l.length ≤ n) : t.size ≤ n := by rw [← size_toList, h]; exact hl

end Go.Proofs.YtgkbdcdfpoaifaaDoor
