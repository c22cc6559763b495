/- The contracts of host.Write, and of the reference's. -/
import Derived.Test.YtnalafhepnfggaaDoorFourW
import Derived.Test.YtnalafhepnfggaaDoorSixW
namespace Go.Proofs.YtnalafhepnfggaaDoor
open Go.RowKit
set_option linter.unusedVariables false

/-- A host. -/
structure HostS where
  kind : Int
  name : ByteArray
  four : Nat
  six : List Nat
/-- .. as a value. -/
def hostC (h : HostS) : Array Value := #[.int .i64 h.kind, .string h.name, .int .u32 (h.four : Int), .int .u16 ((pc h.six 0 : Nat) : Int), .int .u16 ((pc h.six 1 : Nat) : Int), .int .u16 ((pc h.six 2 : Nat) : Int), .int .u16 ((pc h.six 3 : Nat) : Int), .int .u16 ((pc h.six 4 : Nat) : Int), .int .u16 ((pc h.six 5 : Nat) : Int), .int .u16 ((pc h.six 6 : Nat) : Int), .int .u16 ((pc h.six 7 : Nat) : Int)]
structure HostOk (h : HostS) : Prop where
  four : h.four < 4294967296
  six : Six h.six
  name : h.name.size ≤ maxLen
/-- .. and its text. -/
def hostL (h : HostS) : List UInt8 := if h.kind = 2 ∨ h.kind = 5 then h.name.toList else if h.kind = 3 then fourL h.four else if h.kind = 4 then [91] ++ sixL h.six ++ [93] else []
/-- What the kind is, in the code's order. -/
theorem kind_ways (h : HostS) : ((h.kind == 2) = true ∧ hostL h = h.name.toList) ∨ ((h.kind == 2) = false ∧ (((h.kind == 5) = true ∧ hostL h = h.name.toList) ∨ ((h.kind == 5) = false ∧
    (((h.kind == 3) = true ∧ hostL h = fourL h.four) ∨ ((h.kind == 3) = false ∧ (((h.kind == 4) = true ∧ hostL h = [91] ++ sixL h.six ++ [93]) ∨ ((h.kind == 4) = false ∧ hostL h = []))))))) := by
  unfold hostL
  by_cases h2 : h.kind = 2
  · exact .inl ⟨by simp [h2], by simp [h2]⟩
  refine .inr ⟨by simp [h2], ?_⟩
  by_cases h5 : h.kind = 5
  · exact .inl ⟨by simp [h5], by simp [h5]⟩
  refine .inr ⟨by simp [h5], ?_⟩
  by_cases h3 : h.kind = 3
  · exact .inl ⟨by simp [h3], by simp [h3]⟩
  refine .inr ⟨by simp [h3], ?_⟩
  by_cases h4 : h.kind = 4
  · exact .inl ⟨by simp [h4], by simp [h4]⟩
  exact .inr ⟨by simp [h4], by simp [h2, h3, h4, h5]⟩
theorem fourL_len (n : Nat) : (fourL n).length ≤ 16 := fourP_len n 4
theorem sixGo_len : ∀ f l b e i, (sixGo f l b e i).length ≤ 5 * f
  | 0, _, _, _, _ => by simp [sixGo]
  | f + 1, l, b, e, i => by
    have h1 := sixGo_len f l b e e
    have h2 := sixGo_len f l b e (i + 1)
    have h3 := hexL_len (pc l i)
    unfold sixGo
    split
    · split
      · simp; omega
      · simp only [List.length_append]; split <;> simp <;> omega
    · simp
theorem sixL_len (l : List Nat) : (sixL l).length ≤ 40 := sixGo_len 8 l _ _ 0
theorem sizeOfL {t : ByteArray} {l : List UInt8} {n : Nat} (h : t.toList = l) (hl : l.length ≤ n) : t.size ≤ n := by rw [← size_toList, h]; exact hl

set_option maxHeartbeats 1000000 in
theorem hostWrite_any (h : HostS) (ok : HostOk h) (w : World) (ht : Tabs w) :
    Calls Tryd.prog 10 #[.agg (hostC h)] w (RetS w (hostL h)) := by
  have hsv := sixV_eq ok.six
  replace hsv := Lib.hid hsv
  unfold hostC
  have ht1 := ht.alloc (.cells (hostC h) 29)
  have hb1 : Below w.heap.size w (w.alloc (.cells (hostC h) 29)) := (Below.refl _ _).alloc (Nat.le_refl _) _
  unfold hostC at ht1 hb1
  rcases kind_ways h with ⟨k2, e⟩ | ⟨k2, ⟨k5, e⟩ | ⟨k5, ⟨k3, e⟩ | ⟨k3, ⟨k4, e⟩ | ⟨k4, e⟩⟩⟩⟩
  all_goals replace e := Lib.hid e
  · go_enter Tryd.func10, Tryd.ntmps10
    go_wp2_with fail
    go_ret
    exact retS e.out.symm hb1
  · go_enter Tryd.func10, Tryd.ntmps10
    go_wp2_with fail
    go_ret
    exact retS e.out.symm hb1
  · go_enter Tryd.func10, Tryd.ntmps10
    go_wp2_with fail
    refine (fourWrite_any h.four ok.four _ ht1).mono ?_
    rintro e' w2 ⟨t, rfl, ht', hb⟩
    go_wp2_with fail
    go_ret
    exact retS (ht'.out.trans e.out.symm) (hb1.next hb)
  · go_enter Tryd.func10, Tryd.ntmps10
    go_wp2_with fail
    rw [← hsv.out]
    refine (sixWrite_any h.six ok.six _ ht1).mono ?_
    rintro e' w2 ⟨t, rfl, ht', hb⟩
    have hz := sizeOfL ht'.out (sixL_len _)
    go_wp2_with fail
    go_ret
    refine retS ?_ (hb1.next hb)
    rw [e.out, toList_append, toList_append, ht'.out, show (ByteArray.mk #[91]).toList = [91] from toList_mk _, show (ByteArray.mk #[93]).toList = [93] from toList_mk _]
  · go_enter Tryd.func10, Tryd.ntmps10
    go_wp2_with fail
    go_ret
    exact retS ((toList_mk []).trans e.out.symm) hb1
end Go.Proofs.YtnalafhepnfggaaDoor
