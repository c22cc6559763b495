/- The small case of layer 21 comes out right; refresh.Write. -/
import Derived.Test.YtjbfkaniccljnaaDoorRefrX
namespace Go.Proofs.YtjbfkaniccljnaaDoor
open Go.RowKit
set_option linter.unusedVariables false
set_option linter.unusedSimpArgs false

theorem parse_is (s d u : ByteArray) (h : Bool) (w : World) (hs : s.size ≤ 1000000) (hm : ML w) (he : parseL s.toList = some (d.toList, h, u.toList)) :
    Calls Tryd.prog 7 #[.string s] w fun e w' => e = .returned (.tuple #[.agg #[.string d, .bool h, .string u], .bool true]) ∧ Below w.heap.size w w' := by
  refine (parseR_any s w hs hm).mono fun e w' hr => ?_
  obtain ⟨d1, u1, h1, b1, rfl, hb, _, _, hc⟩ := hr
  rcases hc.out with ⟨hn, _⟩ | ⟨hn, rfl⟩
  · rw [he] at hn; cases hn
  · rw [he] at hn
    have h2 := Option.some.inj hn
    have e1 : d = d1 := eq_of_toList (congrArg Prod.fst h2)
    have e2 : h = h1 := congrArg (fun x => x.2.1) h2
    have e3 : u = u1 := eq_of_toList (congrArg (fun x => x.2.2) h2)
    subst e1; subst e2; subst e3
    exact ⟨rfl, hb⟩
theorem parse_not (s : ByteArray) (w : World) (hs : s.size ≤ 1000000) (hm : ML w) (he : parseL s.toList = none) :
    Calls Tryd.prog 7 #[.string s] w fun e w' => e = .returned (.tuple #[.agg #[.string ⟨#[]⟩, .bool false, .string ⟨#[]⟩], .bool false]) ∧ Below w.heap.size w w' := by
  refine (parseR_any s w hs hm).mono fun e w' hr => ?_
  obtain ⟨d1, u1, h1, b1, rfl, hb, _, _, hc⟩ := hr
  rcases hc.out with ⟨_, rfl, h2, rfl, h3⟩ | ⟨hn, rfl⟩
  · have e1 : d1 = ⟨#[]⟩ := eq_of_toList (h2.trans (toList_mk []).symm)
    have e3 : u1 = ⟨#[]⟩ := eq_of_toList (h3.trans (toList_mk []).symm)
    subst e1; subst e3
    exact ⟨rfl, hb⟩
  · rw [he] at hn; cases hn
theorem parse_b (s : ByteArray) (b : Bool) (w : World) (hs : s.size ≤ 1000000) (hm : ML w) (he : (parseL s.toList).isSome = b) :
    Calls Tryd.prog 7 #[.string s] w fun e w' => ∃ (d u : ByteArray) (h : Bool), e = .returned (.tuple #[.agg #[.string d, .bool h, .string u], .bool b]) ∧ Below w.heap.size w w' := by
  refine (parseR_any s w hs hm).mono fun e w' hr => ?_
  obtain ⟨d1, u1, h1, b1, rfl, hb, _, _, hc⟩ := hr
  rcases hc.out with ⟨hn, rfl, _⟩ | ⟨hn, rfl⟩
  · rw [hn] at he; subst he; exact ⟨_, _, _, rfl, hb⟩
  · rw [hn] at he; subst he; exact ⟨_, _, _, rfl, hb⟩
set_option maxRecDepth 100000 in
set_option maxHeartbeats 1000000 in
theorem writeR21_any (d u : ByteArray) (h : Bool) (w : World) (hd : d.size ≤ 1000000) (hu : u.size ≤ 1000000) :
    Calls Tryd.prog 11 #[.agg #[.string d, .bool h, .string u]] w (RetS w (writeL (d.toList, h, u.toList))) := by
  have hB : Below w.heap.size w (w.alloc (.cells #[.string d, .bool h, .string u] 25)) := (Below.refl _ _).alloc (Nat.le_refl _) _
  cases h
  · go_enter Tryd.func11, Tryd.ntmps11
    go_wp2_with fail
    go_ret
    exact ⟨_, rfl, Lib.hid rfl, hB⟩
  · have e1 : ¬ (9223372036854775807 < d.size + 6) := by omega
    have e2 : ¬ (9223372036854775807 < d.size + 6 + u.size) := by omega
    go_enter Tryd.func11, Tryd.ntmps11
    go_wp2_with fail
    go_ret
    exact ⟨_, rfl, Lib.hid (by rw [toList_append, toList_append, show (⟨#[59, 32, 117, 114, 108, 61]⟩ : ByteArray).toList = [59, 32, 117, 114, 108, 61] from toList_mk _]; rfl), hB⟩
theorem write_is (d u t : ByteArray) (h : Bool) (w : World) (hd : d.size ≤ 1000000) (hu : u.size ≤ 1000000) (he : writeL (d.toList, h, u.toList) = t.toList) :
    Calls Tryd.prog 11 #[.agg #[.string d, .bool h, .string u]] w fun e w' => e = .returned (.string t) ∧ Below w.heap.size w w' := by
  refine (writeR21_any d u h w hd hu).mono fun e w' ⟨q, h1, h2, h3⟩ => ?_
  have : q = t := eq_of_toList (h2.out.trans he)
  subst this
  exact ⟨h1, h3⟩
theorem lit_parse {l d u : List UInt8} {h : Bool} (he : parseL l = some (d, h, u)) : parseL (ByteArray.mk l.toArray).toList = some ((ByteArray.mk d.toArray).toList, h, (ByteArray.mk u.toArray).toList) := by
  rw [toList_mk, toList_mk, toList_mk]; exact he
theorem lit_not {l : List UInt8} (he : parseL l = none) : parseL (ByteArray.mk l.toArray).toList = none := by
  rw [toList_mk]; exact he
theorem lit_write {d u t : List UInt8} {h : Bool} (he : writeL (d, h, u) = t) : writeL ((ByteArray.mk d.toArray).toList, h, (ByteArray.mk u.toArray).toList) = (ByteArray.mk t.toArray).toList := by
  rw [toList_mk, toList_mk, toList_mk]; exact he
theorem rl0 : parseL [32, 48, 53, 46, 55, 32, 44, 32, 85, 82, 76, 32, 61, 32, 39, 97, 39, 98] = some ([53], true, [97]) := by decide +kernel
theorem rl1 : parseL [46] = some ([48], false, []) := by decide +kernel
theorem rl2 : parseL [97] = none := by decide +kernel
theorem rl3 : parseL [53, 97] = none := by decide +kernel
theorem rl4 : parseL [53, 59, 117, 114, 108] = some ([53], true, [117, 114, 108]) := by decide +kernel
theorem rl5 : parseL [48, 48, 59, 34, 120, 32, 121] = some ([48], true, [120, 32, 121]) := by decide +kernel
theorem rl6 : parseL [55, 59, 117, 114, 108, 61] = some ([55], true, []) := by decide +kernel
theorem rl7 : parseL [] = none := by decide +kernel
set_option maxRecDepth 100000 in
set_option maxHeartbeats 2000000 in
theorem small21_any (w : World) (hm : ML w) : Calls Tryd.prog 6 #[] w (RetB w true) := by
  have hB : Below w.heap.size w w := Below.refl _ _
  go_enter Tryd.func6, Tryd.ntmps6
  go_wp2_with fail
  refine (parse_is ⟨#[32, 48, 53, 46, 55, 32, 44, 32, 85, 82, 76, 32, 61, 32, 39, 97, 39, 98]⟩ ⟨#[53]⟩ ⟨#[97]⟩ true _ (by decide) (hm.next hB) (lit_parse rl0)).mono ?_
  rintro e w0 ⟨rfl, hb⟩
  replace hB := hB.next hb
  clear hb
  go_wp2_with fail
  have c0 := heap_alloc_new w0 (.cells #[.string ⟨#[53]⟩, .bool true, .string ⟨#[97]⟩] 25)
  replace hB := hB.alloc hB.size (.cells #[.string ⟨#[53]⟩, .bool true, .string ⟨#[97]⟩] 25)
  generalize w0.alloc (.cells #[.string ⟨#[53]⟩, .bool true, .string ⟨#[97]⟩] 25) = W0 at hB c0 ⊢
  generalize w0.heap.size = p0 at c0 ⊢
  refine (parse_is ⟨#[46]⟩ ⟨#[48]⟩ ⟨#[]⟩ false _ (by decide) (hm.next hB) (lit_parse rl1)).mono ?_
  rintro e w1 ⟨rfl, hb⟩
  replace hB := hB.next hb
  replace c0 := (hb.block _ (Array.getElem?_eq_some_iff.1 c0).1).trans c0
  clear hb
  go_wp2_with fail
  have c1 := heap_alloc_new w1 (.cells #[.string ⟨#[48]⟩, .bool false, .string ⟨#[]⟩] 25)
  replace c0 := (heap_alloc_old w1 (.cells #[.string ⟨#[48]⟩, .bool false, .string ⟨#[]⟩] 25) (Array.getElem?_eq_some_iff.1 c0).1).trans c0
  replace hB := hB.alloc hB.size (.cells #[.string ⟨#[48]⟩, .bool false, .string ⟨#[]⟩] 25)
  generalize w1.alloc (.cells #[.string ⟨#[48]⟩, .bool false, .string ⟨#[]⟩] 25) = W1 at hB c0 c1 ⊢
  generalize w1.heap.size = p1 at c1 ⊢
  refine (parse_not ⟨#[97]⟩ _ (by decide) (hm.next hB) (lit_not rl2)).mono ?_
  rintro e w2 ⟨rfl, hb⟩
  replace hB := hB.next hb
  replace c0 := (hb.block _ (Array.getElem?_eq_some_iff.1 c0).1).trans c0
  replace c1 := (hb.block _ (Array.getElem?_eq_some_iff.1 c1).1).trans c1
  clear hb
  go_wp2_with fail
  have c2 := heap_alloc_new w2 (.cells #[.string ⟨#[]⟩, .bool false, .string ⟨#[]⟩] 25)
  replace c0 := (heap_alloc_old w2 (.cells #[.string ⟨#[]⟩, .bool false, .string ⟨#[]⟩] 25) (Array.getElem?_eq_some_iff.1 c0).1).trans c0
  replace c1 := (heap_alloc_old w2 (.cells #[.string ⟨#[]⟩, .bool false, .string ⟨#[]⟩] 25) (Array.getElem?_eq_some_iff.1 c1).1).trans c1
  replace hB := hB.alloc hB.size (.cells #[.string ⟨#[]⟩, .bool false, .string ⟨#[]⟩] 25)
  generalize w2.alloc (.cells #[.string ⟨#[]⟩, .bool false, .string ⟨#[]⟩] 25) = W2 at hB c0 c1 c2 ⊢
  generalize w2.heap.size = p2 at c2 ⊢
  refine (parse_not ⟨#[53, 97]⟩ _ (by decide) (hm.next hB) (lit_not rl3)).mono ?_
  rintro e w3 ⟨rfl, hb⟩
  replace hB := hB.next hb
  replace c0 := (hb.block _ (Array.getElem?_eq_some_iff.1 c0).1).trans c0
  replace c1 := (hb.block _ (Array.getElem?_eq_some_iff.1 c1).1).trans c1
  replace c2 := (hb.block _ (Array.getElem?_eq_some_iff.1 c2).1).trans c2
  clear hb
  go_wp2_with fail
  have c3 := heap_alloc_new w3 (.cells #[.string ⟨#[]⟩, .bool false, .string ⟨#[]⟩] 25)
  replace c0 := (heap_alloc_old w3 (.cells #[.string ⟨#[]⟩, .bool false, .string ⟨#[]⟩] 25) (Array.getElem?_eq_some_iff.1 c0).1).trans c0
  replace c1 := (heap_alloc_old w3 (.cells #[.string ⟨#[]⟩, .bool false, .string ⟨#[]⟩] 25) (Array.getElem?_eq_some_iff.1 c1).1).trans c1
  replace c2 := (heap_alloc_old w3 (.cells #[.string ⟨#[]⟩, .bool false, .string ⟨#[]⟩] 25) (Array.getElem?_eq_some_iff.1 c2).1).trans c2
  replace hB := hB.alloc hB.size (.cells #[.string ⟨#[]⟩, .bool false, .string ⟨#[]⟩] 25)
  generalize w3.alloc (.cells #[.string ⟨#[]⟩, .bool false, .string ⟨#[]⟩] 25) = W3 at hB c0 c1 c2 c3 ⊢
  generalize w3.heap.size = p3 at c3 ⊢
  refine (parse_is ⟨#[53, 59, 117, 114, 108]⟩ ⟨#[53]⟩ ⟨#[117, 114, 108]⟩ true _ (by decide) (hm.next hB) (lit_parse rl4)).mono ?_
  rintro e w4 ⟨rfl, hb⟩
  replace hB := hB.next hb
  replace c0 := (hb.block _ (Array.getElem?_eq_some_iff.1 c0).1).trans c0
  replace c1 := (hb.block _ (Array.getElem?_eq_some_iff.1 c1).1).trans c1
  replace c2 := (hb.block _ (Array.getElem?_eq_some_iff.1 c2).1).trans c2
  replace c3 := (hb.block _ (Array.getElem?_eq_some_iff.1 c3).1).trans c3
  clear hb
  go_wp2_with fail
  have c4 := heap_alloc_new w4 (.cells #[.string ⟨#[53]⟩, .bool true, .string ⟨#[117, 114, 108]⟩] 25)
  replace c0 := (heap_alloc_old w4 (.cells #[.string ⟨#[53]⟩, .bool true, .string ⟨#[117, 114, 108]⟩] 25) (Array.getElem?_eq_some_iff.1 c0).1).trans c0
  replace c1 := (heap_alloc_old w4 (.cells #[.string ⟨#[53]⟩, .bool true, .string ⟨#[117, 114, 108]⟩] 25) (Array.getElem?_eq_some_iff.1 c1).1).trans c1
  replace c2 := (heap_alloc_old w4 (.cells #[.string ⟨#[53]⟩, .bool true, .string ⟨#[117, 114, 108]⟩] 25) (Array.getElem?_eq_some_iff.1 c2).1).trans c2
  replace c3 := (heap_alloc_old w4 (.cells #[.string ⟨#[53]⟩, .bool true, .string ⟨#[117, 114, 108]⟩] 25) (Array.getElem?_eq_some_iff.1 c3).1).trans c3
  replace hB := hB.alloc hB.size (.cells #[.string ⟨#[53]⟩, .bool true, .string ⟨#[117, 114, 108]⟩] 25)
  generalize w4.alloc (.cells #[.string ⟨#[53]⟩, .bool true, .string ⟨#[117, 114, 108]⟩] 25) = W4 at hB c0 c1 c2 c3 c4 ⊢
  generalize w4.heap.size = p4 at c4 ⊢
  refine (parse_is ⟨#[48, 48, 59, 34, 120, 32, 121]⟩ ⟨#[48]⟩ ⟨#[120, 32, 121]⟩ true _ (by decide) (hm.next hB) (lit_parse rl5)).mono ?_
  rintro e w5 ⟨rfl, hb⟩
  replace hB := hB.next hb
  replace c0 := (hb.block _ (Array.getElem?_eq_some_iff.1 c0).1).trans c0
  replace c1 := (hb.block _ (Array.getElem?_eq_some_iff.1 c1).1).trans c1
  replace c2 := (hb.block _ (Array.getElem?_eq_some_iff.1 c2).1).trans c2
  replace c3 := (hb.block _ (Array.getElem?_eq_some_iff.1 c3).1).trans c3
  replace c4 := (hb.block _ (Array.getElem?_eq_some_iff.1 c4).1).trans c4
  clear hb
  go_wp2_with fail
  have c5 := heap_alloc_new w5 (.cells #[.string ⟨#[48]⟩, .bool true, .string ⟨#[120, 32, 121]⟩] 25)
  replace c0 := (heap_alloc_old w5 (.cells #[.string ⟨#[48]⟩, .bool true, .string ⟨#[120, 32, 121]⟩] 25) (Array.getElem?_eq_some_iff.1 c0).1).trans c0
  replace c1 := (heap_alloc_old w5 (.cells #[.string ⟨#[48]⟩, .bool true, .string ⟨#[120, 32, 121]⟩] 25) (Array.getElem?_eq_some_iff.1 c1).1).trans c1
  replace c2 := (heap_alloc_old w5 (.cells #[.string ⟨#[48]⟩, .bool true, .string ⟨#[120, 32, 121]⟩] 25) (Array.getElem?_eq_some_iff.1 c2).1).trans c2
  replace c3 := (heap_alloc_old w5 (.cells #[.string ⟨#[48]⟩, .bool true, .string ⟨#[120, 32, 121]⟩] 25) (Array.getElem?_eq_some_iff.1 c3).1).trans c3
  replace c4 := (heap_alloc_old w5 (.cells #[.string ⟨#[48]⟩, .bool true, .string ⟨#[120, 32, 121]⟩] 25) (Array.getElem?_eq_some_iff.1 c4).1).trans c4
  replace hB := hB.alloc hB.size (.cells #[.string ⟨#[48]⟩, .bool true, .string ⟨#[120, 32, 121]⟩] 25)
  generalize w5.alloc (.cells #[.string ⟨#[48]⟩, .bool true, .string ⟨#[120, 32, 121]⟩] 25) = W5 at hB c0 c1 c2 c3 c4 c5 ⊢
  generalize w5.heap.size = p5 at c5 ⊢
  refine (parse_is ⟨#[55, 59, 117, 114, 108, 61]⟩ ⟨#[55]⟩ ⟨#[]⟩ true _ (by decide) (hm.next hB) (lit_parse rl6)).mono ?_
  rintro e w6 ⟨rfl, hb⟩
  replace hB := hB.next hb
  replace c0 := (hb.block _ (Array.getElem?_eq_some_iff.1 c0).1).trans c0
  replace c1 := (hb.block _ (Array.getElem?_eq_some_iff.1 c1).1).trans c1
  replace c2 := (hb.block _ (Array.getElem?_eq_some_iff.1 c2).1).trans c2
  replace c3 := (hb.block _ (Array.getElem?_eq_some_iff.1 c3).1).trans c3
  replace c4 := (hb.block _ (Array.getElem?_eq_some_iff.1 c4).1).trans c4
  replace c5 := (hb.block _ (Array.getElem?_eq_some_iff.1 c5).1).trans c5
  clear hb
  go_wp2_with fail
  have c6 := heap_alloc_new w6 (.cells #[.string ⟨#[55]⟩, .bool true, .string ⟨#[]⟩] 25)
  replace c0 := (heap_alloc_old w6 (.cells #[.string ⟨#[55]⟩, .bool true, .string ⟨#[]⟩] 25) (Array.getElem?_eq_some_iff.1 c0).1).trans c0
  replace c1 := (heap_alloc_old w6 (.cells #[.string ⟨#[55]⟩, .bool true, .string ⟨#[]⟩] 25) (Array.getElem?_eq_some_iff.1 c1).1).trans c1
  replace c2 := (heap_alloc_old w6 (.cells #[.string ⟨#[55]⟩, .bool true, .string ⟨#[]⟩] 25) (Array.getElem?_eq_some_iff.1 c2).1).trans c2
  replace c3 := (heap_alloc_old w6 (.cells #[.string ⟨#[55]⟩, .bool true, .string ⟨#[]⟩] 25) (Array.getElem?_eq_some_iff.1 c3).1).trans c3
  replace c4 := (heap_alloc_old w6 (.cells #[.string ⟨#[55]⟩, .bool true, .string ⟨#[]⟩] 25) (Array.getElem?_eq_some_iff.1 c4).1).trans c4
  replace c5 := (heap_alloc_old w6 (.cells #[.string ⟨#[55]⟩, .bool true, .string ⟨#[]⟩] 25) (Array.getElem?_eq_some_iff.1 c5).1).trans c5
  replace hB := hB.alloc hB.size (.cells #[.string ⟨#[55]⟩, .bool true, .string ⟨#[]⟩] 25)
  generalize w6.alloc (.cells #[.string ⟨#[55]⟩, .bool true, .string ⟨#[]⟩] 25) = W6 at hB c0 c1 c2 c3 c4 c5 c6 ⊢
  generalize w6.heap.size = p6 at c6 ⊢
  refine (parse_not ⟨#[]⟩ _ (by decide) (hm.next hB) (lit_not rl7)).mono ?_
  rintro e w7 ⟨rfl, hb⟩
  replace hB := hB.next hb
  replace c0 := (hb.block _ (Array.getElem?_eq_some_iff.1 c0).1).trans c0
  replace c1 := (hb.block _ (Array.getElem?_eq_some_iff.1 c1).1).trans c1
  replace c2 := (hb.block _ (Array.getElem?_eq_some_iff.1 c2).1).trans c2
  replace c3 := (hb.block _ (Array.getElem?_eq_some_iff.1 c3).1).trans c3
  replace c4 := (hb.block _ (Array.getElem?_eq_some_iff.1 c4).1).trans c4
  replace c5 := (hb.block _ (Array.getElem?_eq_some_iff.1 c5).1).trans c5
  replace c6 := (hb.block _ (Array.getElem?_eq_some_iff.1 c6).1).trans c6
  clear hb
  have x00 := cell_of_row (w7.alloc (.cells #[.string ⟨#[]⟩, .bool false, .string ⟨#[]⟩] 25)) p0 0 _ _ _ ((heap_alloc_old w7 (.cells #[.string ⟨#[]⟩, .bool false, .string ⟨#[]⟩] 25) (Array.getElem?_eq_some_iff.1 c0).1).trans c0)
  have x01 := cell_of_row (w7.alloc (.cells #[.string ⟨#[]⟩, .bool false, .string ⟨#[]⟩] 25)) p0 1 _ _ _ ((heap_alloc_old w7 (.cells #[.string ⟨#[]⟩, .bool false, .string ⟨#[]⟩] 25) (Array.getElem?_eq_some_iff.1 c0).1).trans c0)
  have x02 := cell_of_row (w7.alloc (.cells #[.string ⟨#[]⟩, .bool false, .string ⟨#[]⟩] 25)) p0 2 _ _ _ ((heap_alloc_old w7 (.cells #[.string ⟨#[]⟩, .bool false, .string ⟨#[]⟩] 25) (Array.getElem?_eq_some_iff.1 c0).1).trans c0)
  have x10 := cell_of_row (w7.alloc (.cells #[.string ⟨#[]⟩, .bool false, .string ⟨#[]⟩] 25)) p1 0 _ _ _ ((heap_alloc_old w7 (.cells #[.string ⟨#[]⟩, .bool false, .string ⟨#[]⟩] 25) (Array.getElem?_eq_some_iff.1 c1).1).trans c1)
  have x11 := cell_of_row (w7.alloc (.cells #[.string ⟨#[]⟩, .bool false, .string ⟨#[]⟩] 25)) p1 1 _ _ _ ((heap_alloc_old w7 (.cells #[.string ⟨#[]⟩, .bool false, .string ⟨#[]⟩] 25) (Array.getElem?_eq_some_iff.1 c1).1).trans c1)
  have x12 := cell_of_row (w7.alloc (.cells #[.string ⟨#[]⟩, .bool false, .string ⟨#[]⟩] 25)) p1 2 _ _ _ ((heap_alloc_old w7 (.cells #[.string ⟨#[]⟩, .bool false, .string ⟨#[]⟩] 25) (Array.getElem?_eq_some_iff.1 c1).1).trans c1)
  have x40 := cell_of_row (w7.alloc (.cells #[.string ⟨#[]⟩, .bool false, .string ⟨#[]⟩] 25)) p4 0 _ _ _ ((heap_alloc_old w7 (.cells #[.string ⟨#[]⟩, .bool false, .string ⟨#[]⟩] 25) (Array.getElem?_eq_some_iff.1 c4).1).trans c4)
  have x41 := cell_of_row (w7.alloc (.cells #[.string ⟨#[]⟩, .bool false, .string ⟨#[]⟩] 25)) p4 1 _ _ _ ((heap_alloc_old w7 (.cells #[.string ⟨#[]⟩, .bool false, .string ⟨#[]⟩] 25) (Array.getElem?_eq_some_iff.1 c4).1).trans c4)
  have x42 := cell_of_row (w7.alloc (.cells #[.string ⟨#[]⟩, .bool false, .string ⟨#[]⟩] 25)) p4 2 _ _ _ ((heap_alloc_old w7 (.cells #[.string ⟨#[]⟩, .bool false, .string ⟨#[]⟩] 25) (Array.getElem?_eq_some_iff.1 c4).1).trans c4)
  have x50 := cell_of_row (w7.alloc (.cells #[.string ⟨#[]⟩, .bool false, .string ⟨#[]⟩] 25)) p5 0 _ _ _ ((heap_alloc_old w7 (.cells #[.string ⟨#[]⟩, .bool false, .string ⟨#[]⟩] 25) (Array.getElem?_eq_some_iff.1 c5).1).trans c5)
  have x51 := cell_of_row (w7.alloc (.cells #[.string ⟨#[]⟩, .bool false, .string ⟨#[]⟩] 25)) p5 1 _ _ _ ((heap_alloc_old w7 (.cells #[.string ⟨#[]⟩, .bool false, .string ⟨#[]⟩] 25) (Array.getElem?_eq_some_iff.1 c5).1).trans c5)
  have x52 := cell_of_row (w7.alloc (.cells #[.string ⟨#[]⟩, .bool false, .string ⟨#[]⟩] 25)) p5 2 _ _ _ ((heap_alloc_old w7 (.cells #[.string ⟨#[]⟩, .bool false, .string ⟨#[]⟩] 25) (Array.getElem?_eq_some_iff.1 c5).1).trans c5)
  have x60 := cell_of_row (w7.alloc (.cells #[.string ⟨#[]⟩, .bool false, .string ⟨#[]⟩] 25)) p6 0 _ _ _ ((heap_alloc_old w7 (.cells #[.string ⟨#[]⟩, .bool false, .string ⟨#[]⟩] 25) (Array.getElem?_eq_some_iff.1 c6).1).trans c6)
  have x61 := cell_of_row (w7.alloc (.cells #[.string ⟨#[]⟩, .bool false, .string ⟨#[]⟩] 25)) p6 1 _ _ _ ((heap_alloc_old w7 (.cells #[.string ⟨#[]⟩, .bool false, .string ⟨#[]⟩] 25) (Array.getElem?_eq_some_iff.1 c6).1).trans c6)
  have x62 := cell_of_row (w7.alloc (.cells #[.string ⟨#[]⟩, .bool false, .string ⟨#[]⟩] 25)) p6 2 _ _ _ ((heap_alloc_old w7 (.cells #[.string ⟨#[]⟩, .bool false, .string ⟨#[]⟩] 25) (Array.getElem?_eq_some_iff.1 c6).1).trans c6)
  simp only [List.getElem?_toArray, List.getElem?_cons_zero, List.getElem?_cons_succ] at x00 x01 x02 x10 x11 x12 x40 x41 x42 x50 x51 x52 x60 x61 x62
  replace hB := hB.alloc hB.size (.cells #[.string ⟨#[]⟩, .bool false, .string ⟨#[]⟩] 25)
  have c1b := (heap_alloc_old w7 (.cells #[.string ⟨#[]⟩, .bool false, .string ⟨#[]⟩] 25) (Array.getElem?_eq_some_iff.1 c1).1).trans c1
  clear c0 c1 c2 c3 c4 c5 c6
  replace c1b := Lib.hid c1b
  go_wp2_with fail
  refine (write_is ⟨#[53]⟩ ⟨#[97]⟩ ⟨#[53, 59, 32, 117, 114, 108, 61, 97]⟩ true _ (by decide) (by decide) (lit_write (d := [53]) (u := [97]) rfl)).mono ?_
  rintro e w8 ⟨rfl, hb⟩
  have c1c := (hb.block _ (Array.getElem?_eq_some_iff.1 c1b.out).1).trans c1b.out
  have y0 := cell_of_row w8 p1 0 _ _ _ c1c
  have y1 := cell_of_row w8 p1 1 _ _ _ c1c
  have y2 := cell_of_row w8 p1 2 _ _ _ c1c
  simp only [List.getElem?_toArray, List.getElem?_cons_zero, List.getElem?_cons_succ] at y0 y1 y2
  replace hB := hB.next hb
  clear hb c1c
  go_wp2_with fail
  refine (write_is ⟨#[48]⟩ ⟨#[]⟩ ⟨#[48]⟩ false _ (by decide) (by decide) (lit_write (d := [48]) (u := []) rfl)).mono ?_
  rintro e w9 ⟨rfl, hb⟩
  replace hB := hB.next hb
  go_wp2_with fail
  go_ret
  exact ⟨rfl, hB⟩
end Go.Proofs.YtjbfkaniccljnaaDoor
