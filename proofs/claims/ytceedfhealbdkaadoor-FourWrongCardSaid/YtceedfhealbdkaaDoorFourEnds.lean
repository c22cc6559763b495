/- The walks of FourEnds and FourPoint. -/
import Derived.Test.YtceedfhealbdkaaDoorFourL
import Derived.Test.YtceedfhealbdkaaDoorFourQ
namespace Go.Proofs.YtceedfhealbdkaaDoor
open Go.RowKit
set_option linter.unusedVariables false

theorem sz46 : (ByteArray.mk #[46]).size = 1 := rfl
theorem to46 : (ByteArray.mk #[46]).toList = [46] := toList_mk _
theorem to4646 : (ByteArray.mk #[46, 46]).toList = [46, 46] := toList_mk _
theorem eq_lit {s : ByteArray} {l : List UInt8} (h : s.toList = l) : s = ⟨l.toArray⟩ := eq_of_toList (h.trans (toList_mk l).symm)
set_option maxRecDepth 100000 in
set_option maxHeartbeats 2000000 in
theorem fourEnds_walk (a b : ByteArray) (w : World) (wa : a.size ≤ maxLen) (wb : b.size ≤ maxLen) (ht : Tabs w) (hm : ML w) :
    Calls Tryd.prog 6 #[.string a, .string b] w (RetB w true) := by
  have hB : Below w.heap.size w w := Below.refl _ _
  unfold maxLen at wa wb
  by_cases hs : 100 < a.size
  · have z : (100 : Int) < (a.size : Int) := by omega
    go_enter Tryd.func6, Tryd.ntmps6
    go_wp2_with fail
    refine (small09_any _ hm ht).mono ?_
    rintro e w1 ⟨rfl, hb⟩
    go_wp2_with fail
    go_ret
    exact ⟨rfl, hB.next hb⟩
  have z : (a.size : Int) ≤ (100 : Int) := by omega
  by_cases hs2 : 100 < b.size
  · have z2 : (100 : Int) < (b.size : Int) := by omega
    go_enter Tryd.func6, Tryd.ntmps6
    go_wp2_with fail
    refine (small09_any _ hm ht).mono ?_
    rintro e w1 ⟨rfl, hb⟩
    go_wp2_with fail
    go_ret
    exact ⟨rfl, hB.next hb⟩
  have z2 : (b.size : Int) ≤ (100 : Int) := by omega
  have hcat : (a ++ ⟨#[46]⟩ ++ b : ByteArray).size < 4294967281 := by rw [ByteArray.size_append, ByteArray.size_append, sz46]; omega
  have hcatL : (a ++ ⟨#[46]⟩ ++ b : ByteArray).toList = a.toList ++ 46 :: b.toList := by rw [toList_append, toList_append, to46]; simp
  have hbs : (b.toList.isEmpty = true) ∨ (b.toList.isEmpty = false ∧ endsL (a ++ ⟨#[46]⟩ ++ b : ByteArray).toList = endsL b.toList) := by
    cases hbl : b.toList.isEmpty
    · exact .inr ⟨rfl, by rw [hcatL]; exact ends_behind _ (by intro e; rw [e] at hbl; cases hbl)⟩
    · exact .inl rfl
  have hE : (parseL a.toList).isSome = true → endsL a.toList = true := by
    intro h
    obtain ⟨v, hv⟩ := Option.isSome_iff_exists.1 h
    exact parse_ends hv
  have has : a.size < 4294967281 := by omega
  have hbs2 : b.size < 4294967281 := by omega
  clear hcatL hs hs2
  replace hcat := Lib.hid hcat
  replace hE := Lib.hid hE
  replace hbs := Lib.hid hbs
  go_enter Tryd.func6, Tryd.ntmps6
  go_wp2_with fail
  refine (small09_any _ hm ht).mono ?_
  rintro e w1 ⟨rfl, hb⟩
  replace hB := hB.next hb
  clear hb
  go_wp2_with fail
  refine (fourParse_any a _ (hm.next hB) has).mono ?_
  rintro e w2 ⟨rfl, hb⟩
  replace hB := hB.next hb
  clear hb
  generalize hp : (parseL a.toList) = o
  rw [hp] at hE
  clear hp
  rcases hbs.out with hbe | ⟨hbe, hbq⟩
  · cases ho : o.isSome
    · go_wp2_with fail
      go_ret
      exact ⟨rfl, hB⟩
    · have hend := Lib.hid (hE.out ho)
      go_wp2_with fail
      refine (ends_at a true _ (hm.next hB) has hend.out).mono ?_
      rintro e w3 ⟨rfl, hb⟩
      replace hB := hB.next hb
      clear hb
      go_wp2_with fail
      go_ret
      exact ⟨rfl, hB⟩
  · replace hbq := Lib.hid hbq
    cases hdot : (b.toList == [46]) <;> cases ho : o.isSome
    · go_wp2_with fail
      refine (ends_any _ _ (hm.next hB) hcat.out).mono ?_
      rintro e w3 ⟨rfl, hb⟩
      replace hB := hB.next hb
      clear hb
      rw [hbq.out]
      go_wp2_with fail
      refine (ends_any b _ (hm.next hB) hbs2).mono ?_
      rintro e w4 ⟨rfl, hb⟩
      replace hB := hB.next hb
      clear hb
      go_wp2_with fail
      go_ret
      exact ⟨ret_bool (by simp), hB⟩
    · have hend := Lib.hid (hE.out ho)
      go_wp2_with fail
      refine (ends_at a true _ (hm.next hB) has hend.out).mono ?_
      rintro e w3 ⟨rfl, hb⟩
      replace hB := hB.next hb
      clear hb
      go_wp2_with fail
      refine (ends_any _ _ (hm.next hB) hcat.out).mono ?_
      rintro e w3 ⟨rfl, hb⟩
      replace hB := hB.next hb
      clear hb
      rw [hbq.out]
      go_wp2_with fail
      refine (ends_any b _ (hm.next hB) hbs2).mono ?_
      rintro e w4 ⟨rfl, hb⟩
      replace hB := hB.next hb
      clear hb
      go_wp2_with fail
      go_ret
      exact ⟨ret_bool (by simp), hB⟩
    · go_wp2_with fail
      go_ret
      exact ⟨rfl, hB⟩
    · have hend := Lib.hid (hE.out ho)
      go_wp2_with fail
      refine (ends_at a true _ (hm.next hB) has hend.out).mono ?_
      rintro e w3 ⟨rfl, hb⟩
      replace hB := hB.next hb
      clear hb
      go_wp2_with fail
      go_ret
      exact ⟨rfl, hB⟩

set_option maxRecDepth 100000 in
set_option maxHeartbeats 2000000 in
theorem fourPoint_walk (s : ByteArray) (w : World) (ws : s.size ≤ maxLen) (ht : Tabs w) (hm : ML w) :
    Calls Tryd.prog 7 #[.string s] w (RetB w true) := by
  have hB : Below w.heap.size w w := Below.refl _ _
  unfold maxLen at ws
  have hcs : s.toList.isEmpty = true ∨ (s.toList.isEmpty = false ∧ (100 : Int) < (s.size : Int)) ∨ (s.toList.isEmpty = false ∧ (s.size : Int) ≤ (100 : Int) ∧ ∃ h : 0 < s.size, ((s[s.size - 1].toNat : Int) == 46) = true) ∨
      (s.toList.isEmpty = false ∧ (s.size : Int) ≤ (100 : Int) ∧ ∃ h : 0 < s.size, ((s[s.size - 1].toNat : Int) == 46) = false ∧ Hid (s.toList ≠ [] ∧ s.toList.getLast? ≠ some 46)) := by
    cases hem : s.toList.isEmpty
    · have hne : s.toList ≠ [] := by intro e; rw [e] at hem; cases hem
      have h0 : 0 < s.size := by
        rw [← size_toList]; exact List.length_pos_iff.2 hne
      by_cases h1 : 100 < s.size
      · exact .inr (.inl ⟨rfl, by omega⟩)
      · have hg : s.toList.getLast? = some s[s.size - 1] := by
          rw [List.getLast?_eq_getElem?, size_toList, List.getElem?_eq_getElem (by rw [size_toList]; omega), toList_get _ _ (by omega)]
        have hq := u8_eqI (c := s[s.size - 1]) (n := 46) (by decide)
        by_cases h2 : s[s.size - 1] = 46
        · exact .inr (.inr (.inl ⟨rfl, by omega, h0, hq.trans (by rw [h2]; decide)⟩))
        · exact .inr (.inr (.inr ⟨rfl, by omega, h0, hq.trans (by simpa using h2), Lib.hid ⟨hne, by rw [hg]; simpa using h2⟩⟩))
    · exact .inl rfl
  rcases hcs with q1 | ⟨q1, q2⟩ | ⟨q1, q2, h0, q3⟩ | ⟨q1, q2, h0, q3, hP⟩
  iterate 3
    · go_enter Tryd.func7, Tryd.ntmps7
      go_wp2_with fail
      refine (small09_any _ hm ht).mono ?_
      rintro e w1 ⟨rfl, hb⟩
      go_wp2_with fail
      go_ret
      exact ⟨rfl, hB.next hb⟩
  have hs : s.size < 4294967281 := by omega
  have hs1 : Hid ((s ++ ⟨#[46]⟩ : ByteArray).size < 4294967281) := Lib.hid (by rw [ByteArray.size_append, sz46]; omega)
  have hs2 : Hid ((s ++ ⟨#[46, 46]⟩ : ByteArray).size < 4294967281) := Lib.hid (by rw [ByteArray.size_append]; have : (ByteArray.mk #[46, 46]).size = 2 := rfl; omega)
  have l1 : Hid (parseL (s ++ ⟨#[46]⟩ : ByteArray).toList = parseL s.toList) := Lib.hid (by rw [toList_append, to46]; exact parse_point hP.out.1 hP.out.2)
  have l2 : Hid (parseL (s ++ ⟨#[46, 46]⟩ : ByteArray).toList = none) := Lib.hid (by rw [toList_append, to4646]; exact parse_points _)
  have l3 : Hid (endsL (s ++ ⟨#[46]⟩ : ByteArray).toList = endsL s.toList) := Lib.hid (by rw [toList_append, to46]; exact ends_point hP.out.1 hP.out.2)
  have l4 : Hid (endsL (s ++ ⟨#[46, 46]⟩ : ByteArray).toList = false) := Lib.hid (by rw [toList_append, to4646]; exact ends_points _)
  go_enter Tryd.func7, Tryd.ntmps7
  go_wp2_with fail
  refine (small09_any _ hm ht).mono ?_
  rintro e w1 ⟨rfl, hb⟩
  replace hB := hB.next hb
  clear hb
  go_wp2_with fail
  refine (fourParse_any s _ (hm.next hB) hs).mono ?_
  rintro e w2 ⟨rfl, hb⟩
  replace hB := hB.next hb
  clear hb
  go_wp2_with fail
  refine (parse_at _ (parseL s.toList) _ (hm.next hB) hs1.out l1.out).mono ?_
  rintro e w3 ⟨rfl, hb⟩
  replace hB := hB.next hb
  clear hb
  go_wp2_with fail
  refine (parse_no _ _ (hm.next hB) hs2.out l2.out).mono ?_
  rintro e w4 ⟨rfl, hb⟩
  replace hB := hB.next hb
  clear hb
  go_wp2_with fail
  refine (ends_any s _ (hm.next hB) hs).mono ?_
  rintro e w5 ⟨rfl, hb⟩
  replace hB := hB.next hb
  clear hb
  go_wp2_with fail
  refine (ends_at _ (endsL s.toList) _ (hm.next hB) hs1.out l3.out).mono ?_
  rintro e w6 ⟨rfl, hb⟩
  replace hB := hB.next hb
  clear hb
  go_wp2_with fail
  refine (ends_at _ false _ (hm.next hB) hs2.out l4.out).mono ?_
  rintro e w7 ⟨rfl, hb⟩
  replace hB := hB.next hb
  clear hb
  go_wp2_with fail
  go_ret
  exact ⟨rfl, hB⟩
end Go.Proofs.YtceedfhealbdkaaDoor
