/- The contract of mime.bare. -/
import Derived.Test.YtnalafhepnfggaaDoorMimeB
namespace Go.Proofs.YtnalafhepnfggaaDoor
open Go.RowKit
set_option linter.unusedVariables false
set_option linter.unusedSimpArgs false

theorem sp20_contains (c : UInt8) : ([32] : List UInt8).contains c = sp20 (c.toNat : Int) := by
  have h : ∀ n : Fin 256, ([32] : List UInt8).contains (UInt8.ofNat n.val) = sp20 ((UInt8.ofNat n.val).toNat : Int) := by decide +kernel
  have := h ⟨c.toNat, c.toNat_lt⟩
  simpa using this
theorem trimRightB_20 (l : List UInt8) : Lib.trimRightB l 32 = rdropZ sp20 l := by
  rw [← Lib.trimRightS_one]
  unfold Lib.trimRightS rdropZ dropZ
  simp only [sp20_contains]
theorem hasSuffix_one (l : List UInt8) (c : UInt8) : Lib.hasSuffix l [c] = decide (l.getLast? = some c) := by
  unfold Lib.hasSuffix
  rcases List.eq_nil_or_concat l with rfl | ⟨L, d, rfl⟩
  · rfl
  · have e : (L ++ [d]).reverse = d :: L.reverse := by rw [List.reverse_append]; rfl
    have e2 : (L ++ [d]).getLast? = some d := by rw [List.getLast?_append]; rfl
    have e3 : L.concat d = L ++ [d] := List.concat_eq_append
    try rw [e3]
    unfold List.isSuffixOf
    rw [e, e2]
    show (c == d && true) = decide (some d = some c)
    rw [Bool.and_true, Bool.eq_iff_iff, beq_iff_eq, decide_eq_true_iff]
    exact ⟨fun h => by rw [h], fun h => (Option.some.inj h).symm⟩
theorem trimSuffix_one (l : List UInt8) (c : UInt8) : Lib.trimSuffix l [c] = if l.getLast? = some c then l.dropLast else l := by
  unfold Lib.trimSuffix
  rw [hasSuffix_one]
  by_cases h : l.getLast? = some c
  · rw [decide_eq_true h, if_pos h, if_pos rfl, List.dropLast_eq_take]; rfl
  · rw [decide_eq_false h, if_neg h]; rfl
theorem bareL_len (l : List UInt8) : (bareL l).length ≤ l.length := by
  unfold bareL
  split
  · split
    · rw [List.length_dropLast]
      have := rdropZ_len sp20 (l.take (l.length - 6))
      rw [List.length_take] at this; omega
    · exact Nat.le_refl _
  · exact Nat.le_refl _
set_option maxRecDepth 100000 in
set_option maxHeartbeats 2000000 in
theorem bare_any (s : ByteArray) (w : World) (hs : s.size ≤ 1000000) :
    Calls Tryd.prog 23 #[.string s] w (RetS w (bareL s.toList)) := by
  have hB : Below w.heap.size w w := Below.refl _ _
  have hlen := size_toList s
  by_cases h6 : s.size < 6
  · have hV : Hid (s.toList = bareL s.toList) := Lib.hid (by unfold bareL; rw [if_neg (fun h => by omega)])
    have hI : (s.size : Int) < 6 := by omega
    replace hlen := Lib.hid hlen
    go_enter Tryd.func23, Tryd.ntmps23
    go_wp2_with fail
    go_ret
    exact retS hV.out hB
  obtain ⟨k, hk⟩ : ∃ k, s.size = k + 6 := ⟨s.size - 6, by omega⟩
  have hI : (6 : Int) ≤ (s.size : Int) := by omega
  have hkI : (s.size : Int) - 6 = (k : Int) := by omega
  have hkJ : (k : Int) ≤ (s.size : Int) := by omega
  have hkN : k ≤ s.size := by omega
  have eu : (s.extract k s.size).toList = s.toList.drop (s.toList.length - 6) := by rw [toList_extract, List.take_of_length_le (by rw [hlen]; exact Nat.le_refl _), hlen, show s.size - 6 = k by omega]
  have eh : (s.extract 0 k).toList = s.toList.take (s.toList.length - 6) := by rw [toList_extract, List.drop_zero, hlen, show s.size - 6 = k by omega]
  have zu : (s.extract k s.size).size ≤ 1000000 := by rw [← size_toList, eu, List.length_drop, hlen]; omega
  have zh : (s.extract 0 k).size ≤ 1000000 := by rw [← size_toList, eh, List.length_take, hlen]; omega
  obtain ⟨u, hu⟩ : ∃ q, s.extract k s.size = q := ⟨_, rfl⟩
  obtain ⟨h, hh⟩ : ∃ q, s.extract 0 k = q := ⟨_, rfl⟩
  rw [hu] at eu zu
  rw [hh] at eh zh
  have h6N : 6 ≤ s.toList.length := by omega
  replace hk := Lib.hid hk
  replace hlen := Lib.hid hlen
  replace eu := Lib.hid eu
  replace eh := Lib.hid eh
  clear h6
  go_enter Tryd.func23, Tryd.ntmps23
  go_wp2_with fail
  refine (lower_any u _ (by omega)).mono ?_
  rintro e w1 ⟨t, rfl, ht, hb⟩
  replace hB := hB.next hb
  clear hb
  by_cases hq : t.toList = base64L
  · have hqb : (t.toList == [98, 97, 115, 101, 54, 52]) = true := by rw [hq]; rfl
    have hV : Hid (bareL s.toList = if (rdropZ sp20 h.toList).getLast? = some 59 then (rdropZ sp20 h.toList).dropLast else s.toList) := Lib.hid (by
      unfold bareL
      rw [if_pos ⟨h6N, by rw [← eu.out, ← ht.out]; exact hq⟩, ← eh.out])
    replace hq := Lib.hid hq
    have htr := Lib.hid (fun w => Tryd.strings_TrimRight_one h 32 (by decide) w (by omega))
    go_wp2_with fail
    refine (htr.out _).mono ?_
    rintro e w2 ⟨rfl, rfl⟩
    obtain ⟨r, hr⟩ : ∃ q : ByteArray, (⟨(Lib.trimRightB h.data.toList 32).toArray⟩ : ByteArray) = q := ⟨_, rfl⟩
    rw [hr]
    have hrl : r.toList = rdropZ sp20 h.toList := by rw [← hr, toList_mk, ← ByteArray.toList_eq]; exact trimRightB_20 _
    have hrz : r.size ≤ 1000000 := by
      rw [← size_toList, hrl]
      have := rdropZ_len sp20 h.toList
      rw [size_toList] at this; omega
    rw [← hrl] at hV
    have hcs := fun w => Tryd.strings_CutSuffix r ⟨#[59]⟩ w (by omega)
    replace hr := Lib.hid hr
    replace hrl := Lib.hid hrl
    have e1 : Lib.trimSuffix r.data.toList (ByteArray.mk #[59]).data.toList = if r.toList.getLast? = some 59 then r.toList.dropLast else r.toList := by
      rw [← ByteArray.toList_eq]; exact trimSuffix_one _ _
    have e2 : Lib.hasSuffix r.data.toList (ByteArray.mk #[59]).data.toList = decide (r.toList.getLast? = some 59) := by
      rw [← ByteArray.toList_eq]; exact hasSuffix_one _ _
    by_cases hl : r.toList.getLast? = some 59
    · have hyes : Hid (bareL s.toList = r.toList.dropLast) := Lib.hid (by rw [hV.out, if_pos hl])
      rw [if_pos hl] at e1
      rw [decide_eq_true hl] at e2
      simp only [e1, e2] at hcs
      replace hcs := Lib.hid hcs
      replace hl := Lib.hid hl
      clear e1 e2
      go_wp2_with fail
      refine (hcs.out _).mono ?_
      rintro e w3 ⟨rfl, rfl⟩
      go_wp2_with fail
      go_ret
      exact retS_mk hyes.out.symm hB
    · have hno : Hid (bareL s.toList = s.toList) := Lib.hid (by rw [hV.out, if_neg hl])
      rw [decide_eq_false hl] at e2
      simp only [e2] at hcs
      replace hcs := Lib.hid hcs
      replace hl := Lib.hid hl
      clear e1 e2
      go_wp2_with fail
      refine (hcs.out _).mono ?_
      rintro e w3 ⟨rfl, rfl⟩
      go_wp2_with fail
      go_ret
      exact retS hno.out.symm hB
  · have hqb : (t.toList == [98, 97, 115, 101, 54, 52]) = false := by simpa [base64L] using hq
    have hno : Hid (bareL s.toList = s.toList) := Lib.hid (by
      unfold bareL
      rw [if_neg (fun x => hq (by rw [ht.out, eu.out]; exact x.2))])
    replace hq := Lib.hid hq
    go_wp2_with fail
    go_ret
    exact retS hno.out.symm hB
end Go.Proofs.YtnalafhepnfggaaDoor
