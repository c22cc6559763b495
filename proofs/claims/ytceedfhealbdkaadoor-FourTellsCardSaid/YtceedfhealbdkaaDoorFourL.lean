/- What the laws of layer 9 share: the small case comes out right. -/
import Derived.Test.YtceedfhealbdkaaDoorFourD
namespace Go.Proofs.YtceedfhealbdkaaDoor
open Go.RowKit
set_option linter.unusedVariables false

theorem parse_at (s : ByteArray) (o : Option Nat) (w : World) (hm : ML w) (hs : s.size < 4294967281) (h : parseL s.toList = o) : Calls Tryd.prog 10 #[.string s] w (RetU w o) := h ▸ fourParse_any s w hm hs
theorem parse_yes (s : ByteArray) (v : Nat) (w : World) (hm : ML w) (hs : s.size < 4294967281) (h : parseL s.toList = some v) :
    Calls Tryd.prog 10 #[.string s] w fun e w' => e = .returned (.tuple #[.int .u32 (v : Int), .bool true]) ∧ Below w.heap.size w w' := parse_at s (some v) w hm hs h
theorem parse_no (s : ByteArray) (w : World) (hm : ML w) (hs : s.size < 4294967281) (h : parseL s.toList = none) :
    Calls Tryd.prog 10 #[.string s] w fun e w' => e = .returned (.tuple #[.int .u32 0, .bool false]) ∧ Below w.heap.size w w' := parse_at s none w hm hs h
theorem ends_at (s : ByteArray) (b : Bool) (w : World) (hm : ML w) (hs : s.size < 4294967281) (h : endsL s.toList = b) : Calls Tryd.prog 12 #[.string s] w (RetB w b) := h ▸ ends_any s w hm hs
theorem sp0 : parseL [48, 120, 55, 102, 46, 49] = some 2130706433 := by decide +kernel
theorem sp1 : parseL [49, 46, 50, 46, 51, 46, 52, 46] = some 16909060 := by decide +kernel
theorem sp2 : parseL [48, 51, 48, 48, 46, 48, 120, 46, 48, 49, 48, 46, 50, 53, 54] = none := by decide +kernel
theorem sp3 : parseL [49, 46, 48, 57] = none := by decide +kernel
theorem sp4 : parseL [] = none := by decide +kernel
theorem sp5 : parseL [52, 50, 57, 52, 57, 54, 55, 50, 57, 53] = some 4294967295 := by decide +kernel
theorem sp6 : parseL [52, 50, 57, 52, 57, 54, 55, 50, 57, 54] = none := by decide +kernel
theorem sp7 : parseL [49, 46, 46, 50] = none := by decide +kernel
theorem se0 : endsL [97, 46, 48, 57] = true := by decide +kernel
theorem se1 : endsL [97, 46, 48, 120, 46] = true := by decide +kernel
theorem se2 : endsL [49, 46, 97] = false := by decide +kernel
theorem se3 : endsL [] = false := by decide +kernel
theorem se4 : endsL [49, 46, 46] = false := by decide +kernel
theorem sw09 : fourL 2130706698 = [49, 50, 55, 46, 48, 46, 49, 46, 49, 48] := by
  simp [fourL, fourP, byte4, Lib.decDigits]
set_option maxRecDepth 100000 in
set_option maxHeartbeats 2000000 in
theorem small09_any (w : World) (hm : ML w) (ht : Tabs w) : Calls Tryd.prog 9 #[] w (RetB w true) := by
  have hB : Below w.heap.size w w := Below.refl _ _
  go_enter Tryd.func9, Tryd.ntmps9
  go_wp2_with fail
  refine (parse_yes ⟨#[48, 120, 55, 102, 46, 49]⟩ 2130706433 _ (hm.next hB) (by decide) ((congrArg parseL (toList_mk _)).trans sp0)).mono ?_
  rintro e w1 ⟨rfl, hb⟩
  replace hB := hB.next hb
  clear hb
  go_wp2_with fail
  refine (parse_yes ⟨#[49, 46, 50, 46, 51, 46, 52, 46]⟩ 16909060 _ (hm.next hB) (by decide) ((congrArg parseL (toList_mk _)).trans sp1)).mono ?_
  rintro e w2 ⟨rfl, hb⟩
  replace hB := hB.next hb
  clear hb
  go_wp2_with fail
  refine (parse_no ⟨#[48, 51, 48, 48, 46, 48, 120, 46, 48, 49, 48, 46, 50, 53, 54]⟩ _ (hm.next hB) (by decide) ((congrArg parseL (toList_mk _)).trans sp2)).mono ?_
  rintro e w3 ⟨rfl, hb⟩
  replace hB := hB.next hb
  clear hb
  go_wp2_with fail
  refine (parse_no ⟨#[49, 46, 48, 57]⟩ _ (hm.next hB) (by decide) ((congrArg parseL (toList_mk _)).trans sp3)).mono ?_
  rintro e w4 ⟨rfl, hb⟩
  replace hB := hB.next hb
  clear hb
  go_wp2_with fail
  refine (parse_no ⟨#[]⟩ _ (hm.next hB) (by decide) ((congrArg parseL (toList_mk _)).trans sp4)).mono ?_
  rintro e w5 ⟨rfl, hb⟩
  replace hB := hB.next hb
  clear hb
  go_wp2_with fail
  refine (parse_yes ⟨#[52, 50, 57, 52, 57, 54, 55, 50, 57, 53]⟩ 4294967295 _ (hm.next hB) (by decide) ((congrArg parseL (toList_mk _)).trans sp5)).mono ?_
  rintro e w6 ⟨rfl, hb⟩
  replace hB := hB.next hb
  clear hb
  go_wp2_with fail
  refine (parse_no ⟨#[52, 50, 57, 52, 57, 54, 55, 50, 57, 54]⟩ _ (hm.next hB) (by decide) ((congrArg parseL (toList_mk _)).trans sp6)).mono ?_
  rintro e w7 ⟨rfl, hb⟩
  replace hB := hB.next hb
  clear hb
  go_wp2_with fail
  refine (parse_no ⟨#[49, 46, 46, 50]⟩ _ (hm.next hB) (by decide) ((congrArg parseL (toList_mk _)).trans sp7)).mono ?_
  rintro e w8 ⟨rfl, hb⟩
  replace hB := hB.next hb
  clear hb
  go_wp2_with fail
  refine (ends_at ⟨#[97, 46, 48, 57]⟩ true _ (hm.next hB) (by decide) ((congrArg endsL (toList_mk _)).trans se0)).mono ?_
  rintro e w9 ⟨rfl, hb⟩
  replace hB := hB.next hb
  clear hb
  go_wp2_with fail
  refine (ends_at ⟨#[97, 46, 48, 120, 46]⟩ true _ (hm.next hB) (by decide) ((congrArg endsL (toList_mk _)).trans se1)).mono ?_
  rintro e w10 ⟨rfl, hb⟩
  replace hB := hB.next hb
  clear hb
  go_wp2_with fail
  refine (ends_at ⟨#[49, 46, 97]⟩ false _ (hm.next hB) (by decide) ((congrArg endsL (toList_mk _)).trans se2)).mono ?_
  rintro e w11 ⟨rfl, hb⟩
  replace hB := hB.next hb
  clear hb
  go_wp2_with fail
  refine (ends_at ⟨#[]⟩ false _ (hm.next hB) (by decide) ((congrArg endsL (toList_mk _)).trans se3)).mono ?_
  rintro e w12 ⟨rfl, hb⟩
  replace hB := hB.next hb
  clear hb
  go_wp2_with fail
  refine (ends_at ⟨#[49, 46, 46]⟩ false _ (hm.next hB) (by decide) ((congrArg endsL (toList_mk _)).trans se4)).mono ?_
  rintro e w13 ⟨rfl, hb⟩
  replace hB := hB.next hb
  clear hb
  go_wp2_with fail
  refine (fourWrite_any 2130706698 (by decide) _ (ht.next hB)).mono ?_
  rintro e wz ⟨t, rfl, hx, hb⟩
  replace hB := hB.next hb
  clear hb
  obtain rfl : t = ⟨#[49, 50, 55, 46, 48, 46, 49, 46, 49, 48]⟩ := eq_of_toList (by rw [hx.out, sw09]; exact (toList_mk _).symm)
  clear hx
  go_wp2_with fail
  go_ret
  exact ⟨rfl, hB⟩
end Go.Proofs.YtceedfhealbdkaaDoor
