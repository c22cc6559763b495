/- The small case of layer 18 comes out right. -/
import Derived.Test.YtdlgpmihjecdlaaDoorMimeE
namespace Go.Proofs.YtdlgpmihjecdlaaDoor
open Go.RowKit
set_option linter.unusedVariables false
set_option linter.unusedSimpArgs false

theorem bytesM {t : ByteArray} {l : List UInt8} (h : t.toList = l) : t = ⟨l.toArray⟩ := eq_of_toList (h.trans (toList_mk l).symm)
def xU : UrlS := ⟨⟨#[120]⟩, ⟨#[]⟩, ⟨#[]⟩, ⟨0, ⟨#[]⟩, 0, [0, 0, 0, 0, 0, 0, 0, 0]⟩, false, 0, true, ⟨#[97, 47, 98, 44]⟩, none, 0, [], false, ⟨#[]⟩, false, ⟨#[]⟩⟩
theorem xU_fit : UrlFit xU := ⟨by decide, by decide, by decide, by decide, by decide, by decide, by decide, by simp [xU, pathT], by decide, by decide, ⟨by decide, ⟨rfl, by decide⟩, by decide⟩⟩
theorem xU_text : (writeX xU false).length ≤ 900000 := by
  have e : (ByteArray.mk #[120]).toList = [120] := toList_mk _
  have e2 : (ByteArray.mk #[97, 47, 98, 44]).toList = [97, 47, 98, 44] := toList_mk _
  simp [writeX, aheadX, xU, dotB, optB, pathX, e, e2]
theorem xU_none : dataU xU = none := by
  have e : xU.scheme.toList = [120] := toList_mk _
  unfold dataU
  rw [e, if_neg (by decide)]
theorem xU_any (w : World) (ht : Tabs w) (hm : ML w) : Calls Tryd.prog 12 #[.agg (urlC xU)] w (RetE w none) :=
  xU_none ▸ data_any xU w (fun h => absurd h (by decide)) xU_fit xU_text ht hm
theorem sm0 : essL [9, 84, 101, 120, 116, 47, 72, 84, 77, 76, 32, 59, 120, 61, 121, 32] = some [116, 101, 120, 116, 47, 104, 116, 109, 108] := by decide +kernel
theorem sm1 : essL [116, 101, 120, 116, 47] = none := by decide +kernel
theorem sm2 : essL [97, 32, 98, 47, 99] = none := by decide +kernel
theorem sm3 : essL [116, 101, 120, 116] = none := by decide +kernel
theorem sd0 : (if (cutC 44 [84, 101, 120, 116, 47, 72, 84, 77, 76, 32, 59, 120, 61, 121, 59, 32, 66, 65, 83, 69, 54, 52, 44, 81, 81]).2.2 = true then some (typeL (cutC 44 [84, 101, 120, 116, 47, 72, 84, 77, 76, 32, 59, 120, 61, 121, 59, 32, 66, 65, 83, 69, 54, 52, 44, 81, 81]).1) else none) = some [116, 101, 120, 116, 47, 104, 116, 109, 108] := by decide +kernel
theorem sd1 : (if (cutC 44 [44, 97]).2.2 = true then some (typeL (cutC 44 [44, 97]).1) else none) = some [116, 101, 120, 116, 47, 112, 108, 97, 105, 110] := by decide +kernel
theorem sd2 : (if (cutC 44 [59, 99, 104, 97, 114, 115, 101, 116, 61, 120, 44]).2.2 = true then some (typeL (cutC 44 [59, 99, 104, 97, 114, 115, 101, 116, 61, 120, 44]).1) else none) = some [116, 101, 120, 116, 47, 112, 108, 97, 105, 110] := by decide +kernel
theorem sd3 : (if (cutC 44 [116, 101, 120, 116, 47, 104, 116, 109, 108]).2.2 = true then some (typeL (cutC 44 [116, 101, 120, 116, 47, 104, 116, 109, 108]).1) else none) = none := by decide +kernel
theorem sd5 : (if (cutC 44 [97, 47, 98, 59, 98, 97, 115, 101, 54, 52, 59, 44]).2.2 = true then some (typeL (cutC 44 [97, 47, 98, 59, 98, 97, 115, 101, 54, 52, 59, 44]).1) else none) = some [97, 47, 98] := by decide +kernel
set_option maxRecDepth 100000 in
set_option maxHeartbeats 4000000 in
theorem small18_any (w : World) (hm : ML w) (ht : Tabs w) : Calls Tryd.prog 8 #[] w (RetB w true) := by
  have hB : Below w.heap.size w w := Below.refl _ _
  go_enter Tryd.func8, Tryd.ntmps8
  go_wp2_with fail
  refine (ess_at (s := ⟨#[9, 84, 101, 120, 116, 47, 72, 84, 77, 76, 32, 59, 120, 61, 121, 32]⟩) _ (hm.next hB) (by decide) ((congrArg essL (toList_mk _)).trans sm0)).mono ?_
  rintro e a0 ⟨ta0, rfl, hx, hb⟩
  replace hB := hB.next hb
  obtain rfl : ta0 = ⟨#[116, 101, 120, 116, 47, 104, 116, 109, 108]⟩ := bytesM hx.out
  clear hx hb
  go_wp2_with fail
  refine (ess_at (s := ⟨#[116, 101, 120, 116, 47]⟩) _ (hm.next hB) (by decide) ((congrArg essL (toList_mk _)).trans sm1)).mono ?_
  rintro e a1 ⟨ta1, rfl, hx, hb⟩
  replace hB := hB.next hb
  obtain rfl : ta1 = ⟨#[]⟩ := bytesM hx.out
  clear hx hb
  go_wp2_with fail
  refine (ess_at (s := ⟨#[97, 32, 98, 47, 99]⟩) _ (hm.next hB) (by decide) ((congrArg essL (toList_mk _)).trans sm2)).mono ?_
  rintro e a2 ⟨ta2, rfl, hx, hb⟩
  replace hB := hB.next hb
  obtain rfl : ta2 = ⟨#[]⟩ := bytesM hx.out
  clear hx hb
  go_wp2_with fail
  refine (ess_at (s := ⟨#[116, 101, 120, 116]⟩) _ (hm.next hB) (by decide) ((congrArg essL (toList_mk _)).trans sm3)).mono ?_
  rintro e a3 ⟨ta3, rfl, hx, hb⟩
  replace hB := hB.next hb
  obtain rfl : ta3 = ⟨#[]⟩ := bytesM hx.out
  clear hx hb
  go_wp2_with fail
  refine (of_any ⟨#[84, 101, 120, 116, 47, 72, 84, 77, 76, 32, 59, 120, 61, 121, 59, 32, 66, 65, 83, 69, 54, 52, 44, 81, 81]⟩ _).mono ?_
  rintro e c0 ⟨rfl, hb⟩
  replace hB := hB.next hb
  clear hb
  go_wp2_with fail
  refine (dataOf_at (s := ⟨#[84, 101, 120, 116, 47, 72, 84, 77, 76, 32, 59, 120, 61, 121, 59, 32, 66, 65, 83, 69, 54, 52, 44, 81, 81]⟩) _ (by decide) (ht.next hB) (hm.next hB) ((congrArg (fun l => if (cutC 44 l).2.2 = true then some (typeL (cutC 44 l).1) else none) (toList_mk _)).trans sd0)).mono ?_
  rintro e b0 ⟨tb0, rfl, hx, hb⟩
  replace hB := hB.next hb
  obtain rfl : tb0 = ⟨#[116, 101, 120, 116, 47, 104, 116, 109, 108]⟩ := bytesM hx.out
  clear hx hb
  go_wp2_with fail
  refine (of_any ⟨#[44, 97]⟩ _).mono ?_
  rintro e c1 ⟨rfl, hb⟩
  replace hB := hB.next hb
  clear hb
  go_wp2_with fail
  refine (dataOf_at (s := ⟨#[44, 97]⟩) _ (by decide) (ht.next hB) (hm.next hB) ((congrArg (fun l => if (cutC 44 l).2.2 = true then some (typeL (cutC 44 l).1) else none) (toList_mk _)).trans sd1)).mono ?_
  rintro e b1 ⟨tb1, rfl, hx, hb⟩
  replace hB := hB.next hb
  obtain rfl : tb1 = ⟨#[116, 101, 120, 116, 47, 112, 108, 97, 105, 110]⟩ := bytesM hx.out
  clear hx hb
  go_wp2_with fail
  refine (of_any ⟨#[59, 99, 104, 97, 114, 115, 101, 116, 61, 120, 44]⟩ _).mono ?_
  rintro e c2 ⟨rfl, hb⟩
  replace hB := hB.next hb
  clear hb
  go_wp2_with fail
  refine (dataOf_at (s := ⟨#[59, 99, 104, 97, 114, 115, 101, 116, 61, 120, 44]⟩) _ (by decide) (ht.next hB) (hm.next hB) ((congrArg (fun l => if (cutC 44 l).2.2 = true then some (typeL (cutC 44 l).1) else none) (toList_mk _)).trans sd2)).mono ?_
  rintro e b2 ⟨tb2, rfl, hx, hb⟩
  replace hB := hB.next hb
  obtain rfl : tb2 = ⟨#[116, 101, 120, 116, 47, 112, 108, 97, 105, 110]⟩ := bytesM hx.out
  clear hx hb
  go_wp2_with fail
  refine (of_any ⟨#[116, 101, 120, 116, 47, 104, 116, 109, 108]⟩ _).mono ?_
  rintro e c3 ⟨rfl, hb⟩
  replace hB := hB.next hb
  clear hb
  go_wp2_with fail
  refine (dataOf_at (s := ⟨#[116, 101, 120, 116, 47, 104, 116, 109, 108]⟩) _ (by decide) (ht.next hB) (hm.next hB) ((congrArg (fun l => if (cutC 44 l).2.2 = true then some (typeL (cutC 44 l).1) else none) (toList_mk _)).trans sd3)).mono ?_
  rintro e b3 ⟨tb3, rfl, hx, hb⟩
  replace hB := hB.next hb
  obtain rfl : tb3 = ⟨#[]⟩ := bytesM hx.out
  clear hx hb
  go_wp2_with fail
  refine (xU_any _ (ht.next hB) (hm.next hB)).mono ?_
  rintro e b4 ⟨tb4, rfl, hx, hb⟩
  replace hB := hB.next hb
  obtain rfl : tb4 = ⟨#[]⟩ := bytesM hx.out
  clear hx hb
  go_wp2_with fail
  refine (of_any ⟨#[97, 47, 98, 59, 98, 97, 115, 101, 54, 52, 59, 44]⟩ _).mono ?_
  rintro e c5 ⟨rfl, hb⟩
  replace hB := hB.next hb
  clear hb
  go_wp2_with fail
  refine (dataOf_at (s := ⟨#[97, 47, 98, 59, 98, 97, 115, 101, 54, 52, 59, 44]⟩) _ (by decide) (ht.next hB) (hm.next hB) ((congrArg (fun l => if (cutC 44 l).2.2 = true then some (typeL (cutC 44 l).1) else none) (toList_mk _)).trans sd5)).mono ?_
  rintro e b5 ⟨tb5, rfl, hx, hb⟩
  replace hB := hB.next hb
  obtain rfl : tb5 = ⟨#[97, 47, 98]⟩ := bytesM hx.out
  clear hx hb
  go_wp2_with fail
  go_ret
  exact ⟨rfl, hB⟩
end Go.Proofs.YtdlgpmihjecdlaaDoor
