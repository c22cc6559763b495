/- The small case of layer 14 comes out right. -/
import Derived.Test.YtlohhmckeanegaaParts
namespace Go.Proofs.Ytlohhmckeanegaa
open Go.RowKit
set_option linter.unusedVariables false

theorem small14_clean : cleanL [1, 32, 97, 9, 98, 32, 10] = [97, 98] := by decide
set_option maxHeartbeats 1000000 in
theorem small14_any (w : World) (hm : ML w) : Calls Try.prog 7 #[] w (RetB w true) := by
  have hB : Below w.heap.size w w := Below.refl _ _
  go_enter Try.func7, Try.ntmps7
  go_wp2_with fail
  refine (split_lit [65, 43, 98, 58, 99, 63, 100, 58, 101, 35, 102, 63, 35] ⟨true, [97, 43, 98], [99], true, [100, 58, 101], true, [102, 63, 35]⟩ (by decide) (by decide) _ hm).mono ?_
  rintro e w1 ⟨rfl, hb⟩
  replace hB := hB.next hb
  obtain ⟨E1, d1, rfl⟩ := hb.ext
  clear hb
  go_wp2_with fail
  refine (split_lit [49, 97, 58, 98] ⟨false, [], [49, 97, 58, 98], false, [], false, []⟩ (by decide) (by decide) _ ((hm.next hB).alloc _)).mono ?_
  rintro e w1 ⟨rfl, hb⟩
  replace hB := (hB.alloc (by simp) _).next hb
  obtain ⟨E2, d2, rfl⟩ := hb.ext
  clear hb
  go_wp2_with fail
  refine (split_lit [97, 63, 98, 58, 99] ⟨false, [], [97], true, [98, 58, 99], false, []⟩ (by decide) (by decide) _ ((hm.next hB).alloc _)).mono ?_
  rintro e w1 ⟨rfl, hb⟩
  replace hB := (hB.alloc (by simp <;> omega) _).next hb
  obtain ⟨E3, d3, rfl⟩ := hb.ext
  clear hb
  go_wp2_with fail
  refine (split_lit [58, 97] ⟨false, [], [58, 97], false, [], false, []⟩ (by decide) (by decide) _ ((hm.next hB).alloc _)).mono ?_
  rintro e w1 ⟨rfl, hb⟩
  replace hB := (hB.alloc (by simp <;> omega) _).next hb
  obtain ⟨E4, d4, rfl⟩ := hb.ext
  clear hb
  go_wp2_with fail
  refine (clean_any _ _ (by decide)).mono ?_
  rintro e w2 ⟨t, rfl, ht, hb⟩
  have hq := ht.out.trans (show _ = [97, 98] by rw [ByteArray.toList_mk]; exact small14_clean)
  clear ht
  replace hB := (hB.alloc (by simp <;> omega) _).next hb
  clear hb
  go_wp2_with fail
  go_ret
  exact ⟨rfl, hB⟩
end Go.Proofs.Ytlohhmckeanegaa
