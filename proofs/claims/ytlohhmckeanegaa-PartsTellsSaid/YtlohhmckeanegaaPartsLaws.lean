/- The walks of the laws PartsTells, PartsJoin, PartsScheme, PartsClean. -/
import Derived.Test.YtlohhmckeanegaaSmall14
import Derived.Test.YtlohhmckeanegaaPartsRef
import Derived.OpenShut
namespace Go.Proofs.Ytlohhmckeanegaa
open Go.RowKit
set_option linter.unusedVariables false

set_option maxHeartbeats 1000000 in
theorem partsTells_walk (s : ByteArray) (w : World) (ws : s.size ≤ maxLen) (hm : ML w) :
    Calls Try.prog 3 #[.string s] w (RetB w true) := by
  have hB : Below w.heap.size w w := Below.refl _ _
  unfold maxLen at ws
  by_cases hs : 500 < s.size
  · have z : (500 : Int) < (s.size : Int) := by omega
    go_enter Try.func3, Try.ntmps3
    go_wp2_with (go_at_call 7; refine (small14_any _ hm).mono ?_; rintro e w' ⟨rfl, hb⟩)
    go_ret
    exact ⟨rfl, by assumption⟩
  have z : (s.size : Int) ≤ (500 : Int) := by omega
  have hs' : s.size ≤ 1099511627776 := by omega
  go_enter Try.func3, Try.ntmps3
  go_wp2_with fail
  refine (small14_any _ hm).mono ?_
  rintro e w1 ⟨rfl, hb⟩
  replace hB := hB.next hb
  clear hb
  go_wp2_with fail
  refine (clean_any _ _ hs').mono ?_
  rintro e w2 ⟨t1, rfl, ht1, hb⟩
  replace hB := hB.next hb
  clear hb
  go_wp2_with fail
  refine (cleanr_any _ _ hs').mono ?_
  rintro e w3 ⟨t2, rfl, ht2, hb⟩
  replace hB := hB.next hb
  clear hb
  have hq := ht2.out.trans ht1.out.symm
  clear ht1 ht2
  go_wp2_with fail
  refine (split_any s _ (hm.next hB) (by omega)).mono ?_
  rintro e w4 ⟨a1, b1, c1, d1, rfl, ha1, hb1, hc1, hd1, hb⟩
  replace hB := hB.next hb
  clear hb hq
  go_wp2_with fail
  refine (splitr_any s _ hs').mono ?_
  rintro e w5 ⟨a2, b2, c2, d2, rfl, ha2, hb2, hc2, hd2, hb⟩
  replace hB := hB.next hb
  clear hb
  have q1 := ha2.out.trans ha1.out.symm
  have q2 := hb2.out.trans hb1.out.symm
  have q3 := hc2.out.trans hc1.out.symm
  have q4 := hd2.out.trans hd1.out.symm
  clear ha1 hb1 hc1 hd1 ha2 hb2 hc2 hd2
  generalize splitL s.toList = p
  go_wp2_with fail
  go_ret
  exact ⟨rfl, hB⟩
end Go.Proofs.Ytlohhmckeanegaa
