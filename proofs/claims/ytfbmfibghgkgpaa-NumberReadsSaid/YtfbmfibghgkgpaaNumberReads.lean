/- The law NumberReads, walked. -/
import Derived.Test.YtfbmfibghgkgpaaNumX
import Derived.Test.YtfbmfibghgkgpaaNumT
namespace Go.Proofs.Ytfbmfibghgkgpaa
open Go.RowKit
set_option linter.unusedVariables false

theorem noNaN_told {l : List UInt8} : NoNaN (((floatP l).map floatW).getD 0) := by
  cases h : floatP l with
  | none => exact .inl ⟨_, _, _, (by decide : Ieee.double.read 0 = .number false 0 (-1074))⟩
  | some x =>
    obtain ⟨neg, n, k⟩ := x
    have hb : n < 10 ^ 15 ∧ -22 ≤ k ∧ k ≤ 22 := by
      have key : ∀ r, floatQ r = some (n, k) → n < 10 ^ 15 ∧ -22 ≤ k ∧ k ≤ 22 := by
        intro r hr
        rw [← refQ_eq] at hr
        have fin : ∀ all f q, finR all f q = some (n, k) → n < 10 ^ 15 ∧ -22 ≤ k ∧ k ≤ 22 := by
          intro all f q hf
          unfold finR at hf
          split at hf
          · cases hf
          · rename_i m hm
            split at hf
            · cases hf
            · rename_i e he
              split at hf
              · cases hf
              · rename_i hc
                have h2 := Option.some.inj hf
                have e1 : m = n := congrArg Prod.fst h2
                have e2 : e - f = k := congrArg Prod.snd h2
                subst e1; subst e2
                refine ⟨Nat.lt_of_lt_of_le (digs1_le hm) (Nat.pow_le_pow_right (by decide) ?_), ?_, ?_⟩ <;> omega
        unfold refQ at hr
        split at hr
        · exact fin _ _ _ hr
        · split at hr
          · split at hr
            · cases hr
            · exact fin _ _ _ hr
          · exact fin _ _ _ hr
      unfold floatP at h
      split at h
      all_goals
        rw [Option.map_eq_some_iff] at h
        obtain ⟨y, hy, he⟩ := h
        have : y = (n, k) := congrArg Prod.snd he
        subst this
        exact key _ hy
    exact noNaN_floatW (Nat.lt_trans hb.1 (by decide)) hb.2.1 hb.2.2
set_option maxRecDepth 100000 in
set_option maxHeartbeats 2000000 in
theorem numberReads_walk (s : ByteArray) (w : World) (hs : s.size ≤ maxLen) (hm : ML w) :
    Calls Try.prog 3 #[.string s] w (RetB w true) := by
  have hB : Below w.heap.size w w := Below.refl _ _
  by_cases h100 : 100 < s.size
  · have hI : (100 : Int) < (s.size : Int) := by omega
    go_enter Try.func3, Try.ntmps3
    go_wp2_with fail
    refine (small04_any _ hm).mono ?_
    rintro e w1 ⟨rfl, hb⟩
    replace hB := hB.next hb
    clear hb
    go_wp2_with fail
    go_ret
    exact ⟨rfl, hB⟩
  · have hI : (s.size : Int) ≤ 100 := by omega
    have h1 := Lib.hid (fun w => whole_any s w (by omega))
    have h2 := Lib.hid (fun w => wholeR_any s w (by omega))
    have h3 := Lib.hid (fun w => float_all s w (by omega))
    have h4 := Lib.hid (fun w => refFloat_any s w (by omega))
    unfold RetN at h1 h2
    unfold RetF at h3
    unfold RetG at h4
    have hn := Lib.hid (noNaN_told (l := s.toList))
    generalize ((floatP s.toList).map floatW).getD 0 = fv at h3 h4 hn
    generalize (floatP s.toList).isSome = fb at h3 h4
    generalize (((min ((digs1 10 s.toList).getD 0) maxI : Nat)) : Int) = wv at h1 h2
    generalize (digs1 10 s.toList).isSome = wb at h1 h2
    go_enter Try.func3, Try.ntmps3
    go_wp2_with fail
    refine (small04_any _ hm).mono ?_
    rintro e w1 ⟨rfl, hb⟩
    replace hB := hB.next hb
    clear hb
    go_wp2_with fail
    refine (h1.out _).mono ?_
    rintro e wx ⟨rfl, rfl⟩
    go_wp2_with fail
    refine (h2.out _).mono ?_
    rintro e wx ⟨rfl, rfl⟩
    go_wp2_with fail
    refine (h3.out _).mono ?_
    rintro e w2 ⟨rfl, hb⟩
    replace hB := hB.next hb
    clear hb
    go_wp2_with fail
    refine (h4.out _).mono ?_
    rintro e wx ⟨rfl, rfl⟩
    go_wp2_with fail
    refine (alike_same _ _ hn.out).mono ?_
    rintro e wx ⟨rfl, rfl⟩
    go_wp2_with fail
    go_ret
    exact ⟨rfl, hB⟩
end Go.Proofs.Ytfbmfibghgkgpaa
