/- The walk of the law AsciiEnds. -/
import Derived.Test.YtcemneilhfjnhaaSmall01
import Derived.Test.YtcemneilhfjnhaaTrimPlain
namespace Go.Proofs.Ytcemneilhfjnhaa
open Go.RowKit
set_option linter.unusedVariables false

set_option maxHeartbeats 1000000 in
theorem asciiEnds_walk (s : ByteArray) (w : World) (ws : s.size ≤ maxLen) :
    Calls Try.prog 6 #[.string s] w (RetB w true) := by
  have hB : Below w.heap.size w w := Below.refl _ _
  unfold maxLen at ws
  by_cases hs : 1000 < s.size
  · have z : (1000 : Int) < (s.size : Int) := by omega
    go_enter Try.func6, Try.ntmps6
    go_wp2_with (go_at_call 9; refine (small01_any _).mono ?_; rintro e w' ⟨rfl, hb⟩)
    go_ret
    exact ⟨rfl, by assumption⟩
  · have z : (s.size : Int) ≤ (1000 : Int) := by omega
    have hs' : s.size ≤ 1099511627776 := by omega
    go_enter Try.func6, Try.ntmps6
    go_wp2_with (first
      | (go_at_call 9; refine (small01_any _).mono ?_; rintro e w1 ⟨rfl, hb⟩; replace hB := hB.next hb; clear hb))
    refine (trim_any _ _ hs').mono ?_
    rintro e w1 ⟨t, rfl, ht, hb⟩
    replace hB := hB.next hb
    clear hb
    obtain ⟨na, hna, hlow, hat, hcut, hback, hends⟩ := trim_view lowZ s.toList
    rw [← trimL_eq, ← ht.out, size_toList] at hna hcut hback
    rw [← trimL_eq, ← ht.out] at hends
    rw [size_toList] at hna
    have H := Lib.hid (And.intro hlow (And.intro hat (And.intro hcut (And.intro hback hends))))
    clear hlow hat hcut hback hends
    go_wp2_with fail
    go_loop [5] (fun v => ∃ j : Nat, v = .int .i64 j ∧ j ≤ na) (fun v => na - (intOf v).toNat)
    case atStart => exact ⟨0, rfl, Nat.zero_le _⟩
    case round =>
      obtain ⟨j, rfl, hj⟩ := hrel
      by_cases hlt : j < na
      · have h1 : j < s.size := by omega
        have h2 : (s[j].toNat : Int) ≤ 32 := by
          have := H.out.1 j _ hlt (get?_toList s j h1)
          simpa [lowZ] using this
        go_wp2_with fail
        go_round
        case rel => exact ⟨j + 1, by go_num, by omega⟩
        case measure => simp [intOf]; omega
      · obtain rfl : j = na := by omega
        have hor : s.size ≤ j ∨ ∃ h : j < s.size, (32 : Int) < (s[j].toNat : Int) := by
          by_cases h : j < s.size
          · have := H.out.2.1 _ (get?_toList s j h)
            exact .inr ⟨h, by simpa [lowZ] using this⟩
          · exact .inl (by omega)
        have hb1 : (t.size : Int) ≤ (s.size : Int) - (j : Int) := by omega
        have hx : (s.extract j (j + t.size)).toList = t.toList := by
          rw [toList_extract, List.drop_take, Nat.add_sub_cancel_left]; exact H.out.2.2.1
        have hb2 : (j : Int) + (t.size : Int) ≤ (s.size : Int) := by omega
        have hts : t.size ≤ 1099511627776 := by omega
        clear hj hlt
        rcases hor with hor | ⟨hor, hor2⟩
        all_goals
          go_wp2_with (first
            | (go_at_call 18; refine (trim_any _ _ hts).mono ?_; rintro e w2 ⟨t2, rfl, ht2, hb⟩; replace hB := hB.next hb; have hq := ht2.out.trans ((congrArg trimL ht.out).trans ((trim_idem lowZ s.toList).trans ht.out.symm)); clear hb ht2))
          go_loop [6] (fun v => ∃ k : Nat, v = .int .i64 k ∧ j + t.size ≤ k ∧ k ≤ s.size) (fun v => s.size - (intOf v).toNat)
          case atStart => exact ⟨j + t.size, by go_num, Nat.le_refl _, by omega⟩
          case round =>
            obtain ⟨k, rfl, hk1, hk2⟩ := hrel
            by_cases hkl : k < s.size
            · have g1 : (s[k].toNat : Int) ≤ (32 : Int) := by
                have := H.out.2.2.2.1 k _ hk1 (get?_toList s k hkl)
                simpa [lowZ] using this
              go_wp2_with fail
              all_goals
                go_round
                case rel => exact ⟨k + 1, by go_num, by omega, by omega⟩
                case measure => simp [intOf]; omega
            · have hends : ((t.size : Int) == 0) = true ∨ ((t.size : Int) == 0) = false ∧ ∃ h : 0 < t.size, (32 : Int) < (t[0].toNat : Int) ∧ (32 : Int) < (t[t.size - 1].toNat : Int) := by
                by_cases h : 0 < t.size
                · refine .inr ⟨beq_eq_false_iff_ne.2 (by omega), h, ?_, ?_⟩
                  · have := H.out.2.2.2.2.1 t[0] (by rw [List.head?_eq_getElem?, get?_toList t 0 h])
                    simpa [lowZ] using this
                  · have := H.out.2.2.2.2.2 t[t.size - 1] (by rw [List.getLast?_eq_getElem?, size_toList, get?_toList t (t.size - 1) (by omega)])
                    simpa [lowZ] using this
                · exact .inl (beq_iff_eq.2 (by omega))
              go_wp2_with fail
              refine (strip_any _ _ hs').mono ?_
              rintro e w3 ⟨u, rfl, hu, hb⟩
              replace hB := hB.next hb
              have hlen := trim_len blank_low s.toList
              rw [← trimL_eq, ← stripL_eq, ← hu.out, ← ht.out, size_toList, size_toList] at hlen
              have hus : u.size ≤ 1099511627776 := by
                have hu2 := hu.out
                obtain ⟨a, b, h, _⟩ := trim_split blankZ s.toList
                have := congrArg List.length h
                rw [← stripL_eq, ← hu2] at this
                simp [size_toList] at this
                omega
              have q1 := Lib.hid ((congrArg trimL hu.out).trans ((trim_trim blank_low s.toList).trans ht.out.symm))
              have q2 := Lib.hid ((congrArg stripL hu.out).trans ((trim_idem blankZ s.toList).trans hu.out.symm))
              have hlen2 : (t.size : Int) ≤ (u.size : Int) := by omega
              clear hb hlen hq hx
              rcases hends with he | ⟨he, he0, he1, he2⟩
              all_goals
                go_wp2_with (first
                  | (go_at_call 18; refine (trim_any _ _ hus).mono ?_; rintro e w4 ⟨t3, rfl, ht3, hb⟩; replace hB := hB.next hb; have hq3 := ht3.out.trans q1.out; clear hb ht3)
                  | (go_at_call 20; refine (strip_any _ _ hus).mono ?_; rintro e w5 ⟨t4, rfl, ht4, hb⟩; replace hB := hB.next hb; have hq4 := ht4.out.trans q2.out; clear hb ht4))
                all_goals go_ret
                all_goals exact ⟨rfl, hB⟩
end Go.Proofs.Ytcemneilhfjnhaa
