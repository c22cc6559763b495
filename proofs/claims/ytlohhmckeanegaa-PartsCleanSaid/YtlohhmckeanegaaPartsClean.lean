/- The walk of the law PartsClean. -/
import Derived.Test.YtlohhmckeanegaaSmall14
import Derived.Test.YtlohhmckeanegaaTrimPlain
namespace Go.Proofs.Ytlohhmckeanegaa
open Go.RowKit
set_option linter.unusedVariables false

theorem hi_tight {c : UInt8} (h : lowZ (c.toNat : Int) = false) : tightC c = true := by
  simp [lowZ] at h; simp [tightC]; omega
theorem tightL_idem (l : List UInt8) : tightL (tightL l) = tightL l := by simp [tightL]
theorem tightL_append (a b : List UInt8) : tightL (a ++ b) = tightL a ++ tightL b := by simp [tightL]
theorem ends_tight {m : List UInt8} (h : Ends lowZ m) : Ends lowZ (tightL m) := by
  cases hm : m with
  | nil => exact ⟨fun c hc => by simp [tightL] at hc, fun c hc => by simp [tightL] at hc⟩
  | cons d r =>
    have h1 : tightC d = true := hi_tight (h.1 d (by rw [hm]; rfl))
    refine ⟨fun c hc => ?_, fun c hc => ?_⟩
    · have e : (tightL (d :: r)).head? = some d := by simp [tightL, h1]
      rw [e] at hc; cases hc; exact h.1 d (by rw [hm]; rfl)
    · have hne : m ≠ [] := by rw [hm]; simp
      obtain ⟨x, z, hz⟩ : ∃ x z, m = x ++ [z] := ⟨_, _, (List.dropLast_concat_getLast hne).symm⟩
      have hzl : m.getLast? = some z := by rw [hz]; simp
      have h2 : tightC z = true := hi_tight (h.2 z hzl)
      rw [← hm, hz, tightL_append] at hc
      have e : (tightL x ++ tightL [z]).getLast? = some z := by simp [tightL, h2]
      rw [e] at hc; rw [← Option.some.inj hc]; exact h.2 z hzl
theorem trimL_ends (l : List UInt8) : Ends lowZ (trimL l) := by
  obtain ⟨a, b, _, _, _, h⟩ := trim_split lowZ l; exact h
theorem trimL_of_ends {m : List UInt8} (h : Ends lowZ m) : trimL m = m := by
  have := (trim_of_split (allZ_nil lowZ) (allZ_nil lowZ) h).1
  rwa [List.nil_append, List.append_nil] at this
theorem cleanL_idem (l : List UInt8) : cleanL (cleanL l) = cleanL l := by
  unfold cleanL
  rw [trimL_of_ends (ends_tight (trimL_ends l)), tightL_idem]
theorem cleanL_ends (l : List UInt8) : Ends lowZ (cleanL l) := ends_tight (trimL_ends l)
theorem trimL_pad (l : List UInt8) : trimL ([32, 9] ++ l ++ [0, 10]) = trimL l := by
  obtain ⟨a, b, h, ha, hb, he⟩ := trim_split lowZ l
  have h1 : allZ lowZ ([32, 9] ++ a) := allZ_append (by intro c hc; simp at hc; rcases hc with rfl | rfl <;> decide) ha
  have h2 : allZ lowZ (b ++ [0, 10]) := allZ_append hb (by intro c hc; simp at hc; rcases hc with rfl | rfl <;> decide)
  have := (trim_of_split h1 h2 he).1
  rw [trimL_eq, trimL_eq]
  rw [← this]
  congr 1
  conv => lhs; rw [h]
  simp
theorem cleanL_pad (l : List UInt8) : cleanL ([32, 9] ++ l ++ [0, 10]) = cleanL l := by unfold cleanL; rw [trimL_pad]
def hiN (l : List UInt8) : Nat := (l.filter fun c => !lowZ (c.toNat : Int)).length
theorem hiN_snoc (l : List UInt8) (c : UInt8) : hiN (l ++ [c]) = hiN l + if lowZ (c.toNat : Int) then 0 else 1 := by
  unfold hiN; rw [List.filter_append]; by_cases h : lowZ (c.toNat : Int) = true <;> simp [h]
theorem hiN_le (l : List UInt8) : hiN l ≤ l.length := List.length_filter_le _ _
theorem hiN_append (a b : List UInt8) : hiN (a ++ b) = hiN a + hiN b := by simp [hiN]
theorem hiN_all {a : List UInt8} (h : allZ lowZ a) : hiN a = 0 := by
  unfold hiN; rw [List.length_eq_zero_iff, List.filter_eq_nil_iff]; intro c hc; simp [h c hc]
theorem hiN_tight (l : List UInt8) : hiN (tightL l) = hiN l := by
  unfold hiN tightL
  rw [List.filter_filter]
  congr 1
  apply List.filter_congr
  intro c _
  cases h : lowZ (c.toNat : Int)
  · rw [hi_tight h]; rfl
  · rfl
theorem hiN_clean (l : List UInt8) : hiN (cleanL l) = hiN l := by
  obtain ⟨a, b, h, ha, hb, he⟩ := trim_split lowZ l
  unfold cleanL
  rw [hiN_tight, trimL_eq]
  conv => rhs; rw [h]
  rw [hiN_append, hiN_append, hiN_all ha, hiN_all hb]; omega
theorem cleanL_tight (l : List UInt8) : ∀ c ∈ cleanL l, tightC c = true := by
  intro c hc; exact (List.mem_filter.1 hc).2
theorem cleanL_len (l : List UInt8) : (cleanL l).length ≤ l.length := by
  have h1 := trimL_len l
  have h2 : (tightL (trimL l)).length ≤ (trimL l).length := List.length_filter_le _ _
  unfold cleanL; omega

set_option maxHeartbeats 2000000 in
theorem partsClean_walk (s : ByteArray) (w : World) (ws : s.size ≤ maxLen) (hm : ML w) :
    Calls Try.prog 6 #[.string s] w (RetB w true) := by
  have hB : Below w.heap.size w w := Below.refl _ _
  unfold maxLen at ws
  by_cases hs : 500 < s.size
  · have z : (500 : Int) < (s.size : Int) := by omega
    go_enter Try.func6, Try.ntmps6
    go_wp2_with (go_at_call 7; refine (small14_any _ hm).mono ?_; rintro e w' ⟨rfl, hb⟩)
    go_ret
    exact ⟨rfl, by assumption⟩
  have z : (s.size : Int) ≤ (500 : Int) := by omega
  have hs' : s.size ≤ 1099511627776 := by omega
  have hpad : (ByteArray.mk #[32, 9] ++ s ++ ByteArray.mk #[0, 10]).size ≤ 1099511627776 := by
    simp only [ByteArray.size_append]
    have h1 : (ByteArray.mk #[32, 9]).size = 2 := rfl
    have h2 : (ByteArray.mk #[0, 10]).size = 2 := rfl
    omega
  go_enter Try.func6, Try.ntmps6
  go_wp2_with fail
  refine (small14_any _ hm).mono ?_
  rintro e w1 ⟨rfl, hb⟩
  replace hB := hB.next hb
  clear hb
  go_wp2_with fail
  refine (clean_any _ _ hs').mono ?_
  rintro e w2 ⟨t, rfl, ht, hb⟩
  replace hB := hB.next hb
  clear hb
  have hlen := cleanL_len s.toList
  rw [← ht.out, size_toList, size_toList] at hlen
  have zt : (t.size : Int) ≤ (500 : Int) := by omega
  have htt : t.size ≤ 1099511627776 := by omega
  have HT : Hid (∀ c ∈ t.toList, tightC c = true) := Lib.hid (by rw [ht.out]; exact cleanL_tight _)
  go_wp2_with fail
  go_loop [6] (fun v => ∃ j : Nat, v = .int .i64 j ∧ j ≤ t.size) (fun v => t.size - (intOf v).toNat)
  case atStart => exact ⟨0, rfl, Nat.zero_le _⟩
  case round =>
    obtain ⟨j, rfl, hj⟩ := hrel
    by_cases hlt : j < t.size
    · have hc : tightC t[j] = true := HT.out _ (by rw [← toList_get t j hlt]; exact List.getElem_mem _)
      have h9 : ((t[j].toNat : Int) == 9) = false := by simp [tightC] at hc; simp; omega
      have h10 : ((t[j].toNat : Int) == 10) = false := by simp [tightC] at hc; simp; omega
      have h13 : ((t[j].toNat : Int) == 13) = false := by simp [tightC] at hc; simp; omega
      have hlt2 : (j : Int) < (t.size : Int) := by omega
      clear hc
      go_wp2_with fail
      go_round
      case rel => exact ⟨j + 1, by go_num, by omega⟩
      case measure => simp [intOf]; omega
    · have hge : (t.size : Int) ≤ (j : Int) := by omega
      clear HT
      go_wp2_with fail
      go_loop [5, 7] (fun nv v => ∃ k n : Nat, v = .int .i64 k ∧ nv = .int .i64 n ∧ k ≤ s.size ∧ n ≤ k ∧ Hid (n = hiN (s.toList.take k))) (fun _ v => s.size - (intOf v).toNat)
      case atStart => exact ⟨0, 0, rfl, rfl, Nat.zero_le _, Nat.le_refl _, rfl⟩
      case round =>
        obtain ⟨k, n, rfl, rfl, hk, hnk, hn⟩ := hrel
        by_cases hkl : k < s.size
        · have hsn := Lib.hid (take_snoc s k hkl)
          have hkl2 : (k : Int) < (s.size : Int) := by omega
          cases hq : lowZ (s[k].toNat : Int)
          · have h32 : (32 : Int) < (s[k].toNat : Int) := by simpa [lowZ] using hq
            replace hq := Lib.hid hq
            go_wp2_with fail
            go_round
            case rel => exact ⟨k + 1, n + 1, by go_num, by go_num, by omega, by omega, Lib.hid (by rw [hsn.out, hiN_snoc, hq.out, hn.out]; simp)⟩
            case measure => simp [intOf]; omega
          · have h32 : (s[k].toNat : Int) ≤ (32 : Int) := by simpa [lowZ] using hq
            replace hq := Lib.hid hq
            go_wp2_with fail
            go_round
            case rel => exact ⟨k + 1, n, by go_num, by go_num, by omega, by omega, Lib.hid (by rw [hsn.out, hiN_snoc, hq.out, hn.out]; simp)⟩
            case measure => simp [intOf]; omega
        · have hnS : Hid (n = hiN t.toList) := Lib.hid (by rw [hn.out, take_all _ _ (by omega), ht.out, hiN_clean])
          have hkge : (s.size : Int) ≤ (k : Int) := by omega
          have hn5 : n ≤ 500 := by omega
          clear hn
          go_wp2_with fail
          go_loop [5, 8] (fun nv v => ∃ i m : Nat, v = .int .i64 i ∧ nv = .int .i64 m ∧ i ≤ t.size ∧ m ≤ 500 ∧ Hid (m + hiN (t.toList.take i) = hiN t.toList)) (fun _ v => t.size - (intOf v).toNat)
          case atStart => exact ⟨0, n, rfl, rfl, Nat.zero_le _, hn5, Lib.hid (by rw [← hnS.out]; simp [hiN])⟩
          case round =>
            obtain ⟨i, m, rfl, rfl, hi, hm5, hmm⟩ := hrel
            by_cases hil : i < t.size
            · have hsn := Lib.hid (take_snoc t i hil)
              have hil2 : (i : Int) < (t.size : Int) := by omega
              have hpos : hiN (t.toList.take (i + 1)) ≤ hiN t.toList := by
                have : hiN t.toList = hiN (t.toList.take (i + 1)) + hiN (t.toList.drop (i + 1)) := by rw [← hiN_append, List.take_append_drop]
                omega
              cases hq : lowZ (t[i].toNat : Int)
              · have h32 : (32 : Int) < (t[i].toNat : Int) := by simpa [lowZ] using hq
                have hm1 : 1 ≤ m := by
                  have h1 := hmm.out
                  rw [hsn.out, hiN_snoc, hq] at hpos
                  simp at hpos; omega
                replace hq := Lib.hid hq
                clear hpos
                go_wp2_with fail
                go_round
                case rel => exact ⟨i + 1, m - 1, by go_num, by go_num, by omega, by omega, Lib.hid (by rw [hsn.out, hiN_snoc, hq.out, ← hmm.out]; simp; omega)⟩
                case measure => simp [intOf]; omega
              · have h32 : (t[i].toNat : Int) ≤ (32 : Int) := by simpa [lowZ] using hq
                replace hq := Lib.hid hq
                clear hpos
                go_wp2_with fail
                go_round
                case rel => exact ⟨i + 1, m, by go_num, by go_num, by omega, by omega, Lib.hid (by rw [hsn.out, hiN_snoc, hq.out, ← hmm.out]; simp)⟩
                case measure => simp [intOf]; omega
            · have hige : (t.size : Int) ≤ (i : Int) := by omega
              have he : ((m : Int) == 0) = true := beq_iff_eq.2 (by
                have := hmm.out
                rw [take_all _ _ (by omega)] at this; omega)
              have hends : t.toList.isEmpty = true ∨ t.toList.isEmpty = false ∧ ∃ h : 0 < t.size, (32 : Int) < (t[0].toNat : Int) ∧ (32 : Int) < (t[t.size - 1].toNat : Int) := by
                by_cases h : 0 < t.size
                · have hE := cleanL_ends s.toList
                  rw [← ht.out] at hE
                  refine .inr ⟨by rw [extract1 t h]; rfl, h, ?_, ?_⟩
                  · have := hE.1 t[0] (by rw [List.head?_eq_getElem?, get?_toList t 0 h])
                    simpa [lowZ] using this
                  · have := hE.2 t[t.size - 1] (by rw [List.getLast?_eq_getElem?, size_toList, get?_toList t (t.size - 1) (by omega)])
                    simpa [lowZ] using this
                · exact .inl (by rw [(toList_empty_iff t).2 (by omega)]; rfl)
              clear hmm hnS
              go_wp2_with fail
              refine (clean_any t _ htt).mono ?_
              rintro e w3 ⟨t2, rfl, ht2, hb⟩
              replace hB := hB.next hb
              have hq := ht2.out.trans ((congrArg cleanL ht.out).trans ((cleanL_idem _).trans ht.out.symm))
              clear hb ht2
              rcases hends with hends | ⟨hends, h0, hh0, hh1⟩
              all_goals
                go_wp2_with fail
                refine (clean_any _ _ hpad).mono ?_
                rintro e w4 ⟨t3, rfl, ht3, hb⟩
                replace hB := hB.next hb
                have hq3 : t3.toList = t.toList := by
                  rw [ht3.out, toList_append, toList_append, show (ByteArray.mk #[32, 9]).toList = [32, 9] from toList_mk _, show (ByteArray.mk #[0, 10]).toList = [0, 10] from toList_mk _, ht.out]; exact cleanL_pad _
                clear hb ht3 hq
                go_wp2_with fail
                go_ret
                exact ⟨rfl, hB⟩
end Go.Proofs.Ytlohhmckeanegaa
