/- The walk of the law AsciiTight. -/
import Derived.Test.YtcemneilhfjnhaaSmall01
import Derived.Test.YtcemneilhfjnhaaTrimPlain
namespace Go.Proofs.Ytcemneilhfjnhaa
open Go.RowKit
set_option linter.unusedVariables false

theorem tightL_append (a b : List UInt8) : tightL (a ++ b) = tightL a ++ tightL b := by simp [tightL]
theorem lowerC_all : ∀ n : Fin 256, tightC (lowerC (UInt8.ofNat n.val)) = tightC (UInt8.ofNat n.val) ∧ lowerC (lowerC (UInt8.ofNat n.val)) = lowerC (UInt8.ofNat n.val) := by decide +kernel
theorem lowerC_tight (c : UInt8) : tightC (lowerC c) = tightC c := by
  have := (lowerC_all ⟨c.toNat, c.toNat_lt⟩).1; simpa using this
theorem lowerC_idem (c : UInt8) : lowerC (lowerC c) = lowerC c := by
  have := (lowerC_all ⟨c.toNat, c.toNat_lt⟩).2; simpa using this
theorem lower_tight (l : List UInt8) : lowerL (tightL l) = tightL (lowerL l) := by
  induction l with
  | nil => rfl
  | cons c l ih =>
    simp only [lowerL, tightL, List.map_cons, List.filter_cons, lowerC_tight] at ih ⊢
    split <;> simp [ih]
theorem lower_idem (l : List UInt8) : lowerL (lowerL l) = lowerL l := by
  simp only [lowerL, List.map_map]; apply List.map_congr_left; intro c _; exact lowerC_idem c
theorem tightL_len (l : List UInt8) : (tightL l).length ≤ l.length := List.length_filter_le _ _
theorem lowerL_len (l : List UInt8) : (lowerL l).length = l.length := by simp [lowerL]

set_option maxHeartbeats 2000000 in
theorem asciiTight_walk (s b : ByteArray) (w : World) (ws : s.size ≤ maxLen) (wb : b.size ≤ maxLen) :
    Calls Try.prog 8 #[.string s, .string b] w (RetB w true) := by
  have hB : Below w.heap.size w w := Below.refl _ _
  unfold maxLen at ws wb
  by_cases hs : 500 < s.size
  · have z : (500 : Int) < (s.size : Int) := by omega
    go_enter Try.func8, Try.ntmps8
    go_wp2_with (go_at_call 9; refine (small01_any _).mono ?_; rintro e w' ⟨rfl, hb⟩)
    go_ret
    exact ⟨rfl, by assumption⟩
  by_cases hs2 : 500 < b.size
  · have z : (500 : Int) < (b.size : Int) := by omega
    have z2 : (s.size : Int) ≤ (500 : Int) := by omega
    go_enter Try.func8, Try.ntmps8
    go_wp2_with (go_at_call 9; refine (small01_any _).mono ?_; rintro e w' ⟨rfl, hb⟩)
    go_ret
    exact ⟨rfl, by assumption⟩
  have z : (s.size : Int) ≤ (500 : Int) := by omega
  have z2 : (b.size : Int) ≤ (500 : Int) := by omega
  have hs' : s.size ≤ 1099511627776 := by omega
  have hb' : b.size ≤ 1099511627776 := by omega
  have hsb' : (s ++ b).size ≤ 1099511627776 := by rw [ByteArray.size_append]; omega
  go_enter Try.func8, Try.ntmps8
  go_wp2_with (first
    | (go_at_call 9; refine (small01_any _).mono ?_; rintro e w1 ⟨rfl, hb⟩; replace hB := hB.next hb; clear hb))
  refine (tight_any _ _ hs').mono ?_
  rintro e w1 ⟨t, rfl, ht, hb⟩
  replace hB := hB.next hb
  clear hb
  have hts := tightL_len s.toList
  rw [← ht.out, size_toList, size_toList] at hts
  have hts' : t.size ≤ 1099511627776 := by omega
  go_wp2_with fail
  go_loopw [7, 8] (fun nv iv wr => ∃ k n : Nat, iv = .int .i64 k ∧ nv = .int .i64 n ∧ k ≤ s.size ∧ n ≤ k ∧ Hid (n = (tightL (s.toList.take k)).length) ∧ Below w.heap.size w wr) (fun _ i _ => s.size - (intOf i).toNat)
  case atStart => exact ⟨0, 0, rfl, rfl, Nat.zero_le _, Nat.le_refl _, rfl, hB⟩
  case round =>
    obtain ⟨k, n, rfl, rfl, hk, hnk, hn, hbel⟩ := hrel
    clear hB
    by_cases hlt : k < s.size
    · have hx := take_snoc s k hlt
      by_cases hkeep : tightC s[k] = true
      · have hn1 : Hid (n + 1 = (tightL (s.toList.take (k + 1))).length) := Lib.hid (by rw [hx, tightL_append, List.length_append, ← hn.out]; simp [tightL, hkeep])
        have hall : t.toList = tightL (s.toList.take k) ++ s[k] :: tightL (s.toList.drop (k + 1)) := by
          rw [ht.out]
          conv => lhs; rw [← List.take_append_drop k s.toList, tightL_append, drop_cons s k hlt]
          simp [tightL, hkeep]
        have hnt : n < t.size := by
          have := congrArg List.length hall
          rw [size_toList, List.length_append, ← hn.out] at this
          simp at this; omega
        have hget : (t[n].toNat : Int) = (s[k].toNat : Int) := by
          have h1 : t.toList[n]? = some s[k] := by
            rw [hall, List.getElem?_append_right (by have := hn.out; omega)]
            have := hn.out
            simp [← this]
          rw [get?_toList t n hnt] at h1
          rw [Option.some.inj h1]
        have hne : ((t[n].toNat : Int) != (s[k].toNat : Int)) = false := by rw [hget]; simp
        have hd : decide ((t.size : Int) ≤ (n : Int)) = false := decide_eq_false (by omega)
        have hi1 : (n : Int) < (t.size : Int) := by omega
        have hi2 : (k : Int) < (s.size : Int) := by omega
        have h9 : ((s[k].toNat : Int) == 9) = false := by simp [tightC] at hkeep; simp; omega
        have h10 : ((s[k].toNat : Int) == 10) = false := by simp [tightC] at hkeep; simp; omega
        have h13 : ((s[k].toNat : Int) == 13) = false := by simp [tightC] at hkeep; simp; omega
        clear hall hget hx hkeep
        go_wp2_with fail
        go_quiet (fail)
        go_wp2_with fail
        go_roundw
        case rel => exact ⟨k + 1, n + 1, by go_num, by go_num, by omega, by omega, hn1, below_drewN hbel _⟩
        case measure => simp [intOf]; omega
      · have hn1 : Hid (n = (tightL (s.toList.take (k + 1))).length) := Lib.hid (by rw [hx, tightL_append, List.length_append, ← hn.out]; simp [tightL, hkeep])
        have hcs : ((s[k].toNat : Int) == 9) = true ∨ ((s[k].toNat : Int) == 9) = false ∧ ((s[k].toNat : Int) == 10) = true ∨ ((s[k].toNat : Int) == 9) = false ∧ ((s[k].toNat : Int) == 10) = false ∧ ((s[k].toNat : Int) == 13) = true := by
          simp [tightC] at hkeep; simp; omega
        clear hx hkeep
        rcases hcs with h9 | ⟨h9, h10⟩ | ⟨h9, h10, h13⟩
        all_goals
          go_wp2_with fail
          go_roundw
          case rel => exact ⟨k + 1, n, by go_num, by go_num, by omega, by omega, hn1, hbel⟩
          case measure => simp [intOf]; omega
    · have hfin : ((n : Int) == (t.size : Int)) = true := beq_iff_eq.2 (by
        have := hn.out
        rw [take_all _ _ (by omega), ← ht.out, size_toList] at this
        omega)
      go_wp2_with fail
      refine (tight_any _ _ hsb').mono ?_
      rintro e w2 ⟨t1, rfl, h1, hb⟩
      replace hbel := hbel.next hb
      clear hb
      go_wp2_with fail
      refine (tight_any _ _ hb').mono ?_
      rintro e w3 ⟨t2, rfl, h2, hb⟩
      replace hbel := hbel.next hb
      clear hb
      have hl2 := tightL_len b.toList
      rw [← h2.out, size_toList, size_toList] at hl2
      have hq1 : t1.toList = (t ++ t2).toList := by rw [h1.out, toList_append, toList_append, tightL_append, ht.out, h2.out]
      clear h1
      go_wp2_with fail
      refine (tight_any _ _ hs').mono ?_
      rintro e w4 ⟨t3, rfl, h3, hb⟩
      replace hbel := hbel.next hb
      clear hb
      have hl3 := tightL_len s.toList
      rw [← h3.out, size_toList, size_toList] at hl3
      have hl3' : t3.size ≤ 1099511627776 := by omega
      clear hq1
      go_wp2_with fail
      refine (lower_any _ _ hl3').mono ?_
      rintro e w5 ⟨t4, rfl, h4, hb⟩
      replace hbel := hbel.next hb
      clear hb
      go_wp2_with fail
      refine (lower_any _ _ hs').mono ?_
      rintro e w6 ⟨t5, rfl, h5, hb⟩
      replace hbel := hbel.next hb
      clear hb
      have hl5 := lowerL_len s.toList
      rw [← h5.out, size_toList, size_toList] at hl5
      have hl5' : t5.size ≤ 1099511627776 := by omega
      have hl5 := Lib.hid hl5
      go_wp2_with fail
      refine (tight_any _ _ hl5').mono ?_
      rintro e w7 ⟨t6, rfl, h6, hb⟩
      replace hbel := hbel.next hb
      clear hb
      have hq2 : t4.toList = t6.toList := by rw [h4.out, h6.out, h3.out, h5.out, lower_tight]
      go_wp2_with fail
      refine (lower_any _ _ hs').mono ?_
      rintro e w8 ⟨t7, rfl, h7, hb⟩
      replace hbel := hbel.next hb
      clear hb
      have hl7 := lowerL_len s.toList
      rw [← h7.out, size_toList, size_toList] at hl7
      have hl7' : t7.size ≤ 1099511627776 := by omega
      have hl7 := Lib.hid hl7
      clear hq2
      go_wp2_with fail
      refine (lower_any _ _ hl7').mono ?_
      rintro e w9 ⟨t8, rfl, h8, hb⟩
      replace hbel := hbel.next hb
      clear hb
      go_wp2_with fail
      refine (lower_any _ _ hs').mono ?_
      rintro e w10 ⟨t9, rfl, h9, hb⟩
      replace hbel := hbel.next hb
      clear hb
      have hq3 : t8.toList = t9.toList := by rw [h8.out, h7.out, lower_idem, h9.out]
      go_wp2_with fail
      go_ret
      exact ⟨rfl, hbel⟩
end Go.Proofs.Ytcemneilhfjnhaa
