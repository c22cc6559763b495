/- The walk of the law AsciiWords. -/
import Derived.Test.YtcemneilhfjnhaaSmall01
import Derived.Test.YtcemneilhfjnhaaWordsPlain
namespace Go.Proofs.Ytcemneilhfjnhaa
open Go.RowKit
set_option linter.unusedVariables false

set_option maxHeartbeats 2000000 in
theorem asciiWords_walk (s b : ByteArray) (ci : Int) (w : World) (ws : s.size ≤ maxLen) (wb : b.size ≤ maxLen) (wc : (Lit.int .u8 ci).wf = true) :
    Calls Try.prog 7 #[.string s, .string b, .int .u8 ci] w (RetB w true) := by
  have hB : Below w.heap.size w w := Below.refl _ _
  obtain ⟨c, rfl⟩ : ∃ c : UInt8, ci = (c.toNat : Int) := ⟨UInt8.ofNat ci.toNat, by have := bounds_u8 wc; simp; omega⟩
  clear wc
  unfold maxLen at ws wb
  by_cases hs : 500 < s.size
  · have z : (500 : Int) < (s.size : Int) := by omega
    go_enter Try.func7, Try.ntmps7
    go_wp2_with (go_at_call 9; refine (small01_any _).mono ?_; rintro e w' ⟨rfl, hb⟩)
    go_ret
    exact ⟨rfl, by assumption⟩
  have z : (s.size : Int) ≤ (500 : Int) := by omega
  by_cases hs2 : 500 < b.size
  · have z2 : (500 : Int) < (b.size : Int) := by omega
    go_enter Try.func7, Try.ntmps7
    go_wp2_with (go_at_call 9; refine (small01_any _).mono ?_; rintro e w' ⟨rfl, hb⟩)
    go_ret
    exact ⟨rfl, by assumption⟩
  have z2 : (b.size : Int) ≤ (500 : Int) := by omega
  cases hbl : blankZ (c.toNat : Int)
  · go_enter Try.func7, Try.ntmps7
    go_wp2_with (first
      | (go_at_call 9; refine (small01_any _).mono ?_; rintro e w' ⟨rfl, hb⟩)
      | (go_at_call 10; refine (blank_any _ _).mono ?_; rintro e w' ⟨rfl, rfl⟩))
    go_ret
    exact ⟨rfl, by assumption⟩
  have hs' : s.size ≤ 1099511627776 := by omega
  have hb' : b.size ≤ 1099511627776 := by omega
  obtain ⟨sep, hsep, hsep1, hcv⟩ := conv_one (P := Try.prog) (S := 9) Try.underlying32 Try.underlying5 Try.underlying9 c
  have hcat : (sep ++ s ++ sep ++ sep ++ b ++ sep).size ≤ 1099511627776 := by simp only [ByteArray.size_append]; omega
  have Hbl := Lib.hid hbl
  go_enter Try.func7, Try.ntmps7
  go_wp2_with (first
    | (go_at_call 9; refine (small01_any _).mono ?_; rintro e w1 ⟨rfl, hb⟩; replace hB := hB.next hb; clear hb)
    | (go_at_call 10; refine (blank_any _ _).mono ?_; rintro e w' ⟨rfl, rfl⟩))
  refine (words_any _ _ hs').mono ?_
  rintro e w1 ⟨v1, l1, rfl, hv1, ho1, hb⟩
  replace hB := hB.next hb
  clear hb
  go_wp2_with fail
  refine (words_any _ _ hb').mono ?_
  rintro e w2 ⟨v2, l2, rfl, hv2, ho2, hb⟩
  replace hB := hB.next hb
  replace ho1 := ho1.below hb (Nat.le_refl _)
  clear hb
  go_wp2_with fail
  refine (words_any _ _ hcat).mono ?_
  rintro e w3 ⟨v3, l3, rfl, hv3, ho3, hb⟩
  replace hB := (hB.alloc hB.size _).next hb
  replace ho1 := (ho1.alloc _).below hb (Nat.le_refl _)
  replace ho2 := (ho2.alloc _).below hb (Nat.le_refl _)
  clear hb hcv
  have hcount := wordsL_count s.toList
  have hcat2 := wordsL_sep Hbl.out s.toList b.toList
  rw [← hv1.out, ← sizesB_eq, size_toList] at hcount
  have hall : Hid (sameB l3 (l1 ++ l2) = true) := Lib.hid (by
    have : l3.map (·.toList) = (l1 ++ l2).map (·.toList) := by
      rw [hv3.out]; simp only [toList_append, hsep.out, hcat2, List.map_append, hv1.out, hv2.out]
    simp [sameB, this])
  have hlen3 : l1.length + l2.length ≤ 1099511627776 := by
    have h1 := congrArg List.length hv1.out
    have h2 := congrArg List.length hv2.out
    have h3 := wordsL_len s.toList
    have h4 := wordsL_len b.toList
    rw [List.length_map] at h1 h2
    rw [size_toList] at h3 h4
    omega
  clear hv2 hv3 hsep hcat2
  have hcount := Lib.hid hcount
  obtain ⟨a1, c1, rfl, hc1⟩ := ho1.read
  go_wp2_with fail
  go_loopw [12, 13] (fun nv iv wr => ∃ k n : Nat, iv = .int .i64 k ∧ nv = .int .i64 n ∧ k ≤ l1.length ∧ n ≤ 500 ∧ Hid (n = sizesB (l1.take k)) ∧ Below w3.heap.size w3 wr) (fun _ i _ => l1.length - (intOf i).toNat)
  case atStart => exact ⟨0, 0, rfl, rfl, Nat.zero_le _, Nat.zero_le _, rfl, Below.refl _ _⟩
  case round =>
    obtain ⟨k, n, rfl, rfl, hk, hn5, hn, hbel⟩ := hrel
    have hl1 := ho1.le
    unfold maxLen at hl1
    by_cases hlt : k < l1.length
    · obtain ⟨g, o, rfl, hcell⟩ := hc1 (by omega)
      have x1 := hcell k hlt
      have b1 := World.block_lt_of_cell? w3 _ x1
      have y1 : wr.cell? ⟨g, o + k, none⟩ = some (.string l1[k]) := (hbel.cell (by simpa using b1)).trans x1
      have hok : WordOk l1[k].toList := wordsL_ok s.toList _ (by rw [← hv1.out]; exact List.mem_map.2 ⟨_, List.getElem_mem hlt, rfl⟩)
      have hpos : 0 < l1[k].size := by
        rcases Nat.eq_zero_or_pos l1[k].size with h | h
        · exact absurd ((toList_empty_iff _).2 h) hok.1
        · exact h
      have hn1 := Lib.hid ((sizesB_take hlt).trans (by rw [← hn.out]))
      have hle : n + l1[k].size ≤ 500 := by
        have := sizesB_le (l := l1) (k + 1)
        have h2 := hn1.out
        have h3 := hcount.out
        omega
      have hwl := Lib.hid (wordsL_word hok)
      have he0 : ((l1[k].size : Int) == 0) = false := beq_eq_false_iff_ne.2 (by omega)
      have hz1 : l1[k].size ≤ 1099511627776 := by omega
      have hi1 : (k : Int) < (l1.length : Int) := by omega
      clear hc1 hcell x1 b1 hok
      go_wp2_with fail
      refine (words_any _ _ hz1).mono ?_
      rintro e w4 ⟨v4, l4, rfl, hv4, ho4, hb⟩
      replace hbel := hbel.next hb
      clear hb
      obtain ⟨a4, c4, rfl, _⟩ := ho4.read
      have he4 : ((l4.length : Int) != 1) = false := by
        have := congrArg List.length (hv4.out.trans hwl.out)
        simp at this; simp [this]
      go_wp2_with fail
      go_roundw
      case rel => exact ⟨k + 1, n + l1[k].size, by go_num, by go_num, by omega, by omega, Lib.hid hn1.out.symm, hbel⟩
      case measure => simp [intOf]; omega
    · have hn1 : n = sizesB l1 := by rw [hn.out, List.take_of_length_le (by omega)]
      obtain ⟨n0, hn0⟩ : ∃ n0, n0 = n := ⟨n, rfl⟩
      have hn1 := Lib.hid (hn0.trans hn1)
      clear hn
      have hn0 := Lib.hid hn0
      go_wp2_with fail
      go_loop [12, 14] (fun nv iv => ∃ k n : Nat, iv = .int .i64 k ∧ nv = .int .i64 n ∧ k ≤ s.size ∧ n ≤ 500 + k ∧ Hid (n = n0 + blanksL (s.toList.take k))) (fun _ i => s.size - (intOf i).toNat)
      case atStart => exact ⟨0, n, rfl, rfl, Nat.zero_le _, by omega, Lib.hid (by rw [hn0.out]; simp [blanksL])⟩
      case round =>
        obtain ⟨j, m, rfl, rfl, hj, hm5, hm⟩ := hrel
        by_cases hjl : j < s.size
        · have hsn := Lib.hid (take_snoc s j hjl)
          cases hq : blankZ (s[j].toNat : Int)
          · go_wp2_with (go_at_call 10; refine (blank_any _ _).mono ?_; rintro e w' ⟨rfl, rfl⟩)
            go_round
            case rel => exact ⟨j + 1, m, by go_num, by go_num, by omega, by omega, Lib.hid (by rw [hsn.out, blanks_snoc, hq, hm.out]; simp)⟩
            case measure => simp [intOf]; omega
          · go_wp2_with (go_at_call 10; refine (blank_any _ _).mono ?_; rintro e w' ⟨rfl, rfl⟩)
            go_round
            case rel => exact ⟨j + 1, m + 1, by go_num, by go_num, by omega, by omega, Lib.hid (by rw [hsn.out, blanks_snoc, hq, hm.out]; simp; omega)⟩
            case measure => simp [intOf]; omega
        · have he : ((m : Int) == (s.size : Int)) = true := beq_iff_eq.2 (by
            have := hm.out
            rw [take_all _ _ (by omega), hn1.out] at this
            have := hcount.out
            omega)
          replace ho1 := ho1.below hbel (Nat.le_refl _)
          replace ho2 := ho2.below hbel (Nat.le_refl _)
          replace ho3 := ho3.below hbel (Nat.le_refl _)
          replace hB := hB.next hbel
          clear hc1 hbel hcount hn1 hn0 hm
          go_wp2_with (first
            | (at_builtin; refine wpList_unguard (by rfl) ?_; refine wpList_extendS tyS rfl _ _ rfl rfl rfl (OwnS.made (P := Try.prog) _ _) (ho1.alloc _) ((Below.refl _ _).alloc (Nat.le_refl _) _) (by simp) (by unfold maxLen; simp only [List.length_nil]; omega) (by simp only [List.length_nil]; omega) ?_; intro v5 w5 ho5 hb5; clear ho1; replace ho2 := ho2.below hb5 (Nat.le_refl _))
            | (at_builtin; refine wpList_unguard (by rfl) ?_; refine wpList_extendS tyS rfl _ _ rfl rfl rfl ho5 ho2 hb5 hb5.size (by unfold maxLen; simp only [List.nil_append]; omega) (by simp only [List.nil_append]; omega) ?_; intro v6 w6 ho6 hb6; replace ho3 := ho3.below hb6 (Nat.le_refl _)))
          refine (same_any _ _ l3 (l1 ++ l2) _ ho3.read ho6.read ho3.le ho6.le).mono ?_
          rintro e w7 ⟨rfl, hb⟩
          rw [hall.out]
          go_wp2
          go_ret
          exact ⟨rfl, (hB.next hb6).next hb⟩
end Go.Proofs.Ytcemneilhfjnhaa
