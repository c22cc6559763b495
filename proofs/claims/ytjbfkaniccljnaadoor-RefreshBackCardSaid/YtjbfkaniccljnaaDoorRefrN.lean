/- A refresh's text that begins with digits: no program in sight; the law RefreshNone, walked. -/
import Derived.Test.YtjbfkaniccljnaaDoorRefrL
import Derived.Test.YtjbfkaniccljnaaDoorRefText
namespace Go.Proofs.YtjbfkaniccljnaaDoor
open Go.RowKit
set_option linter.unusedVariables false
set_option linter.unusedSimpArgs false

theorem dec_dgt : ∀ (k n : Nat), n < k → ∀ c ∈ Lib.decDigits n, dgt c = true
  | 0, n, h => by omega
  | k + 1, n, h => by
    have hone : ∀ d : Fin 10, dgt (UInt8.ofNat (48 + d.val)) = true := by decide
    intro c hc
    by_cases h10 : n < 10
    · rw [Lib.decDigits_one h10] at hc
      obtain rfl := List.mem_singleton.1 hc
      exact hone ⟨n, h10⟩
    · rw [decDigits_big h10] at hc
      rcases List.mem_append.1 hc with hc | hc
      · exact dec_dgt k (n / 10) (by omega) c hc
      · obtain rfl := List.mem_singleton.1 hc
        exact hone ⟨n % 10, Nat.mod_lt _ (by decide)⟩
theorem dec_all (n : Nat) : ∀ c ∈ Lib.decDigits n, dgt c = true := dec_dgt (n + 1) n (Nat.lt_succ_self n)
theorem dec_ne (n : Nat) : Lib.decDigits n ≠ [] := by
  by_cases h10 : n < 10
  · rw [Lib.decDigits_one h10]; simp
  · rw [decDigits_big h10]; simp
theorem dgt_plain {c : UInt8} (h : dgt c = true) : isB c = false ∧ c ≠ 46 ∧ c ≠ 59 ∧ c ≠ 44 ∧ c ≠ 61 := by
  unfold dgt at h
  rw [Bool.and_eq_true, decide_eq_true_eq, decide_eq_true_eq] at h
  refine ⟨?_, ?_, ?_, ?_, ?_⟩
  · unfold isB blankZ
    simp only [Bool.or_eq_false_iff, beq_eq_false_iff_ne, ne_eq]
    omega
  all_goals (rintro rfl; revert h; decide)
/-- Digits, and no digit behind them. -/
theorem parse_digits {D r : List UInt8} (hD : D ≠ []) (hd : ∀ c ∈ D, dgt c = true) (hr : r.takeWhile dgt = []) : parseL (D ++ r) = tailP D (r.dropWhile dotD) := by
  have hb : blanksL (D ++ r) = D ++ r := by
    cases D with
    | nil => exact absurd rfl hD
    | cons c t =>
      unfold blanksL
      rw [List.cons_append, List.dropWhile_cons, if_neg (by rw [(dgt_plain (hd c (List.mem_cons_self ..))).1]; decide)]
  have ht : (D ++ r).takeWhile dgt = D := by rw [List.takeWhile_append_of_pos hd, hr, List.append_nil]
  have hrr : r.dropWhile dgt = r := by
    have := List.takeWhile_append_dropWhile (p := dgt) (l := r)
    rw [hr] at this; exact this
  unfold parseL parseQ
  rw [hb, ht, if_neg (fun h => hD h.1), List.dropWhile_append_of_pos hd, hrr]
theorem tail_some {D r : List UInt8} {c : UInt8} : (tailP D (c :: r)).isSome = gapC c := by
  unfold tailP
  dsimp only
  split
  · rename_i h; rw [h]; rfl
  · rename_i h
    have hg : gapC c = true := by simpa using h
    rw [hg]
    split <;> rfl
theorem none_a {c : UInt8} {s : List UInt8} (h1 : dgt c = false) (h2 : c ≠ 46) (h3 : isB c = false) : (parseL (c :: s)).isSome = false := by
  have hb : blanksL (c :: s) = c :: s := by unfold blanksL; rw [List.dropWhile_cons, if_neg (by rw [h3]; decide)]
  unfold parseL parseQ
  rw [hb, if_pos ⟨by rw [List.takeWhile_cons, if_neg (by rw [h1]; decide)], fun h => h2 (Option.some.inj h)⟩]
  rfl
theorem none_b {c : UInt8} {s : List UInt8} (n : Nat) (h1 : dgt c = false) (h2 : c ≠ 46) : (parseL (Lib.decDigits n ++ c :: s)).isSome = gapC c := by
  rw [parse_digits (dec_ne n) (dec_all n) (by rw [List.takeWhile_cons, if_neg (by rw [h1]; decide)])]
  rw [List.dropWhile_cons, if_neg (by unfold dotD; rw [h1]; simpa using h2), tail_some]
/-- What a sign is. -/
theorem sign_cases (c : UInt8) : (dgt c = true ∧ 0 ≤ digitZ (c.toNat : Int) 10 ∧ blankZ (c.toNat : Int) = false ∧ ((c.toNat : Int) == 59) = false ∧ ((c.toNat : Int) == 44) = false) ∨ c = 46 ∨ c = 59 ∨ c = 44 ∨
    (dgt c = false ∧ c ≠ 46 ∧ digitZ (c.toNat : Int) 10 < 0 ∧ ((c.toNat : Int) == 46) = false ∧ ((c.toNat : Int) == 59) = false ∧ ((c.toNat : Int) == 44) = false ∧ gapC c = blankZ (c.toNat : Int)) := by
  cases hd : dgt c
  · by_cases h1 : c = 46; · exact .inr (.inl h1)
    by_cases h2 : c = 59; · exact .inr (.inr (.inl h2))
    by_cases h3 : c = 44; · exact .inr (.inr (.inr (.inl h3)))
    exact .inr (.inr (.inr (.inr ⟨rfl, h1, (digitZ_dgt c).2 hd, (u8_no (d := 46) h1).1, (u8_no (d := 59) h2).1, (u8_no (d := 44) h3).1, by show (isB c || c == 59 || c == 44) = isB c; rw [beq_false_of_ne h2, beq_false_of_ne h3, Bool.or_false, Bool.or_false]⟩)))
  · have hp := dgt_plain hd
    refine .inl ⟨rfl, ?_, hp.1, (u8_no (d := 59) hp.2.2.1).1, (u8_no (d := 44) hp.2.2.2.1).1⟩
    by_cases h : digitZ (c.toNat : Int) 10 < 0
    · rw [(digitZ_dgt c).1 h] at hd; cases hd
    · omega
set_option maxRecDepth 100000 in
set_option maxHeartbeats 2000000 in
theorem refreshNone_in (n : Nat) (c : UInt8) (s : ByteArray) (w : World) (hm : ML w) (hn : n < 9223372036854775808) (hs : s.size ≤ 300) :
    Calls Tryd.prog 3 #[.int .i64 (n : Int), .int .u8 (c.toNat : Int), .string s] w (RetB w true) := by
  have hB : Below w.heap.size w w := Below.refl _ _
  have hsI : (s.size : Int) ≤ 300 := by omega
  obtain ⟨x, hx, hxz, hcv⟩ := conv_at (P := Tryd.prog) (S := 9) Tryd.underlying23 Tryd.underlying5 Tryd.underlying9 c
  have hxs : (x ++ s).toList = c :: s.toList := by rw [toList_append, hx.out]; rfl
  obtain ⟨a, ha⟩ : ∃ a, (parseL (c :: s.toList)).isSome = a := ⟨_, rfl⟩
  obtain ⟨b, hb⟩ : ∃ b, (parseL (Lib.decDigits n ++ c :: s.toList)).isSome = b := ⟨_, rfl⟩
  have pa := Lib.hid (fun w hm => parse_b (x ++ s) a w (by rw [ByteArray.size_append]; omega) hm (by rw [hxs]; exact ha))
  have htx := Lib.hid (fun w => text13_pos (n + 1) n w (Nat.lt_succ_self n) hn)
  have hDz : (Lib.decDigits n).length ≤ 19 := decDigits_le 18 n (Nat.lt_of_lt_of_le hn (by decide))
  have e1 : ¬ (9223372036854775807 < x.size + s.size) := by omega
  have hFa : Hid (dgt c = false → c ≠ 46 → isB c = false → a = false) := Lib.hid (fun h1 h2 h3 => by rw [← ha]; exact none_a h1 h2 h3)
  have hFb : Hid (dgt c = false → c ≠ 46 → b = gapC c) := Lib.hid (fun h1 h2 => by rw [← hb]; exact none_b n h1 h2)
  have hcs := Lib.hid (sign_cases c)
  replace ha := Lib.hid ha
  replace hxs := Lib.hid hxs
  go_enter Tryd.func3, Tryd.ntmps3
  go_wp2_with fail
  refine (small21_any _ hm).mono ?_
  rintro e w1 ⟨rfl, hb⟩
  replace hB := hB.next hb
  clear hb
  go_wp2_with fail
  refine (pa.out _ (hm.next (hB.alloc hB.size _))).mono ?_
  rintro e w2 ⟨d1, u1, h1, rfl, hb⟩
  replace hB := (hB.alloc hB.size _).next hb
  clear hb
  go_wp2_with fail
  refine (htx.out _).mono ?_
  rintro e w3 ⟨t, rfl, ht, hb⟩
  replace hB := (hB.alloc hB.size _).next hb
  clear hb
  have htz : t.size ≤ 19 := by rw [← size_toList, ht.out]; exact hDz
  have e2 : ¬ (9223372036854775807 < t.size + x.size) := by omega
  have e3 : ¬ (9223372036854775807 < t.size + x.size + s.size) := by omega
  have pb := Lib.hid (fun w hm => parse_b (t ++ x ++ s) b w (by rw [ByteArray.size_append, ByteArray.size_append]; omega) hm (by rw [toList_append, toList_append, ht.out, hx.out, List.append_assoc]; exact hb))
  replace hb := Lib.hid hb
  go_wp2_with fail
  refine (pb.out _ (hm.next hB)).mono ?_
  rintro e w4 ⟨d2, u2, h2, rfl, hb4⟩
  replace hB := hB.next hb4
  clear hb4
  rcases hcs.out with ⟨g1, g2, g3, g4, g5⟩ | rfl | rfl | rfl | ⟨g1, g2, g3, g4, g5, g6, g7⟩
  · replace g1 := Lib.hid g1
    go_wp2_with (first
      | (go_at_call 9; refine (digit_any _ _ _ (byte_nn _) (byte_le _)).mono ?_; rintro e w' ⟨rfl, rfl⟩)
      | (go_at_call 10; refine (blank_any _ _).mono ?_; rintro e w' ⟨rfl, rfl⟩))
    go_ret
    exact ⟨rfl, hB.alloc hB.size _⟩
  · have qd : Hid (∀ w, Calls Tryd.prog 9 #[.int .u8 46, .int .i64 10] w fun e w' => e = .returned (.int .i64 (-1)) ∧ w = w') := Lib.hid (fun w => digit_any 46 10 w (by decide) (by decide))
    have qb : Hid (∀ w, Calls Tryd.prog 10 #[.int .u8 46] w fun e w' => e = .returned (.bool false) ∧ w = w') := Lib.hid (fun w => blank_any 46 w)
    go_wp2_with (first
      | (go_at_call 9; refine (qd.out _).mono ?_; rintro e w' ⟨rfl, rfl⟩)
      | (go_at_call 10; refine (qb.out _).mono ?_; rintro e w' ⟨rfl, rfl⟩))
    go_ret
    exact ⟨rfl, hB.alloc hB.size _⟩
  · obtain rfl := hFa.out (by decide) (by decide) (by decide)
    obtain rfl : b = true := hFb.out (by decide) (by decide)
    have qd : Hid (∀ w, Calls Tryd.prog 9 #[.int .u8 59, .int .i64 10] w fun e w' => e = .returned (.int .i64 (-1)) ∧ w = w') := Lib.hid (fun w => digit_any 59 10 w (by decide) (by decide))
    have qb : Hid (∀ w, Calls Tryd.prog 10 #[.int .u8 59] w fun e w' => e = .returned (.bool false) ∧ w = w') := Lib.hid (fun w => blank_any 59 w)
    go_wp2_with (first
      | (go_at_call 9; refine (qd.out _).mono ?_; rintro e w' ⟨rfl, rfl⟩)
      | (go_at_call 10; refine (qb.out _).mono ?_; rintro e w' ⟨rfl, rfl⟩))
    go_ret
    exact ⟨rfl, hB.alloc hB.size _⟩
  · obtain rfl := hFa.out (by decide) (by decide) (by decide)
    obtain rfl : b = true := hFb.out (by decide) (by decide)
    have qd : Hid (∀ w, Calls Tryd.prog 9 #[.int .u8 44, .int .i64 10] w fun e w' => e = .returned (.int .i64 (-1)) ∧ w = w') := Lib.hid (fun w => digit_any 44 10 w (by decide) (by decide))
    have qb : Hid (∀ w, Calls Tryd.prog 10 #[.int .u8 44] w fun e w' => e = .returned (.bool false) ∧ w = w') := Lib.hid (fun w => blank_any 44 w)
    go_wp2_with (first
      | (go_at_call 9; refine (qd.out _).mono ?_; rintro e w' ⟨rfl, rfl⟩)
      | (go_at_call 10; refine (qb.out _).mono ?_; rintro e w' ⟨rfl, rfl⟩))
    go_ret
    exact ⟨rfl, hB.alloc hB.size _⟩
  · have hFb2 := Lib.hid ((hFb.out g1 g2).trans g7)
    cases hbz : blankZ (c.toNat : Int)
    · obtain rfl := hFa.out g1 g2 hbz
      obtain rfl : b = false := hFb2.out.trans hbz
      replace g1 := Lib.hid g1
      replace g2 := Lib.hid g2
      replace g7 := Lib.hid g7
      go_wp2_with (first
        | (go_at_call 9; refine (digit_any _ _ _ (byte_nn _) (byte_le _)).mono ?_; rintro e w' ⟨rfl, rfl⟩)
        | (go_at_call 10; refine (blank_any _ _).mono ?_; rintro e w' ⟨rfl, rfl⟩))
      go_ret
      exact ⟨rfl, hB.alloc hB.size _⟩
    · obtain rfl : b = true := hFb2.out.trans hbz
      replace g1 := Lib.hid g1
      replace g2 := Lib.hid g2
      replace g7 := Lib.hid g7
      go_wp2_with (first
        | (go_at_call 9; refine (digit_any _ _ _ (byte_nn _) (byte_le _)).mono ?_; rintro e w' ⟨rfl, rfl⟩)
        | (go_at_call 10; refine (blank_any _ _).mono ?_; rintro e w' ⟨rfl, rfl⟩))
      go_ret
      exact ⟨rfl, hB.alloc hB.size _⟩
set_option maxRecDepth 100000 in
set_option maxHeartbeats 2000000 in
theorem refreshNone_walk (n c : Int) (s : ByteArray) (w : World) (wn : (Lit.int .i64 n).wf = true) (wc : (Lit.int .u8 c).wf = true) (ws : s.size ≤ maxLen) (hm : ML w) :
    Calls Tryd.prog 3 #[.int .i64 n, .int .u8 c, .string s] w (RetB w true) := by
  have hB : Below w.heap.size w w := Below.refl _ _
  have hbn := bounds_i64 wn
  have hbc := bounds_u8 wc
  by_cases h1 : n < 0
  · go_enter Tryd.func3, Tryd.ntmps3
    go_wp2_with fail
    refine (small21_any _ hm).mono ?_
    rintro e w1 ⟨rfl, hb⟩
    replace hB := hB.next hb
    clear hb
    go_wp2_with fail
    go_ret
    exact ⟨rfl, hB⟩
  by_cases h2 : 300 < s.size
  · have h2I : (300 : Int) < (s.size : Int) := by omega
    go_enter Tryd.func3, Tryd.ntmps3
    go_wp2_with fail
    refine (small21_any _ hm).mono ?_
    rintro e w1 ⟨rfl, hb⟩
    replace hB := hB.next hb
    clear hb
    go_wp2_with fail
    go_ret
    exact ⟨rfl, hB⟩
  obtain ⟨a, rfl⟩ : ∃ a : Nat, n = (a : Int) := ⟨n.toNat, by omega⟩
  obtain ⟨b, rfl⟩ : ∃ b : UInt8, c = (b.toNat : Int) := ⟨UInt8.ofNat c.toNat, by rw [UInt8.toNat_ofNat_of_lt' (by show c.toNat < 256; omega)]; omega⟩
  exact refreshNone_in a b s w hm (by omega) (by omega)
end Go.Proofs.YtjbfkaniccljnaaDoor
