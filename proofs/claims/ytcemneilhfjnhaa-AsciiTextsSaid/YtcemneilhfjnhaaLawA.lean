/- The walks of the laws AsciiClasses, AsciiTexts and AsciiDigits. -/
import Derived.Test.YtcemneilhfjnhaaSmall01
import Derived.OpenShut
namespace Go.Proofs.Ytcemneilhfjnhaa
open Go.RowKit
set_option linter.unusedVariables false

theorem u8_bd {c : Int} (h : (Lit.int .u8 c).wf = true) : 0 ≤ c ∧ c ≤ 255 := by
  have := bounds_u8 h; omega

set_option maxHeartbeats 400000 in
theorem asciiClasses_walk (c b : Int) (w : World) (wc : (Lit.int .u8 c).wf = true) (wb : (Lit.int .i64 b).wf = true) :
    Calls Try.prog 3 #[.int .u8 c, .int .i64 b] w (RetB w true) := by
  obtain ⟨h0, h1⟩ := u8_bd wc
  go_enter Try.func3, Try.ntmps3
  go_wp2_with (first
    | (go_at_call 9; refine (small01_any _).mono ?_; rintro e w' ⟨rfl, hb⟩)
    | (go_at_call 10; refine (blank_any _ _).mono ?_; rintro e w' ⟨rfl, rfl⟩)
    | (go_at_call 11; refine (blankr_any _ _).mono ?_; rintro e w' ⟨rfl, rfl⟩)
    | (go_at_call 12; refine (letter_any _ _).mono ?_; rintro e w' ⟨rfl, rfl⟩)
    | (go_at_call 13; refine (letterr_any _ _).mono ?_; rintro e w' ⟨rfl, rfl⟩)
    | (go_at_call 14; refine (digit_any _ _ _ h0 h1).mono ?_; rintro e w' ⟨rfl, rfl⟩)
    | (go_at_call 15; refine (digitr_any _ _ _ h0 h1).mono ?_; rintro e w' ⟨rfl, rfl⟩))
  go_ret
  exact ⟨rfl, by assumption⟩

theorem digitZ_lo (c a : Int) : -1 ≤ digitZ c a := by unfold digitZ worthZ; omega
theorem digitZ_hi (c a : Int) : digitZ c a < 36 := by unfold digitZ worthZ; omega

set_option maxHeartbeats 1000000 in
theorem asciiTexts_walk (s : ByteArray) (w : World) (ws : s.size ≤ maxLen) :
    Calls Try.prog 4 #[.string s] w (RetB w true) := by
  have hB : Below w.heap.size w w := Below.refl _ _
  unfold maxLen at ws
  by_cases hs : 1000 < s.size
  · have z : (1000 : Int) < (s.size : Int) := by omega
    go_enter Try.func4, Try.ntmps4
    go_wp2_with (go_at_call 9; refine (small01_any _).mono ?_; rintro e w' ⟨rfl, hb⟩)
    go_ret
    exact ⟨rfl, by assumption⟩
  · have z : (s.size : Int) ≤ (1000 : Int) := by omega
    have hs' : s.size ≤ 1099511627776 := by omega
    go_enter Try.func4, Try.ntmps4
    go_wp2_with (first
      | (go_at_call 9; refine (small01_any _).mono ?_; rintro e w1 ⟨rfl, hb⟩; replace hB := hB.next hb; clear hb)
      | (go_at_call 16; refine (lower_any _ _ hs').mono ?_; rintro e w1 ⟨t1, rfl, ht1, hb⟩; replace hB := hB.next hb; clear hb)
      | (go_at_call 17; refine (lowerr_any _ _ hs').mono ?_; rintro e w1 ⟨t2, rfl, ht2, hb⟩; replace hB := hB.next hb; have hq := ht2.out.trans ht1.out.symm; clear hb ht1 ht2)
      | (go_at_call 18; refine (trim_any _ _ hs').mono ?_; rintro e w1 ⟨t1, rfl, ht1, hb⟩; replace hB := hB.next hb; clear hb)
      | (go_at_call 19; refine (trimr_any _ _ hs').mono ?_; rintro e w1 ⟨t2, rfl, ht2, hb⟩; replace hB := hB.next hb; have hq := ht2.out.trans ht1.out.symm; clear hb ht1 ht2)
      | (go_at_call 20; refine (strip_any _ _ hs').mono ?_; rintro e w1 ⟨t1, rfl, ht1, hb⟩; replace hB := hB.next hb; clear hb)
      | (go_at_call 21; refine (stripr_any _ _ hs').mono ?_; rintro e w1 ⟨t2, rfl, ht2, hb⟩; replace hB := hB.next hb; have hq := ht2.out.trans ht1.out.symm; clear hb ht1 ht2)
      | (go_at_call 22; refine (tight_any _ _ hs').mono ?_; rintro e w1 ⟨t1, rfl, ht1, hb⟩; replace hB := hB.next hb; clear hb)
      | (go_at_call 23; refine (tightr_any _ _ hs').mono ?_; rintro e w1 ⟨t2, rfl, ht2, hb⟩; replace hB := hB.next hb; have hq := ht2.out.trans ht1.out.symm; clear hb ht1 ht2)
      | (go_at_call 25; refine (words_any _ _ hs').mono ?_; rintro e w1 ⟨v1, l1, rfl, hv1, ho1, hb⟩; replace hB := hB.next hb; clear hb)
      | (go_at_call 26; refine (wordsr_any _ _ hs').mono ?_; rintro e w1 ⟨v2, l2, rfl, hv2, ho2, hb⟩; replace hB := hB.next hb; replace ho1 := ho1.below hb (Nat.le_refl _); clear hb))
    refine (same_any _ _ l1 l2 _ ho1.read ho2.read ho1.le ho2.le).mono ?_
    rintro e w3 ⟨rfl, hb⟩
    have hsame : sameB l1 l2 = true := by simp [sameB, hv1.out, hv2.out]
    rw [hsame]
    clear hsame hv1 hv2
    go_wp2
    go_ret
    exact ⟨rfl, hB.next hb⟩

theorem flip_all : ∀ n : Fin 256, letterZ ((n.val : Nat) : Int) = true → worthZ (bits BinOp.xor IntKind.u8 ((n.val : Nat) : Int) 32) = worthZ ((n.val : Nat) : Int) ∧ letterZ (bits BinOp.xor IntKind.u8 ((n.val : Nat) : Int) 32) = true ∧
    0 ≤ bits BinOp.xor IntKind.u8 ((n.val : Nat) : Int) 32 ∧ bits BinOp.xor IntKind.u8 ((n.val : Nat) : Int) 32 ≤ 255 := by decide +kernel
theorem flip_at {c : Int} (h0 : 0 ≤ c) (h1 : c ≤ 255) (h : letterZ c = true) (a : Int) : digitZ (bits BinOp.xor IntKind.u8 c 32) a = digitZ c a ∧ letterZ (bits BinOp.xor IntKind.u8 c 32) = true ∧
    0 ≤ bits BinOp.xor IntKind.u8 c 32 ∧ bits BinOp.xor IntKind.u8 c 32 ≤ 255 := by
  obtain ⟨n, rfl⟩ := Int.eq_ofNat_of_zero_le h0
  have := flip_all ⟨n, by omega⟩ h
  exact ⟨by unfold digitZ; rw [this.1], this.2⟩
theorem digit_letter (c a : Int) (h : letterZ c = false) : digitZ c a < 10 := by
  simp [letterZ] at h; unfold digitZ worthZ; omega
theorem digit_noletter (c a : Int) (h : letterZ c = true) : digitZ c a < 0 ∨ 10 ≤ digitZ c a := by
  simp [letterZ] at h; unfold digitZ worthZ; omega
theorem digit_more (c a b : Int) (h : a ≤ b) (h0 : 0 ≤ digitZ c a) : digitZ c b = digitZ c a := by
  unfold digitZ at h0 ⊢; omega
theorem digit_less (c a : Int) (h0 : 0 ≤ digitZ c a) : digitZ c a < a := by
  unfold digitZ at h0 ⊢; omega

set_option maxHeartbeats 2000000 in
theorem asciiDigits_walk (c a b : Int) (w : World) (wc : (Lit.int .u8 c).wf = true) (wa : (Lit.int .i64 a).wf = true) (wb : (Lit.int .i64 b).wf = true) :
    Calls Try.prog 5 #[.int .u8 c, .int .i64 a, .int .i64 b] w (RetB w true) := by
  obtain ⟨h0, h1⟩ := u8_bd wc
  clear wc wa wb
  have q1 := digitZ_lo c a
  have q2 := digitZ_hi c a
  have D1 := fun w => digit_any c a w h0 h1
  have D2 := fun w => digit_any c b w h0 h1
  have hdl := digit_less c a
  have hdm := digit_more c a b
  have hfl := fun h => flip_at h0 h1 h a
  have hl1 := digit_letter c a
  have hl2 := digit_noletter c a
  generalize digitZ c a = m at *
  generalize digitZ c b = n at *
  have D1 := Lib.hid D1
  have D2 := Lib.hid D2
  cases hL : letterZ c
  · replace hl1 := hl1 hL
    clear hl2 hfl
    have hX : Hid True := trivial
    rcases (show m < 0 ∨ 0 ≤ m by omega) with hm | hm
    · clear hdl hdm
      rcases (show a ≤ b ∨ b < a by omega) with hab | hab
      all_goals
        go_enter Try.func5, Try.ntmps5
        go_wp2_with (first
          | (go_at_call 9; refine (small01_any _).mono ?_; rintro e w' ⟨rfl, hb⟩))
        refine (D1.out _).mono ?_; rintro e w2 ⟨rfl, rfl⟩
        go_wp2_with fail
        refine (D2.out _).mono ?_; rintro e w2 ⟨rfl, rfl⟩
        go_wp2_with (first
          | (go_at_call 12; refine (letter_any _ _).mono ?_; rintro e w' ⟨rfl, rfl⟩)
          | (go_at_call 14; refine (hX.out _).mono ?_; rintro e w' ⟨rfl, rfl⟩))
        go_ret
        exact ⟨rfl, by assumption⟩
    · replace hdl := hdl hm
      rcases (show a ≤ b ∨ b < a by omega) with hab | hab
      case' inl => obtain rfl := hdm hab hm
      case' inr => clear hdm
      all_goals
        go_enter Try.func5, Try.ntmps5
        go_wp2_with (first
          | (go_at_call 9; refine (small01_any _).mono ?_; rintro e w' ⟨rfl, hb⟩))
        refine (D1.out _).mono ?_; rintro e w2 ⟨rfl, rfl⟩
        go_wp2_with fail
        refine (D2.out _).mono ?_; rintro e w2 ⟨rfl, rfl⟩
        go_wp2_with (first
          | (go_at_call 12; refine (letter_any _ _).mono ?_; rintro e w' ⟨rfl, rfl⟩)
          | (go_at_call 14; refine (hX.out _).mono ?_; rintro e w' ⟨rfl, rfl⟩))
        go_ret
        exact ⟨rfl, by assumption⟩
  · replace hl2 := hl2 hL
    obtain ⟨x1, x2, x3, x4⟩ := hfl hL
    have hX0 := fun w => digit_any (bits BinOp.xor IntKind.u8 c 32) a w x3 x4
    rw [x1] at hX0
    have hX := Lib.hid hX0
    clear hX0 x1 x3 x4 hfl hl1
    rcases hl2 with hm | hm
    · clear hdl hdm
      rcases (show a ≤ b ∨ b < a by omega) with hab | hab
      all_goals
        go_enter Try.func5, Try.ntmps5
        go_wp2_with (first
          | (go_at_call 9; refine (small01_any _).mono ?_; rintro e w' ⟨rfl, hb⟩))
        refine (D1.out _).mono ?_; rintro e w2 ⟨rfl, rfl⟩
        go_wp2_with fail
        refine (D2.out _).mono ?_; rintro e w2 ⟨rfl, rfl⟩
        go_wp2_with (first
          | (go_at_call 12; refine (letter_any _ _).mono ?_; rintro e w' ⟨rfl, rfl⟩)
          | (go_at_call 14; refine (hX.out _).mono ?_; rintro e w' ⟨rfl, rfl⟩))
        go_ret
        exact ⟨rfl, by assumption⟩
    · replace hdl := hdl (by omega)
      rcases (show a ≤ b ∨ b < a by omega) with hab | hab
      case' inl => obtain rfl := hdm hab (by omega)
      case' inr => clear hdm
      all_goals
        go_enter Try.func5, Try.ntmps5
        go_wp2_with (first
          | (go_at_call 9; refine (small01_any _).mono ?_; rintro e w' ⟨rfl, hb⟩))
        refine (D1.out _).mono ?_; rintro e w2 ⟨rfl, rfl⟩
        go_wp2_with fail
        refine (D2.out _).mono ?_; rintro e w2 ⟨rfl, rfl⟩
        go_wp2_with (first
          | (go_at_call 12; refine (letter_any _ _).mono ?_; rintro e w' ⟨rfl, rfl⟩)
          | (go_at_call 14; refine (hX.out _).mono ?_; rintro e w' ⟨rfl, rfl⟩))
        go_ret
        exact ⟨rfl, by assumption⟩
end Go.Proofs.Ytcemneilhfjnhaa
