/- A whole number's float times 1. -/
import Derived.Test.YtbejimncmfeggaaDoorNumF
import Derived.Test.YtbejimncmfeggaaDoorNumG
namespace Go.Proofs.YtbejimncmfeggaaDoor
set_option linter.unusedVariables false

theorem cut_exact (M : Nat) (hM : 2 ^ 52 ≤ M) : Ieee.Toward.even.cut false (M * 2 ^ 52) 52 = M := by
  unfold Ieee.Toward.cut
  have hm : min 52 ((M * 2 ^ 52).log2 + 2) = 52 := by
    have h1 : 2 ^ 52 ≤ M * 2 ^ 52 := Nat.le_trans hM (Nat.le_mul_of_pos_right _ (Nat.two_pow_pos _))
    have h0 : M * 2 ^ 52 ≠ 0 := by have := Nat.two_pow_pos 52; omega
    have := (Nat.le_log2 h0).2 h1
    omega
  rw [hm, Nat.shiftLeft_eq, Nat.one_mul]
  have h1 : M * 2 ^ 52 / 2 ^ 52 = M := Nat.mul_div_cancel _ (Nat.two_pow_pos _)
  have h2 : M * 2 ^ 52 % 2 ^ 52 = 0 := Nat.mul_mod_left _ _
  dsimp only
  rw [h1, h2]
  rfl
theorem nearest_up {n : Nat} (h0 : n ≠ 0) (h : n < 2 ^ 53) : Ieee.double.nearest false (n * 2 ^ (52 - n.log2) * 2 ^ 52) ((n.log2 : Int) - 52 + -52) = Ieee.double.nearest false n 0 := by
  have hL : n.log2 ≤ 52 := by
    have := (Nat.log2_lt h0).2 h
    omega
  have hn2 : n < 2 ^ (n.log2 + 1) := Nat.lt_log2_self
  have hn1 : 2 ^ n.log2 ≤ n := Nat.log2_self_le h0
  have hk : n * 2 ^ (52 - n.log2) < 2 ^ 53 := by
    have : n * 2 ^ (52 - n.log2) < 2 ^ (n.log2 + 1) * 2 ^ (52 - n.log2) := Nat.mul_lt_mul_of_pos_right hn2 (Nat.two_pow_pos _)
    rw [← Nat.pow_add, show n.log2 + 1 + (52 - n.log2) = 53 by omega] at this
    exact this
  have hk1 : 2 ^ 52 ≤ n * 2 ^ (52 - n.log2) := by
    have : 2 ^ n.log2 * 2 ^ (52 - n.log2) ≤ n * 2 ^ (52 - n.log2) := Nat.mul_le_mul_right _ hn1
    rw [← Nat.pow_add, show n.log2 + (52 - n.log2) = 52 by omega] at this
    exact this
  rw [nearest_nat h0 h]
  generalize hM : n * 2 ^ (52 - n.log2) = M at hk hk1 ⊢
  generalize n.log2 = L at hL ⊢
  have hMp : M ≠ 0 := by have := Nat.two_pow_pos 52; omega
  have hpp : M * 2 ^ 52 ≠ 0 := Nat.mul_ne_zero hMp (by decide)
  have hlog : (M * 2 ^ 52).log2 = 104 := by
    apply Nat.le_antisymm
    · have : M * 2 ^ 52 < 2 ^ 105 := by
        have := Nat.mul_lt_mul_of_pos_right hk (Nat.two_pow_pos 52)
        rwa [← Nat.pow_add] at this
      have := (Nat.log2_lt hpp).2 this
      omega
    · have : 2 ^ 104 ≤ M * 2 ^ 52 := by
        have := Nat.mul_le_mul_right (2 ^ 52) hk1
        rwa [← Nat.pow_add] at this
      exact (Nat.le_log2 hpp).2 this
  have hlast : max ((L : Int) - 52 + -52 + ((104 : Nat) : Int) - Ieee.double.fractionBits) Ieee.double.leastPlace = (L : Int) - 52 := by
    have e1 : Ieee.double.leastPlace = -1074 := by decide
    have e2 : (Ieee.double.fractionBits : Int) = 52 := rfl
    rw [e1, e2]; omega
  unfold Ieee.Format.nearest
  rw [if_neg hpp]
  dsimp only
  rw [hlog, hlast]
  have e3 : ((L : Int) - 52 + -52 - ((L : Int) - 52)).toNat = 0 := by omega
  have e4 : ((L : Int) - 52 - ((L : Int) - 52 + -52)).toNat = 52 := by omega
  have e5 : ((L : Int) - 52 - Ieee.double.leastPlace).toNat = L + 1022 := by
    have e1 : Ieee.double.leastPlace = -1074 := by decide
    rw [e1]; omega
  rw [e3, e4, e5, Nat.shiftLeft_zero, cut_exact M hk1]
  have hb : Ieee.double.binade = 2 ^ 52 := rfl
  have hi : Ieee.double.infRung = 2047 * 2 ^ 52 := by decide
  rw [hb, hi]
  rw [Nat.min_eq_left]
  · rfl
  · have h1 : (L + 1022) * 2 ^ 52 ≤ 1074 * 2 ^ 52 := Nat.mul_le_mul_right _ (by omega)
    have h2 : M ≤ 2 * 2 ^ 52 := Nat.le_trans (Nat.le_of_lt hk) (by decide)
    have h3 := Nat.add_le_add h1 h2
    rw [← Nat.add_mul] at h3
    exact Nat.le_trans h3 (Nat.mul_le_mul_right _ (by decide))
theorem one_read : Ieee.double.read (powB 0) = .number false (2 ^ 52) (-52) := by decide +kernel
theorem move_zero0 : moveB (Ieee.double.nearest false 0 0) 0 = Ieee.double.nearest false 0 0 := by
  have h : Ieee.double.nearest false 0 0 = 0 := by decide +kernel
  rw [h]; decide +kernel
theorem getD_of {o : Option Nat} {x y : Nat} (h : o = some x) (h2 : x = y) : o.getD 0 = y := by subst h2; rw [h]; rfl
theorem move_zero {n : Nat} (h : n < 2 ^ 53) : moveB (Ieee.double.nearest false n 0) 0 = Ieee.double.nearest false n 0 := by
  by_cases h0 : n = 0
  · subst h0; exact move_zero0
  · unfold moveB
    rw [if_neg (Int.lt_irrefl 0), Int.natAbs_zero]
    refine getD_of (mul_some (read_nat h0 h) one_read) ?_
    rw [Bool.xor_false]
    exact nearest_up h0 h
end Go.Proofs.YtbejimncmfeggaaDoor
