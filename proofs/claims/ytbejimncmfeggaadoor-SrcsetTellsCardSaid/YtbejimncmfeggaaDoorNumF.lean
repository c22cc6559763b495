/- Whole numbers as floats, and powers of ten: no program in sight. -/
import Derived.Laws.FloatArith
namespace Go.Proofs.YtbejimncmfeggaaDoor
set_option linter.unusedVariables false

theorem cut_zero (n : Nat) : Ieee.Toward.even.cut false n 0 = n := by
  unfold Ieee.Toward.cut
  simp [Nat.mod_one]
theorem nearest_nat {n : Nat} (h0 : n ≠ 0) (h : n < 2 ^ 53) : Ieee.double.nearest false n 0 = (n.log2 + 1022) * 2 ^ 52 + n * 2 ^ (52 - n.log2) := by
  have hL : n.log2 ≤ 52 := by
    have := (Nat.log2_lt h0).2 h
    omega
  have hn2 : n < 2 ^ (n.log2 + 1) := Nat.lt_log2_self
  have hlast : max ((0 : Int) + n.log2 - Ieee.double.fractionBits) Ieee.double.leastPlace = (n.log2 : Int) - 52 := by
    have e1 : Ieee.double.leastPlace = -1074 := by decide
    have e2 : (Ieee.double.fractionBits : Int) = 52 := rfl
    rw [e1, e2]; omega
  unfold Ieee.Format.nearest
  rw [if_neg h0]
  dsimp only
  rw [hlast]
  have e3 : ((0 : Int) - ((n.log2 : Int) - 52)).toNat = 52 - n.log2 := by omega
  have e4 : ((n.log2 : Int) - 52 - 0).toNat = 0 := by omega
  have e5 : ((n.log2 : Int) - 52 - Ieee.double.leastPlace).toNat = n.log2 + 1022 := by
    have e1 : Ieee.double.leastPlace = -1074 := by decide
    rw [e1]; omega
  rw [e3, e4, e5, cut_zero, Nat.shiftLeft_eq]
  have hb : Ieee.double.binade = 2 ^ 52 := rfl
  have hi : Ieee.double.infRung = 2047 * 2 ^ 52 := by decide
  rw [hb, hi]
  have hk : n * 2 ^ (52 - n.log2) < 2 ^ 53 := by
    have : n * 2 ^ (52 - n.log2) < 2 ^ (n.log2 + 1) * 2 ^ (52 - n.log2) := Nat.mul_lt_mul_of_pos_right hn2 (Nat.two_pow_pos _)
    rw [← Nat.pow_add, show n.log2 + 1 + (52 - n.log2) = 53 by omega] at this
    exact this
  rw [Nat.min_eq_left]
  · rfl
  · have h1 : (n.log2 + 1022) * 2 ^ 52 ≤ 1074 * 2 ^ 52 := Nat.mul_le_mul_right _ (by omega)
    have h2 : n * 2 ^ (52 - n.log2) ≤ 2 * 2 ^ 52 := Nat.le_trans (Nat.le_of_lt hk) (by decide)
    have h3 := Nat.add_le_add h1 h2
    rw [← Nat.add_mul] at h3
    exact Nat.le_trans h3 (Nat.mul_le_mul_right _ (by decide))
/-- A whole number's float stands for it. -/
theorem read_nat {n : Nat} (h0 : n ≠ 0) (h : n < 2 ^ 53) : Ieee.double.read (Ieee.double.nearest false n 0) = .number false (n * 2 ^ (52 - n.log2)) ((n.log2 : Int) - 52) := by
  have hL : n.log2 ≤ 52 := by
    have := (Nat.log2_lt h0).2 h
    omega
  have hn2 : n < 2 ^ (n.log2 + 1) := Nat.lt_log2_self
  have hn1 : 2 ^ n.log2 ≤ n := Nat.log2_self_le h0
  have hk : n * 2 ^ (52 - n.log2) < 2 ^ 53 := by
    have : n * 2 ^ (52 - n.log2) < 2 ^ (n.log2 + 1) * 2 ^ (52 - n.log2) := Nat.mul_lt_mul_of_pos_right hn2 (Nat.two_pow_pos _)
    rw [← Nat.pow_add, show n.log2 + 1 + (52 - n.log2) = 53 by omega] at this
    exact this
  have hk1 : 2 ^ 52 ≤ n * 2 ^ (52 - n.log2) := by
    have : 2 ^ n.log2 * 2 ^ (52 - n.log2) ≤ n * 2 ^ (52 - n.log2) := Nat.mul_le_mul_right _ hn1
    rw [← Nat.pow_add, show n.log2 + (52 - n.log2) = 52 by omega] at this
    exact this
  rw [nearest_nat h0 h]
  generalize hM : n * 2 ^ (52 - n.log2) = M at hk hk1 ⊢
  generalize n.log2 = L at hL ⊢
  unfold Ieee.Format.read
  have hb : Ieee.double.binade = 2 ^ 52 := rfl
  have hi : Ieee.double.infRung = 2047 * 2 ^ 52 := by decide
  have hs : Ieee.double.signWeight = 2 ^ 63 := by decide
  have e1 : Ieee.double.leastPlace = -1074 := by decide
  rw [hb, hi, hs, e1]
  obtain ⟨r, hr⟩ : ∃ r, M = 2 ^ 52 + r := ⟨M - 2 ^ 52, by rw [Nat.add_sub_cancel' hk1]⟩
  have hr2 : r < 2 ^ 52 := by
    rw [hr, show (2 : Nat) ^ 53 = 2 ^ 52 + 2 ^ 52 by decide] at hk
    exact Nat.lt_of_add_lt_add_left hk
  have hx : (L + 1022) * 2 ^ 52 + M = r + (L + 1023) * 2 ^ 52 := by
    rw [hr, ← Nat.add_assoc, show L + 1023 = (L + 1022) + 1 by omega, Nat.add_mul (L + 1022) 1, Nat.one_mul, Nat.add_comm r]
  rw [hx]
  generalize hB : (2 : Nat) ^ 52 = B at hr hr2 hk1
  have h63 : (2 : Nat) ^ 63 = 2048 * B := by rw [← hB]
  rw [h63]
  replace hr : M = B + r := hr
  clear hk hk1 hB h63
  have hle : r + (L + 1023) * B < 1076 * B := by
    have h1 : (L + 1023) * B ≤ 1075 * B := Nat.mul_le_mul_right _ (by omega)
    generalize (L + 1023) * B = X at h1 ⊢
    omega
  have hr1 : (r + (L + 1023) * B) % (2048 * B) = r + (L + 1023) * B := Nat.mod_eq_of_lt (by omega)
  have hn : (r + (L + 1023) * B) / (2048 * B) = 0 := Nat.div_eq_of_lt (by omega)
  have hge : B ≤ (L + 1023) * B := by
    have : 1 * B ≤ (L + 1023) * B := Nat.mul_le_mul_right _ (by omega)
    omega
  dsimp only
  rw [hr1, hn]
  rw [if_neg (by omega), if_pos (by omega)]
  have hpos : 0 < B := by omega
  have hd : (r + (L + 1023) * B) / B = L + 1023 := by rw [Nat.add_mul_div_right _ _ hpos, Nat.div_eq_of_lt hr2, Nat.zero_add]
  have hm : (r + (L + 1023) * B) % B = r := by rw [Nat.add_mul_mod_self_right, Nat.mod_eq_of_lt hr2]
  rw [hd, hm, hr]
  have e9 : (-1074 : Int) + ((L + 1023 - 1 : Nat) : Int) = (L : Int) - 52 := by omega
  rw [e9]
  rfl
theorem read_zero : Ieee.double.read (Ieee.double.nearest false 0 0) = .number false 0 (-1074) := by decide
end Go.Proofs.YtbejimncmfeggaaDoor
