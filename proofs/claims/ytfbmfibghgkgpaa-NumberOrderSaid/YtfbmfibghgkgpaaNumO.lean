/- Floats of whole numbers, moved, stand in their numbers' order: no program in sight. -/
import Derived.Test.YtfbmfibghgkgpaaNumP
namespace Go.Proofs.Ytfbmfibghgkgpaa
set_option linter.unusedVariables false

theorem eB : Ieee.double.binade = 2 ^ 52 := rfl
theorem eI : Ieee.double.infRung = 2047 * Ieee.double.binade := by decide
theorem eS : Ieee.double.signWeight = 2048 * Ieee.double.binade := by decide
theorem eP : 0 < Ieee.double.binade := by decide
theorem e53 : (2 : Nat) ^ 53 = 2 * Ieee.double.binade := by decide
theorem toNat_le {a b : Bool} (h : a = true → b = true) : a.toNat ≤ b.toNat := by cases a <;> cases b <;> simp_all
theorem word_false (r : Nat) : Ieee.double.word false r = r := rfl
theorem eL : Ieee.double.leastPlace = -1074 := by decide
/-- What a rung stands for. -/
theorem read_rung {x : Nat} (h : x < Ieee.double.infRung) : ∃ a m : Nat, Ieee.double.read x = .number false m (-1074 + (a : Int)) ∧ x = a * Ieee.double.binade + m ∧ m < 2 * Ieee.double.binade ∧ (a = 0 ∨ Ieee.double.binade ≤ m) := by
  have hp := eP
  unfold Ieee.Format.read
  rw [eI, eS, eL]
  rw [eI] at h
  generalize Ieee.double.binade = B at h hp ⊢
  have h1 : x % (2048 * B) = x := Nat.mod_eq_of_lt (by omega)
  have h2 : x / (2048 * B) = 0 := Nat.div_eq_of_lt (by omega)
  dsimp only
  rw [h1, h2]
  by_cases hx : x < B
  · rw [if_pos hx]
    exact ⟨0, x, rfl, by omega, by omega, .inl rfl⟩
  · rw [if_neg hx, if_pos h]
    have hq : 1 ≤ x / B := (Nat.one_le_div_iff hp).2 (by omega)
    have hd := Nat.div_add_mod x B
    have hr := Nat.mod_lt x hp
    refine ⟨x / B - 1, B + x % B, rfl, ?_, by omega, .inr (by omega)⟩
    have : (x / B - 1) * B + B = B * (x / B) := by
      rw [← Nat.succ_mul, Nat.succ_eq_add_one, Nat.sub_add_cancel hq, Nat.mul_comm]
    omega
theorem read_inf : Ieee.double.read Ieee.double.infRung = .infinity false := by decide
theorem cmp_lt {a b : Int} (h : a < b) : compare a b = .lt := by
  show compareOfLessAndEq a b = _
  unfold compareOfLessAndEq; rw [if_pos h]
theorem cmp_gt {a b : Int} (h : b < a) : compare a b = .gt := by
  show compareOfLessAndEq a b = _
  unfold compareOfLessAndEq; rw [if_neg (by omega), if_neg (by omega)]
theorem order_lt {x y : Nat} (h : x < y) (hy : y ≤ Ieee.double.infRung) : Ieee.double.order x y = some .lt ∧ Ieee.double.order y x = some .gt := by
  obtain ⟨a, m, hx, ex, m2, ma⟩ := read_rung (x := x) (by omega)
  by_cases hi : y = Ieee.double.infRung
  · unfold Ieee.Format.order
    rw [hx, hi, read_inf]
    exact ⟨rfl, rfl⟩
  obtain ⟨b, n, hr, ey, n2, nb⟩ := read_rung (x := y) (by omega)
  unfold Ieee.Format.order
  rw [hx, hr]
  have key : m <<< (-1074 + (a : Int) - min (-1074 + (a : Int)) (-1074 + (b : Int))).toNat < n <<< (-1074 + (b : Int) - min (-1074 + (a : Int)) (-1074 + (b : Int))).toNat := by
    generalize Ieee.double.binade = B at ex ey m2 n2 ma nb
    rcases Nat.lt_trichotomy a b with hab | hab | hab
    · have e1 : (-1074 + (a : Int) - min (-1074 + (a : Int)) (-1074 + (b : Int))).toNat = 0 := by omega
      obtain ⟨c, hc⟩ : ∃ c, (-1074 + (b : Int) - min (-1074 + (a : Int)) (-1074 + (b : Int))).toNat = c + 1 := ⟨b - a - 1, by omega⟩
      rw [e1, hc, Nat.shiftLeft_zero, Nat.shiftLeft_eq, Nat.pow_succ]
      have h1 : 1 ≤ 2 ^ c := Nat.one_le_two_pow
      have h2 : n * (1 * 2) ≤ n * (2 ^ c * 2) := Nat.mul_le_mul_left _ (Nat.mul_le_mul_right _ h1)
      have : B ≤ n := by omega
      omega
    · subst hab
      have e1 : (-1074 + (a : Int) - min (-1074 + (a : Int)) (-1074 + (a : Int))).toNat = 0 := by omega
      rw [e1, Nat.shiftLeft_zero, Nat.shiftLeft_zero]
      omega
    · have : (b + 1) * B ≤ a * B := Nat.mul_le_mul_right _ hab
      rw [Nat.succ_mul] at this
      omega
  unfold Ieee.Datum.order Ieee.signed
  dsimp only
  constructor
  · rw [if_neg (by decide), if_neg (by decide), cmp_lt (by omega)]
  · rw [Int.min_comm, if_neg (by decide), if_neg (by decide), cmp_gt (by omega)]
theorem order_refl {x : Nat} (hx : x ≤ Ieee.double.infRung) : Ieee.double.order x x = some .eq := by
  have h : NoNaN x := by
    by_cases hi : x = Ieee.double.infRung
    · rw [hi]; exact .inr ⟨_, read_inf⟩
    · obtain ⟨a, m, h, _⟩ := read_rung (x := x) (by omega)
      exact .inl ⟨_, _, _, h⟩
  have := order_same h
  exact eq_of_beq this
theorem cut_val {m d : Nat} (hd : d ≤ m.log2) : Ieee.Toward.even.cut false m d = m / 2 ^ d + (decide (2 ^ d < 2 * (m % 2 ^ d)) || (2 ^ d == 2 * (m % 2 ^ d) && m / 2 ^ d % 2 == 1)).toNat := by
  unfold Ieee.Toward.cut
  rw [Nat.min_eq_left (by omega), Nat.shiftLeft_eq, Nat.one_mul]
theorem cut_le {m d : Nat} (hd : d ≤ m.log2) : m / 2 ^ d ≤ Ieee.Toward.even.cut false m d ∧ Ieee.Toward.even.cut false m d ≤ m / 2 ^ d + 1 := by
  rw [cut_val hd]
  have := Bool.toNat_le (decide (2 ^ d < 2 * (m % 2 ^ d)) || (2 ^ d == 2 * (m % 2 ^ d) && m / 2 ^ d % 2 == 1))
  omega
theorem cut_mono {m n d : Nat} (h : m ≤ n) (hd : d ≤ m.log2) (he : d ≤ n.log2) : Ieee.Toward.even.cut false m d ≤ Ieee.Toward.even.cut false n d := by
  have hq : m / 2 ^ d ≤ n / 2 ^ d := Nat.div_le_div_right h
  rcases Nat.lt_or_eq_of_le hq with hq | hq
  · have := (cut_le hd).2
    have := (cut_le he).1
    omega
  · rw [cut_val hd, cut_val he, hq]
    have h1 := Nat.div_add_mod m (2 ^ d)
    have h2 := Nat.div_add_mod n (2 ^ d)
    rw [hq] at h1
    have hr : m % 2 ^ d ≤ n % 2 ^ d := by omega
    refine Nat.add_le_add_left ?_ _
    apply toNat_le
    intro hb
    rw [Bool.or_eq_true, Bool.and_eq_true, decide_eq_true_eq, beq_iff_eq, beq_iff_eq] at hb ⊢
    rcases hb with hb | ⟨hb, hc⟩
    · exact .inl (by omega)
    · by_cases he : m % 2 ^ d = n % 2 ^ d
      · exact .inr ⟨by omega, hc⟩
      · exact .inl (by omega)
theorem nearest_big {m : Nat} {p : Int} (hm : m ≠ 0) (h53 : 52 ≤ m.log2) (hp : -1074 ≤ p + m.log2 - 52) :
    Ieee.double.nearest false m p = min ((p + m.log2 - 52 - -1074).toNat * Ieee.double.binade + Ieee.Toward.even.cut false m (m.log2 - 52)) Ieee.double.infRung := by
  have hlast : max (p + (m.log2 : Int) - Ieee.double.fractionBits) (-1074) = p + m.log2 - 52 := by
    have e2 : (Ieee.double.fractionBits : Int) = 52 := rfl
    rw [e2]; omega
  have e3 : (p - (p + (m.log2 : Int) - 52)).toNat = 0 := by omega
  have e4 : (p + (m.log2 : Int) - 52 - p).toNat = m.log2 - 52 := by omega
  unfold Ieee.Format.nearest
  rw [if_neg hm]
  dsimp only
  rw [eL, hlast, e3, e4, Nat.shiftLeft_zero, word_false]
theorem log2_mono {m n : Nat} (hm : m ≠ 0) (h : m ≤ n) : m.log2 ≤ n.log2 := (Nat.le_log2 (by omega)).2 (Nat.le_trans (Nat.log2_self_le hm) h)
theorem sum_min {a b I : Nat} (h : a ≤ b) : min a I ≤ min b I := by omega
set_option maxHeartbeats 1000000 in
theorem nearest_mono {m n : Nat} {p : Int} (h : m ≤ n) (hm : m ≠ 0) (h53 : 52 ≤ m.log2) (hp : -1074 ≤ p + m.log2 - 52) : Ieee.double.nearest false m p ≤ Ieee.double.nearest false n p := by
  have hl := log2_mono hm h
  rw [nearest_big hm h53 hp, nearest_big (m := n) (by omega) (by omega) (by omega)]
  apply sum_min
  rcases Nat.lt_or_eq_of_le hl with hl | hl
  · have h1 := (cut_le (m := m) (d := m.log2 - 52) (by omega)).2
    have h2 := (cut_le (m := n) (d := n.log2 - 52) (by omega)).1
    have h3 : m / 2 ^ (m.log2 - 52) < 2 ^ 53 := by
      apply Nat.div_lt_of_lt_mul
      rw [← Nat.pow_add, show m.log2 - 52 + 53 = m.log2 + 1 by omega]
      exact Nat.lt_log2_self
    have h4 : 2 ^ 52 ≤ n / 2 ^ (n.log2 - 52) := by
      rw [Nat.le_div_iff_mul_le (Nat.two_pow_pos _), ← Nat.pow_add, show 52 + (n.log2 - 52) = n.log2 by omega]
      exact Nat.log2_self_le (by omega)
    obtain ⟨c, hc⟩ : ∃ c, (p + (n.log2 : Int) - 52 - -1074).toNat = (p + (m.log2 : Int) - 52 - -1074).toNat + 1 + c := ⟨n.log2 - m.log2 - 1, by omega⟩
    rw [hc, Nat.add_mul, Nat.add_mul, Nat.one_mul]
    rw [e53] at h3
    rw [← eB] at h4
    generalize Ieee.double.binade = B at h3 h4 ⊢
    omega
  · rw [← hl]
    exact Nat.add_le_add_left (cut_mono h (by omega) (by omega)) _
theorem quo_mono {m n P : Nat} (h : m ≤ n) : 2 * (m / P) + (m % P != 0).toNat ≤ 2 * (n / P) + (n % P != 0).toNat := by
  have hq : m / P ≤ n / P := Nat.div_le_div_right h
  have hb := Bool.toNat_le (m % P != 0)
  rcases Nat.lt_or_eq_of_le hq with hq | hq
  · omega
  · rw [hq]
    have h1 := Nat.div_add_mod m P
    have h2 := Nat.div_add_mod n P
    rw [hq] at h1
    have hr : m % P ≤ n % P := by omega
    refine Nat.add_le_add_left ?_ _
    apply toNat_le
    intro hb
    rw [bne_iff_ne] at hb ⊢
    omega
def powOk : Ieee.Datum → Bool
  | .number false P j => decide (2 ^ 52 ≤ P) && decide (P < 2 ^ 53) && decide (-60 ≤ j) && decide (j ≤ 60)
  | _ => false
theorem pow_ok : ∀ k : Fin 23, powOk (Ieee.double.read (powB k.val)) = true := by decide +kernel
theorem pow_read2 {k : Nat} (h : k ≤ 22) : ∃ P j, Ieee.double.read (powB k) = .number false P j ∧ 2 ^ 52 ≤ P ∧ P < 2 ^ 53 ∧ -60 ≤ j ∧ j ≤ 60 := by
  have := pow_ok ⟨k, by omega⟩
  revert this
  show powOk (Ieee.double.read (powB k)) = true → _
  cases Ieee.double.read (powB k) with
  | number s m e =>
    cases s
    · intro h
      unfold powOk at h
      rw [Bool.and_eq_true, Bool.and_eq_true, Bool.and_eq_true, decide_eq_true_eq, decide_eq_true_eq, decide_eq_true_eq, decide_eq_true_eq] at h
      exact ⟨m, e, rfl, h.1.1.1, h.1.1.2, h.1.2, h.2⟩
    · intro h; cases h
  | infinity s => intro h; cases h
  | nan s t => intro h; cases h
/-- A whole number's float, moved by k digits. -/
def F (k : Int) (n : Nat) : Nat := moveB (Ieee.double.nearest false n 0) k
theorem log2_of {M : Nat} (h1 : 2 ^ 52 ≤ M) (h2 : M < 2 ^ 53) : M.log2 = 52 := by
  have h0 : M ≠ 0 := by have := Nat.two_pow_pos 52; omega
  have a := (Nat.le_log2 h0).2 h1
  have b := (Nat.log2_lt h0).2 h2
  omega
theorem mant {n : Nat} (h0 : n ≠ 0) (h : n < 2 ^ 53) : 2 ^ 52 ≤ n * 2 ^ (52 - n.log2) ∧ n * 2 ^ (52 - n.log2) < 2 ^ 53 ∧ n.log2 ≤ 52 := by
  have hL : n.log2 ≤ 52 := by
    have := (Nat.log2_lt h0).2 h
    omega
  have hn2 : n < 2 ^ (n.log2 + 1) := Nat.lt_log2_self
  have hn1 : 2 ^ n.log2 ≤ n := Nat.log2_self_le h0
  refine ⟨?_, ?_, hL⟩
  · have : 2 ^ n.log2 * 2 ^ (52 - n.log2) ≤ n * 2 ^ (52 - n.log2) := Nat.mul_le_mul_right _ hn1
    rw [← Nat.pow_add, show n.log2 + (52 - n.log2) = 52 by omega] at this
    exact this
  · have : n * 2 ^ (52 - n.log2) < 2 ^ (n.log2 + 1) * 2 ^ (52 - n.log2) := Nat.mul_lt_mul_of_pos_right hn2 (Nat.two_pow_pos _)
    rw [← Nat.pow_add, show n.log2 + 1 + (52 - n.log2) = 53 by omega] at this
    exact this
theorem div_form {x y M P : Nat} {i j : Int} (hx : Ieee.double.read x = .number false M i) (hy : Ieee.double.read y = .number false P j) (lM : M.log2 = 52) (lP : P.log2 = 52) (hP : P ≠ 0) :
    Ieee.double.div x y = some (Ieee.double.nearest false (2 * (M <<< 54 / P) + (M <<< 54 % P != 0).toNat) (i - j - ((54 : Nat) : Int) - 1)) := by
  have e54 : Ieee.double.fractionBits + 2 + 52 - 52 = 54 := rfl
  unfold Ieee.Format.div
  rw [hx, hy]
  unfold Ieee.Datum.quotient
  dsimp only
  rw [if_neg hP, lP, lM, e54]
  rfl
set_option maxHeartbeats 1000000 in
/-- Within one binade. -/
theorem F_bin {k : Int} {m n : Nat} (h0 : m ≠ 0) (hmn : m ≤ n) (h : n < 2 ^ 53) (hl : m.log2 = n.log2) (k0 : -22 ≤ k) (k1 : k ≤ 22) : F k m ≤ F k n := by
  have hn0 : n ≠ 0 := by omega
  have rm := read_nat h0 (Nat.lt_of_le_of_lt hmn h)
  have rn := read_nat hn0 h
  obtain ⟨m1, m2, mL⟩ := mant h0 (Nat.lt_of_le_of_lt hmn h)
  obtain ⟨n1, n2, nL⟩ := mant hn0 h
  obtain ⟨P, j, hP, P1, P2, j1, j2⟩ := pow_read2 (k := k.natAbs) (by omega)
  rw [hl] at rm m1 m2
  have hMN : m * 2 ^ (52 - n.log2) ≤ n * 2 ^ (52 - n.log2) := Nat.mul_le_mul_right _ hmn
  generalize m * 2 ^ (52 - n.log2) = M at rm m1 m2 hMN
  generalize n * 2 ^ (52 - n.log2) = N at rn n1 n2 hMN
  generalize n.log2 = L at rm rn nL
  have lP := log2_of P1 P2
  have lM := log2_of m1 m2
  have lN := log2_of n1 n2
  have hB52 := Nat.two_pow_pos 52
  unfold F moveB
  by_cases hk : k < 0
  · rw [if_pos hk, if_pos hk]
    have hdm := div_form rm hP lM lP (by omega)
    have hdn := div_form rn hP lN lP (by omega)
    rw [hdm, hdn, Option.getD_some, Option.getD_some]
    have hD : 2 ^ 53 ≤ M <<< 54 / P := by
      rw [Nat.le_div_iff_mul_le (by omega), Nat.shiftLeft_eq]
      have h1 : 2 ^ 53 * P ≤ 2 ^ 53 * 2 ^ 53 := Nat.mul_le_mul_left _ (by omega)
      have h2 : 2 ^ 52 * 2 ^ 54 ≤ M * 2 ^ 54 := Nat.mul_le_mul_right _ m1
      have h3 : (2 : Nat) ^ 53 * 2 ^ 53 = 2 ^ 52 * 2 ^ 54 := by decide
      exact Nat.le_trans h1 (Nat.le_trans (Nat.le_of_eq h3) h2)
    have hq := quo_mono (P := P) (Nat.mul_le_mul_right (2 ^ 54) hMN)
    rw [← Nat.shiftLeft_eq, ← Nat.shiftLeft_eq] at hq
    have hq0 : 2 * (M <<< 54 / P) + (M <<< 54 % P != 0).toNat ≠ 0 := by have := Nat.two_pow_pos 53; omega
    have hlq : 53 ≤ (2 * (M <<< 54 / P) + (M <<< 54 % P != 0).toNat).log2 := (Nat.le_log2 hq0).2 (by omega)
    exact nearest_mono hq hq0 (by omega) (by omega)
  · rw [if_neg hk, if_neg hk, mul_some rm hP, mul_some rn hP, Option.getD_some, Option.getD_some, Bool.xor_false]
    have hMP : 2 ^ 52 * 2 ^ 52 ≤ M * P := Nat.mul_le_mul m1 P1
    have h104 : (2 : Nat) ^ 52 * 2 ^ 52 = 2 ^ 104 := by decide
    have hq0 : M * P ≠ 0 := by have := Nat.two_pow_pos 104; omega
    have hlq : 104 ≤ (M * P).log2 := (Nat.le_log2 hq0).2 (by omega)
    exact nearest_mono (Nat.mul_le_mul_right _ hMN) hq0 (by omega) (by omega)
def kOf (i : Nat) : Int := (i : Int) - 22
set_option maxHeartbeats 4000000 in
theorem F_edge : ∀ (i : Fin 45) (L : Fin 50), F (kOf i.val) (2 ^ (L.val + 1) - 1) ≤ F (kOf i.val) (2 ^ (L.val + 1)) := by decide +kernel
theorem F_zero : ∀ i : Fin 45, F (kOf i.val) 0 = 0 := by decide +kernel
theorem F_one : ∀ i : Fin 45, 0 < F (kOf i.val) 1 := by decide +kernel
theorem kOf_of {k : Int} (k0 : -22 ≤ k) (k1 : k ≤ 22) : ∃ i : Fin 45, k = kOf i.val := ⟨⟨(k + 22).toNat, by omega⟩, by unfold kOf; show k = ((k + 22).toNat : Int) - 22; omega⟩
theorem log2_edge (L : Nat) : (2 ^ (L + 1) - 1).log2 = L := by
  have h1 := Nat.two_pow_pos L
  have h2 : 2 ^ (L + 1) = 2 * 2 ^ L := by rw [Nat.pow_succ, Nat.mul_comm]
  have h0 : 2 ^ (L + 1) - 1 ≠ 0 := by omega
  have a := (Nat.le_log2 h0 (k := L)).2 (by omega)
  have b := (Nat.log2_lt h0 (k := L + 1)).2 (by omega)
  omega
theorem F_pows {k : Int} (k0 : -22 ≤ k) (k1 : k ≤ 22) (L : Nat) : ∀ j, L + j ≤ 50 → F k (2 ^ L) ≤ F k (2 ^ (L + j))
  | 0, _ => Nat.le_refl _
  | j + 1, h => by
    refine Nat.le_trans (F_pows k0 k1 L j (by omega)) ?_
    obtain ⟨i, rfl⟩ := kOf_of k0 k1
    have h2 : 2 ^ (L + j + 1) = 2 * 2 ^ (L + j) := by rw [Nat.pow_succ, Nat.mul_comm]
    have h1 := Nat.two_pow_pos (L + j)
    have h3 : 2 ^ (L + j + 1) ≤ 2 ^ 50 := Nat.pow_le_pow_right (by decide) (by omega)
    have h4 : (2 : Nat) ^ 50 ≤ 2 ^ 53 := Nat.pow_le_pow_right (by decide) (by decide)
    refine Nat.le_trans (F_bin (n := 2 ^ (L + j + 1) - 1) (by omega) (by omega) (by omega) ?_ k0 k1) (F_edge i ⟨L + j, by omega⟩)
    rw [log2_edge, Nat.log2_two_pow]
theorem F_mono {k : Int} {m n : Nat} (k0 : -22 ≤ k) (k1 : k ≤ 22) (h0 : m ≠ 0) (hmn : m ≤ n) (h : n < 2 ^ 50) : F k m ≤ F k n := by
  have h4 : (2 : Nat) ^ 50 ≤ 2 ^ 53 := Nat.pow_le_pow_right (by decide) (by decide)
  have hl := log2_mono h0 hmn
  have hm2 : m < 2 ^ (m.log2 + 1) := Nat.lt_log2_self
  have hn1 : 2 ^ n.log2 ≤ n := Nat.log2_self_le (by omega)
  have hnl := (Nat.log2_lt (n := n) (k := 50) (by omega)).2 h
  rcases Nat.lt_or_eq_of_le hl with hl | hl
  · have h3 : 2 ^ (m.log2 + 1) ≤ 2 ^ 50 := Nat.pow_le_pow_right (by decide) (by omega)
    refine Nat.le_trans (F_bin (n := 2 ^ (m.log2 + 1) - 1) h0 (by omega) (by omega) (log2_edge _).symm k0 k1) ?_
    have he : F k (2 ^ (m.log2 + 1) - 1) ≤ F k (2 ^ (m.log2 + 1)) := by
      obtain ⟨i, rfl⟩ := kOf_of k0 k1
      exact F_edge i ⟨m.log2, by omega⟩
    refine Nat.le_trans he ?_
    have hp := F_pows k0 k1 (m.log2 + 1) (n.log2 - (m.log2 + 1)) (by omega)
    rw [show m.log2 + 1 + (n.log2 - (m.log2 + 1)) = n.log2 by omega] at hp
    refine Nat.le_trans hp ?_
    exact F_bin (Nat.ne_of_gt (Nat.two_pow_pos _)) hn1 (by omega) Nat.log2_two_pow k0 k1
  · exact F_bin h0 hmn (by omega) hl k0 k1
theorem F_pos {k : Int} {n : Nat} (k0 : -22 ≤ k) (k1 : k ≤ 22) (h0 : n ≠ 0) (h : n < 2 ^ 50) : 0 < F k n := by
  refine Nat.lt_of_lt_of_le ?_ (F_mono k0 k1 (by decide) (by omega : 1 ≤ n) h)
  obtain ⟨i, rfl⟩ := kOf_of k0 k1
  exact F_one i
theorem nearest_le (m : Nat) (p : Int) : Ieee.double.nearest false m p ≤ Ieee.double.infRung := by
  unfold Ieee.Format.nearest
  split
  · rw [word_false]; exact Nat.zero_le _
  · rw [word_false]; exact Nat.min_le_right _ _
theorem F_le {k : Int} {n : Nat} (k0 : -22 ≤ k) (k1 : k ≤ 22) (h : n < 2 ^ 50) : F k n ≤ Ieee.double.infRung := by
  by_cases h0 : n = 0
  · subst h0
    obtain ⟨i, rfl⟩ := kOf_of k0 k1
    rw [F_zero]; exact Nat.zero_le _
  have h4 : (2 : Nat) ^ 50 ≤ 2 ^ 53 := Nat.pow_le_pow_right (by decide) (by decide)
  have rn := read_nat h0 (by omega)
  obtain ⟨P, j, hP, P1, P2, j1, j2⟩ := pow_read2 (k := k.natAbs) (by omega)
  have hB52 := Nat.two_pow_pos 52
  obtain ⟨m1, m2, mL⟩ := mant h0 (by omega)
  unfold F moveB
  split
  · rw [div_form rn hP (log2_of m1 m2) (log2_of P1 P2) (by omega), Option.getD_some]
    exact nearest_le _ _
  · rw [mul_some rn hP, Option.getD_some, Bool.xor_false]
    exact nearest_le _ _
theorem F_all {k : Int} {m n : Nat} (k0 : -22 ≤ k) (k1 : k ≤ 22) (hmn : m ≤ n) (h : n < 2 ^ 50) : F k m ≤ F k n := by
  by_cases h0 : m = 0
  · subst h0
    obtain ⟨i, rfl⟩ := kOf_of k0 k1
    rw [F_zero]; exact Nat.zero_le _
  · exact F_mono k0 k1 h0 hmn h
theorem neg_zero : Ieee.double.order 0 (Op.negFloat .f64 0) = some .eq := by decide +kernel
end Go.Proofs.Ytfbmfibghgkgpaa
