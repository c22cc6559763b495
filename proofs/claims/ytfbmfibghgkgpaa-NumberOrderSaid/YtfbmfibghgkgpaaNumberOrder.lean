/- The law NumberOrder, walked. -/
import Derived.Test.YtfbmfibghgkgpaaNumO
import Derived.Test.YtfbmfibghgkgpaaNumberPoint
namespace Go.Proofs.Ytfbmfibghgkgpaa
open Go.RowKit
set_option linter.unusedVariables false

theorem digL_len10 : ∀ (k n : Nat), n < 10 ^ (k + 1) → (digL 10 n).length ≤ k + 1
  | 0, n, h => by rw [digL_small (by omega)]; simp
  | k + 1, n, h => by
    by_cases h1 : n < 10
    · rw [digL_small h1]; simp
    · rw [digL_big h1 (by decide), List.length_append]
      have := digL_len10 k (n / 10) (by rw [Nat.pow_succ] at h; exact Nat.div_lt_of_lt_mul (by omega))
      simp; omega
theorem order_text {n : Nat} {k : Int} {x : List UInt8} (neg : Bool) (hn : n < 10 ^ 15) (hx : expoV x = some k) (k0 : -22 ≤ k) (k1 : k ≤ 22) :
    floatP (signL neg ++ dgl 0 n ++ (101 :: x)) = some (neg, n, k) := by
  have ht := ten_dgl 0 n
  have hl : (dgl 0 n).length ≤ 15 := by have := digL_len10 14 n hn; simpa [dgl] using this
  have h := floatQ_form (n := n) (b := []) (m := k) ht (fun c hc => by cases hc) (by rw [List.append_nil]; exact digs1_dgl 0 n) (by simpa using hl) false
    (fun h => by cases h) (fun h => rfl) (101 :: x) (.inr ⟨101, _, rfl, .inl rfl, hx⟩) (by simp; omega) (by simp; omega)
  rw [show (k - (([] : List UInt8).length : Int)) = k by simp] at h
  have := floatP_signed neg (by rw [List.append_assoc]; exact head_ten ht (b := 101 :: x) (fun h => absurd (Option.some.inj h) (by decide))) h
  rw [← this]
  congr 1
  show signL neg ++ dgl 0 n ++ 101 :: x = signL neg ++ (dgl 0 n ++ [] ++ 101 :: x)
  simp
theorem floatW_F {n : Nat} {k : Int} : floatW (false, n, k) = F k n := by
  have e : floatOfInt .f64 (n : Int) = Ieee.double.nearest false n 0 := by
    unfold floatOfInt FloatKind.nearest
    simp
    rfl
  unfold floatW F
  rw [if_neg (by simp), e]
theorem floatW_N {n : Nat} {k : Int} (h : n ≠ 0) : floatW (true, n, k) = Op.negFloat .f64 (F k n) := by
  have e : floatOfInt .f64 (n : Int) = Ieee.double.nearest false n 0 := by
    unfold floatOfInt FloatKind.nearest
    simp
    rfl
  unfold floatW F
  rw [if_pos ⟨rfl, h⟩, e]
theorem floatW_N0 {k : Int} (k0 : -22 ≤ k) (k1 : k ≤ 22) : floatW (true, 0, k) = 0 := by
  have e : floatOfInt .f64 ((0 : Nat) : Int) = Ieee.double.nearest false 0 0 := by decide +kernel
  obtain ⟨i, rfl⟩ := kOf_of k0 k1
  unfold floatW
  rw [if_neg (by simp)]
  show moveB (floatOfInt .f64 ((0 : Nat) : Int)) _ = 0
  rw [e]
  exact F_zero i
/-- What the law asks of the three floats. -/
structure OrdF (m n : Nat) (x y z : Nat) : Prop where
  ge : (m = 0 ∧ FloatKind.f64.format.order x 0 = some .eq) ∨ (m ≠ 0 ∧ FloatKind.f64.format.order x 0 = some .gt)
  le : FloatKind.f64.format.order x y = some .lt ∨ FloatKind.f64.format.order x y = some .eq
  op : FloatKind.f64.format.order z (Op.negFloat .f64 y) = some .eq
  pn : n ≠ 0 → FloatKind.f64.format.order y 0 = some .gt
theorem ordF {m n : Nat} {k : Int} (hmn : m ≤ n) (hn : n < 10 ^ 15) (k0 : -22 ≤ k) (k1 : k ≤ 22) : OrdF m n (floatW (false, m, k)) (floatW (false, n, k)) (floatW (true, n, k)) := by
  have h50 : n < 2 ^ 50 := Nat.lt_trans hn (by decide)
  have e : FloatKind.f64.format = Ieee.double := rfl
  have hle := F_all k0 k1 hmn h50
  have hbn := F_le k0 k1 h50
  have pos : ∀ {j : Nat}, j ≤ n → j ≠ 0 → Ieee.double.order (F k j) 0 = some .gt := fun {j} hj h0 =>
    (order_lt (F_pos k0 k1 h0 (Nat.lt_of_le_of_lt hj h50)) (F_le k0 k1 (Nat.lt_of_le_of_lt hj h50))).2
  constructor
  · rw [e, floatW_F]
    by_cases h0 : m = 0
    · subst h0
      obtain ⟨i, rfl⟩ := kOf_of k0 k1
      rw [F_zero i]
      exact .inl ⟨rfl, order_refl (Nat.zero_le _)⟩
    · exact .inr ⟨h0, pos hmn h0⟩
  · rw [e, floatW_F, floatW_F]
    rcases Nat.lt_or_eq_of_le hle with h | h
    · exact .inl (order_lt h hbn).1
    · rw [h]; exact .inr (order_refl hbn)
  · by_cases h0 : n = 0
    · subst h0
      rw [floatW_N0 k0 k1, floatW_F]
      obtain ⟨i, rfl⟩ := kOf_of k0 k1
      rw [F_zero i, e]; exact neg_zero
    · rw [floatW_N h0, floatW_F]
      refine eq_of_beq (order_same (noNaN_neg ?_))
      have := noNaN_floatW (neg := false) (n := n) (k := k) (Nat.lt_trans h50 (by decide)) k0 k1
      rwa [floatW_F] at this
  · intro h0; rw [e, floatW_F]; exact pos (Nat.le_refl _) h0
theorem mD : (⟨#[101]⟩ : ByteArray).toList = [101] := toList_mk [101]
theorem dgl0_len {n : Nat} (hn : n < 10 ^ 15) : (dgl 0 n).length ≤ 15 := by have := digL_len10 14 n hn; simpa [dgl] using this

set_option maxRecDepth 100000 in
set_option maxHeartbeats 4000000 in
theorem numberOrder_out (m n k : Int) (w : World) (wm : (Lit.int .i64 m).wf = true) (wn : (Lit.int .i64 n).wf = true) (wk : (Lit.int .i64 k).wf = true) (hm : ML w) (hout : m < 0 ∨ n < m ∨ 1000000000000000 ≤ n ∨ k < -22 ∨ 22 < k) :
    Calls Try.prog 6 #[.int .i64 m, .int .i64 n, .int .i64 k] w (RetB w true) := by
  have hB : Below w.heap.size w w := Below.refl _ _
  go_enter Try.func6, Try.ntmps6
  go_wp2_with fail
  refine (small04_any _ hm).mono ?_
  rintro e w1 ⟨rfl, hb⟩
  replace hB := hB.next hb
  clear hb
  by_cases h1 : m < 0
  · go_wp2_with fail
    go_ret
    exact ⟨rfl, hB⟩
  by_cases h2 : n < m
  · go_wp2_with fail
    go_ret
    exact ⟨rfl, hB⟩
  by_cases h3 : 1000000000000000 ≤ n
  · have h3I : decide (1000000000000000 ≤ n) = true := decide_eq_true h3
    go_wp2_with fail
    go_ret
    exact ⟨rfl, hB⟩
  have h3I : decide (1000000000000000 ≤ n) = false := decide_eq_false h3
  clear h3
  by_cases h4 : k < -22
  · go_wp2_with fail
    go_ret
    exact ⟨rfl, hB⟩
  have h5 : 22 < k := by have := of_decide_eq_false h3I; omega
  go_wp2_with fail
  go_ret
  exact ⟨rfl, hB⟩
set_option maxRecDepth 100000 in
set_option maxHeartbeats 4000000 in
theorem numberOrder_pos (m n j : Nat) (w : World) (hm : ML w) (hmn : m ≤ n) (hn : n < 10 ^ 15) (hj : j ≤ 22) :
    Calls Try.prog 6 #[.int .i64 (m : Int), .int .i64 (n : Int), .int .i64 (j : Int)] w (RetB w true) := by
  have hB : Below w.heap.size w w := Below.refl _ _
  have hm15 : m < 10 ^ 15 := Nat.lt_of_le_of_lt hmn hn
  have hord := ordF (m := m) (n := n) (k := (j : Int)) hmn hn (by omega) (by omega)
  have hlm := dgl0_len hm15
  have hln := dgl0_len hn
  have hm63 : m < 9223372036854775808 := Nat.lt_trans hm15 (by decide)
  have hn63 : n < 9223372036854775808 := Nat.lt_trans hn (by decide)
  have hdm := Lib.hid (fun w => numDigits_any m 0 w hm63 (by decide))
  have hdn := Lib.hid (fun w => numDigits_any n 0 w hn63 (by decide))
  have hdj := Lib.hid (fun w => numDigits_any j 0 w (by omega) (by decide))
  have hd0 := Lib.hid (fun w => numDigits_any 0 0 w (by omega) (by decide))
  have hex : Hid (expoV (dgl 0 j) = some (j : Int)) := Lib.hid (expoV_bare (by have := dgl_len2 (k := 0) (n := j) (by omega); omega))
  have hmnI : (m : Int) ≤ (n : Int) := by omega
  have hjI : (j : Int) ≤ 22 := by omega
  have hnI : decide (1000000000000000 ≤ (n : Int)) = false := decide_eq_false (by have : n < 1000000000000000 := hn; omega)
  have hj1 : (0 : Int) ≤ (j : Int) := by omega
  have k1 : (j : Int) ≤ 22 := by omega
  have k2 : -22 ≤ (j : Int) := by omega
  have k3 : max (j : Int) 0 = (j : Int) := by omega
  skip
  skip
  have hun : ∀ v : Nat, Op.unary .neg (.float .f64 v) = (pure (.float .f64 (Op.negFloat .f64 v)) : Sem Value) := fun v => rfl
  replace hn := Lib.hid hn
  replace hm15 := Lib.hid hm15
  replace hm63 := Lib.hid hm63
  replace hn63 := Lib.hid hn63
  replace hlm := Lib.hid hlm
  replace hln := Lib.hid hln
  replace hord := Lib.hid hord
  go_enter Try.func6, Try.ntmps6
  go_wp2_with fail
  refine (small04_any _ hm).mono ?_
  rintro e w1 ⟨rfl, hb⟩
  replace hB := hB.next hb
  clear hb
  go_wp2_with fail
  refine (hdj.out _).mono ?_
  rintro e w2 ⟨t, rfl, ht, hb⟩
  replace hB := hB.next hb
  clear hb
  have htz : t.size ≤ 2 := by rw [← size_toList, ht.out]; have := dgl_len2 (k := 0) (n := j) (by omega); simpa [dgl] using this
  go_wp2_with fail
  have hel : Hid ((⟨#[101]⟩ ++ t : ByteArray).toList = 101 :: dgl 0 j) := Lib.hid (by rw [toList_append, ht.out, mD]; rfl)
  have hez : (⟨#[101]⟩ ++ t : ByteArray).size ≤ 4 := by rw [ByteArray.size_append]; show 1 + t.size ≤ 4; omega
  refine (hdm.out _).mono ?_
  rintro e w4 ⟨s4, rfl, hs4, hb⟩
  replace hB := hB.next hb
  clear hb
  have hz4 : s4.size ≤ 15 := by rw [← size_toList, hs4.out]; exact hlm.out
  have f4 := Lib.hid (fun w hm => float_yes (s4 ++ (⟨#[101]⟩ ++ t)) (false, m, (j : Int)) _ w (by rw [ByteArray.size_append]; omega) hm
    (by rw [toList_append, hs4.out, hel.out]; exact (ten_ascii (ten_dgl 0 m)).append (AsciiL.append (a := [101]) (ascii_lits (by decide)) (ten_ascii (ten_dgl 0 j))))
    (by rw [toList_append, hs4.out, hel.out]; exact order_text false hm15.out hex.out (by omega) (by omega)) rfl)
  go_wp2_with fail
  refine (f4.out _ (hm.next hB)).mono ?_
  rintro e v4 ⟨rfl, hb⟩
  replace hB := hB.next hb
  clear hb
  go_wp2_with fail
  refine (hdn.out _).mono ?_
  rintro e w5 ⟨s5, rfl, hs5, hb⟩
  replace hB := hB.next hb
  clear hb
  have hz5 : s5.size ≤ 15 := by rw [← size_toList, hs5.out]; exact hln.out
  have f5 := Lib.hid (fun w hm => float_yes (s5 ++ (⟨#[101]⟩ ++ t)) (false, n, (j : Int)) _ w (by rw [ByteArray.size_append]; omega) hm
    (by rw [toList_append, hs5.out, hel.out]; exact (ten_ascii (ten_dgl 0 n)).append (AsciiL.append (a := [101]) (ascii_lits (by decide)) (ten_ascii (ten_dgl 0 j))))
    (by rw [toList_append, hs5.out, hel.out]; exact order_text false hn.out hex.out (by omega) (by omega)) rfl)
  go_wp2_with fail
  refine (f5.out _ (hm.next hB)).mono ?_
  rintro e v5 ⟨rfl, hb⟩
  replace hB := hB.next hb
  clear hb
  go_wp2_with fail
  refine (hdn.out _).mono ?_
  rintro e w6 ⟨s6, rfl, hs6, hb⟩
  replace hB := hB.next hb
  clear hb
  have hz6 : s6.size ≤ 15 := by rw [← size_toList, hs6.out]; exact hln.out
  have f6 := Lib.hid (fun w hm => float_yes (⟨#[45]⟩ ++ s6 ++ (⟨#[101]⟩ ++ t)) (true, n, (j : Int)) _ w (by rw [ByteArray.size_append, ByteArray.size_append]; show 1 + s6.size + _ ≤ _; omega) hm
    (by rw [toList_append, toList_append, m45, hs6.out, hel.out]; exact ((ascii_sign true).append (ten_ascii (ten_dgl 0 n))).append (AsciiL.append (a := [101]) (ascii_lits (by decide)) (ten_ascii (ten_dgl 0 j))))
    (by rw [toList_append, toList_append, m45, hs6.out, hel.out]; exact order_text true hn.out hex.out (by omega) (by omega)) rfl)
  go_wp2_with fail
  refine (f6.out _ (hm.next hB)).mono ?_
  rintro e v6 ⟨rfl, hb⟩
  replace hB := hB.next hb
  clear hb
  obtain ⟨o1, o2, o3, o4⟩ := hord.out
  have c5 : ((m : Int) == (n : Int)) = true ∨ (((m : Int) == (n : Int)) = false ∧ FloatKind.f64.format.order (floatW (false, n, (j : Int))) 0 = some .gt) := by
    by_cases h : m = n
    · exact .inl (by simp [h])
    · exact .inr ⟨by simp only [beq_eq_false_iff_ne, ne_eq]; omega, o4 (by omega)⟩
  have c1 : (((m : Int) == 0) = true ∧ FloatKind.f64.format.order (floatW (false, m, (j : Int))) 0 = some .eq) ∨ (((m : Int) == 0) = false ∧ FloatKind.f64.format.order (floatW (false, m, (j : Int))) 0 = some .gt) := by
    rcases o1 with ⟨h, o⟩ | ⟨h, o⟩
    · exact .inl ⟨by simp [h], o⟩
    · exact .inr ⟨by simp only [beq_eq_false_iff_ne, ne_eq]; omega, o⟩
  clear o1 o4
  generalize floatW (false, m, (j : Int)) = x at o2 c1 ⊢
  generalize floatW (false, n, (j : Int)) = y at o2 o3 c5 ⊢
  generalize floatW (true, n, (j : Int)) = z at o3 ⊢
  rcases c1 with ⟨c1, c2⟩ | ⟨c1, c2⟩ <;> rcases o2 with o2 | o2 <;> rcases c5 with c5 | ⟨c5, c6⟩
  all_goals
    go_wp2_with fail
    go_ret
    exact ⟨rfl, hB⟩
set_option maxRecDepth 100000 in
set_option maxHeartbeats 4000000 in
theorem numberOrder_neg (m n j : Nat) (w : World) (hm : ML w) (hmn : m ≤ n) (hn : n < 10 ^ 15) (hj0 : 0 < j) (hj : j ≤ 22) :
    Calls Try.prog 6 #[.int .i64 (m : Int), .int .i64 (n : Int), .int .i64 (-(j : Int))] w (RetB w true) := by
  have hB : Below w.heap.size w w := Below.refl _ _
  have hm15 : m < 10 ^ 15 := Nat.lt_of_le_of_lt hmn hn
  have hord := ordF (m := m) (n := n) (k := (-(j : Int))) hmn hn (by omega) (by omega)
  have hlm := dgl0_len hm15
  have hln := dgl0_len hn
  have hm63 : m < 9223372036854775808 := Nat.lt_trans hm15 (by decide)
  have hn63 : n < 9223372036854775808 := Nat.lt_trans hn (by decide)
  have hdm := Lib.hid (fun w => numDigits_any m 0 w hm63 (by decide))
  have hdn := Lib.hid (fun w => numDigits_any n 0 w hn63 (by decide))
  have hdj := Lib.hid (fun w => numDigits_any j 0 w (by omega) (by decide))
  have hd0 := Lib.hid (fun w => numDigits_any 0 0 w (by omega) (by decide))
  have hex : Hid (expoV (45 :: dgl 0 j) = some (-(j : Int))) := Lib.hid (expoV_minus (by have := dgl_len2 (k := 0) (n := j) (by omega); omega))
  have hmnI : (m : Int) ≤ (n : Int) := by omega
  have hjI : (j : Int) ≤ 22 := by omega
  have hnI : decide (1000000000000000 ≤ (n : Int)) = false := decide_eq_false (by have : n < 1000000000000000 := hn; omega)
  have hj1 : (0 : Int) < (j : Int) := by omega
  have k1 : (-(j : Int)) ≤ 22 := by omega
  have k2 : -22 ≤ (-(j : Int)) := by omega
  have k3 : max (-(j : Int)) 0 = 0 := by omega
  have k4 : IntKind.i64.wrap (-(-(j : Int))) = (j : Int) := by rw [Int.neg_neg]; exact IntWalk.i64_in _ (by omega)
  have k5 : IntKind.i64.wrap (j : Int) = (j : Int) := IntWalk.i64_in _ (by omega)
  have hun : ∀ v : Nat, Op.unary .neg (.float .f64 v) = (pure (.float .f64 (Op.negFloat .f64 v)) : Sem Value) := fun v => rfl
  replace hn := Lib.hid hn
  replace hm15 := Lib.hid hm15
  replace hm63 := Lib.hid hm63
  replace hn63 := Lib.hid hn63
  replace hlm := Lib.hid hlm
  replace hln := Lib.hid hln
  replace hord := Lib.hid hord
  go_enter Try.func6, Try.ntmps6
  go_wp2_with fail
  refine (small04_any _ hm).mono ?_
  rintro e w1 ⟨rfl, hb⟩
  replace hB := hB.next hb
  clear hb
  go_wp2_with fail
  refine (hd0.out _).mono ?_
  rintro e w2 ⟨t, rfl, ht, hb⟩
  replace hB := hB.next hb
  clear hb
  have htz : t.size ≤ 2 := by rw [← size_toList, ht.out]; have := dgl_len2 (k := 0) (n := 0) (by omega); simpa [dgl] using this
  go_wp2_with fail
  refine (hdj.out _).mono ?_
  rintro e w3 ⟨u, rfl, hu, hb⟩
  replace hB := hB.next hb
  clear hb
  have huz : u.size ≤ 2 := by rw [← size_toList, hu.out]; have := dgl_len2 (k := 0) (n := j) (by omega); simpa [dgl] using this
  go_wp2_with fail
  have hel : Hid ((⟨#[101, 45]⟩ ++ u : ByteArray).toList = 101 :: 45 :: dgl 0 j) := Lib.hid (by rw [toList_append, hu.out, me]; rfl)
  have hez : (⟨#[101, 45]⟩ ++ u : ByteArray).size ≤ 4 := by rw [ByteArray.size_append]; show 2 + u.size ≤ 4; omega
  refine (hdm.out _).mono ?_
  rintro e w4 ⟨s4, rfl, hs4, hb⟩
  replace hB := hB.next hb
  clear hb
  have hz4 : s4.size ≤ 15 := by rw [← size_toList, hs4.out]; exact hlm.out
  have f4 := Lib.hid (fun w hm => float_yes (s4 ++ (⟨#[101, 45]⟩ ++ u)) (false, m, (-(j : Int))) _ w (by rw [ByteArray.size_append]; omega) hm
    (by rw [toList_append, hs4.out, hel.out]; exact (ten_ascii (ten_dgl 0 m)).append (AsciiL.append (a := [101, 45]) (ascii_lits (by decide)) (ten_ascii (ten_dgl 0 j))))
    (by rw [toList_append, hs4.out, hel.out]; exact order_text false hm15.out hex.out (by omega) (by omega)) rfl)
  go_wp2_with fail
  refine (f4.out _ (hm.next hB)).mono ?_
  rintro e v4 ⟨rfl, hb⟩
  replace hB := hB.next hb
  clear hb
  go_wp2_with fail
  refine (hdn.out _).mono ?_
  rintro e w5 ⟨s5, rfl, hs5, hb⟩
  replace hB := hB.next hb
  clear hb
  have hz5 : s5.size ≤ 15 := by rw [← size_toList, hs5.out]; exact hln.out
  have f5 := Lib.hid (fun w hm => float_yes (s5 ++ (⟨#[101, 45]⟩ ++ u)) (false, n, (-(j : Int))) _ w (by rw [ByteArray.size_append]; omega) hm
    (by rw [toList_append, hs5.out, hel.out]; exact (ten_ascii (ten_dgl 0 n)).append (AsciiL.append (a := [101, 45]) (ascii_lits (by decide)) (ten_ascii (ten_dgl 0 j))))
    (by rw [toList_append, hs5.out, hel.out]; exact order_text false hn.out hex.out (by omega) (by omega)) rfl)
  go_wp2_with fail
  refine (f5.out _ (hm.next hB)).mono ?_
  rintro e v5 ⟨rfl, hb⟩
  replace hB := hB.next hb
  clear hb
  go_wp2_with fail
  refine (hdn.out _).mono ?_
  rintro e w6 ⟨s6, rfl, hs6, hb⟩
  replace hB := hB.next hb
  clear hb
  have hz6 : s6.size ≤ 15 := by rw [← size_toList, hs6.out]; exact hln.out
  have f6 := Lib.hid (fun w hm => float_yes (⟨#[45]⟩ ++ s6 ++ (⟨#[101, 45]⟩ ++ u)) (true, n, (-(j : Int))) _ w (by rw [ByteArray.size_append, ByteArray.size_append]; show 1 + s6.size + _ ≤ _; omega) hm
    (by rw [toList_append, toList_append, m45, hs6.out, hel.out]; exact ((ascii_sign true).append (ten_ascii (ten_dgl 0 n))).append (AsciiL.append (a := [101, 45]) (ascii_lits (by decide)) (ten_ascii (ten_dgl 0 j))))
    (by rw [toList_append, toList_append, m45, hs6.out, hel.out]; exact order_text true hn.out hex.out (by omega) (by omega)) rfl)
  go_wp2_with fail
  refine (f6.out _ (hm.next hB)).mono ?_
  rintro e v6 ⟨rfl, hb⟩
  replace hB := hB.next hb
  clear hb
  obtain ⟨o1, o2, o3, o4⟩ := hord.out
  have c5 : ((m : Int) == (n : Int)) = true ∨ (((m : Int) == (n : Int)) = false ∧ FloatKind.f64.format.order (floatW (false, n, (-(j : Int)))) 0 = some .gt) := by
    by_cases h : m = n
    · exact .inl (by simp [h])
    · exact .inr ⟨by simp only [beq_eq_false_iff_ne, ne_eq]; omega, o4 (by omega)⟩
  have c1 : (((m : Int) == 0) = true ∧ FloatKind.f64.format.order (floatW (false, m, (-(j : Int)))) 0 = some .eq) ∨ (((m : Int) == 0) = false ∧ FloatKind.f64.format.order (floatW (false, m, (-(j : Int)))) 0 = some .gt) := by
    rcases o1 with ⟨h, o⟩ | ⟨h, o⟩
    · exact .inl ⟨by simp [h], o⟩
    · exact .inr ⟨by simp only [beq_eq_false_iff_ne, ne_eq]; omega, o⟩
  clear o1 o4
  generalize floatW (false, m, (-(j : Int))) = x at o2 c1 ⊢
  generalize floatW (false, n, (-(j : Int))) = y at o2 o3 c5 ⊢
  generalize floatW (true, n, (-(j : Int))) = z at o3 ⊢
  rcases c1 with ⟨c1, c2⟩ | ⟨c1, c2⟩ <;> rcases o2 with o2 | o2 <;> rcases c5 with c5 | ⟨c5, c6⟩
  all_goals
    go_wp2_with fail
    go_ret
    exact ⟨rfl, hB⟩
theorem numberOrder_walk (m n k : Int) (w : World) (wm : (Lit.int .i64 m).wf = true) (wn : (Lit.int .i64 n).wf = true) (wk : (Lit.int .i64 k).wf = true) (hm : ML w) :
    Calls Try.prog 6 #[.int .i64 m, .int .i64 n, .int .i64 k] w (RetB w true) := by
  by_cases hout : m < 0 ∨ n < m ∨ 1000000000000000 ≤ n ∨ k < -22 ∨ 22 < k
  · exact numberOrder_out m n k w wm wn wk hm hout
  · obtain ⟨a, rfl⟩ : ∃ a : Nat, m = (a : Int) := ⟨m.toNat, by omega⟩
    obtain ⟨b, rfl⟩ : ∃ a : Nat, n = (a : Int) := ⟨n.toNat, by omega⟩
    have hb : b < 10 ^ 15 := by show b < 1000000000000000; omega
    by_cases hk : k < 0
    · obtain ⟨c, rfl⟩ : ∃ a : Nat, k = -(a : Int) := ⟨(-k).toNat, by omega⟩
      exact numberOrder_neg a b c w hm (by omega) hb (by omega) (by omega)
    · obtain ⟨c, rfl⟩ : ∃ a : Nat, k = (a : Int) := ⟨k.toNat, by omega⟩
      exact numberOrder_pos a b c w hm (by omega) hb (by omega)
end Go.Proofs.Ytfbmfibghgkgpaa
