/- Plain: what words of a number's digits say. -/
import Derived.Test.YtbejimncmfeggaaDoorSrcQ
import Derived.Test.YtbejimncmfeggaaDoorNumP
namespace Go.Proofs.YtbejimncmfeggaaDoor
open Go.RowKit
set_option linter.unusedVariables false
set_option linter.unusedSimpArgs false

theorem geZ_int {n : Nat} (h : n < 2 ^ 53) : geZ (floatOfInt .f64 (n : Int)) = true := by
  obtain ⟨m, i, hr⟩ := read_int h
  unfold geZ
  rw [show FloatKind.f64.format = Ieee.double from rfl]
  unfold Ieee.Format.order
  rw [hr, show Ieee.double.read 0 = .number false 0 (-1074) from by decide]
  unfold Ieee.Datum.order
  dsimp only
  have h0 : ∀ k, Ieee.signed false 0 k = 0 := fun k => by unfold Ieee.signed; simp
  have h1 : ∀ k, 0 ≤ Ieee.signed false m k := fun k => by unfold Ieee.signed; rw [if_neg (by decide)]; exact Int.natCast_nonneg _
  rw [h0]
  have := h1 ((i - min i (-1074)).toNat)
  rcases Int.lt_or_eq_of_le this with h | h
  · rw [show compare (Ieee.signed false m (i - min i (-1074)).toNat) 0 = .gt from Int.compare_eq_gt.2 h]; rfl
  · rw [← h]; rfl
theorem takeS_end (st : DSt) (D : List UInt8) (c : UInt8) : takeS st (D ++ [c]) = takeC st D c := by
  unfold takeS
  rw [getLast_snoc, List.dropLast_concat]
theorem noNaN_toldI {n : Nat} (h : n < 2 ^ 53) : NoNaN (floatOfInt .f64 (n : Int)) := by
  obtain ⟨m, i, hr⟩ := read_int h
  exact .inl ⟨_, _, _, hr⟩
theorem dgl_ne (k n : Nat) : dgl k n ≠ [] := by unfold dgl; intro h; exact digL_ne 10 n (List.append_eq_nil_iff.1 h).2
theorem dgl_digit {k n : Nat} {c : UInt8} (h : c ∈ dgl k n) : 48 ≤ c.toNat ∧ c.toNat ≤ 57 := by
  obtain ⟨d, hd, rfl⟩ := ten_dgl k n c h
  have : ∀ d : Fin 10, 48 ≤ (hexC d.val).toNat ∧ (hexC d.val).toNat ≤ 57 := by decide
  exact this ⟨d, hd⟩
theorem takeC_no {st : DSt} {D : List UInt8} {c : UInt8} (h : c ≠ 119 ∧ c ≠ 104 ∧ c ≠ 120) : takeC st D c = none := by
  unfold takeC
  rw [if_neg h.1, if_neg h.2.1, if_neg h.2.2]
theorem takeS_digits (st : DSt) (k n : Nat) : takeS st (dgl k n) = none := by
  obtain ⟨D, c, e⟩ : ∃ D c, dgl k n = D ++ [c] := ⟨_, _, (List.dropLast_concat_getLast (dgl_ne k n)).symm⟩
  have hc := dgl_digit (k := k) (n := n) (c := c) (by rw [e]; simp)
  rw [e, takeS_end]
  refine takeC_no ⟨?_, ?_, ?_⟩ <;> (rintro rfl; exact absurd hc (by decide))
theorem num_dgl {k n : Nat} (hn : n ≤ 9223372036854775807) : numN (dgl k n) = n := by
  unfold numN
  rw [digs1_dgl]
  show min n maxI = n
  unfold maxI; omega
theorem float_dgl (k n : Nat) : floatP (dgl k n) = if (dgl k n).length ≤ 15 then some (false, n, 0) else none := by
  have ht := ten_dgl k n
  have hh : (dgl k n).head? ≠ some 45 := by
    have := head_ten ht (b := []) (by simp)
    rwa [List.append_nil] at this
  by_cases h15 : (dgl k n).length ≤ 15
  · rw [if_pos h15]
    have h := floatQ_form (b := []) (m := 0) ht (fun c hc => by cases hc) (by rw [List.append_nil]; exact digs1_dgl k n) (by simpa using h15) false (fun h => by cases h) (fun _ => rfl) [] (.inl ⟨rfl, rfl⟩) (by simp) (by simp)
    rw [List.append_nil, show pointed false [] = [] from rfl, List.append_nil] at h
    exact floatP_none hh h
  · rw [if_neg h15]
    have hq : floatQ (dgl k n) = none := by
      have hne : ∀ c ∈ dgl k n, c ≠ 101 ∧ c ≠ 69 := fun c hc => ⟨(ten_no ht hc).1, (ten_no ht hc).2.1⟩
      have h1 := cutE_behind (m := []) hne
      have h2 := cutC_ten (m := []) ht
      rw [List.append_nil] at h1 h2
      have e1 : cutE (dgl k n) = (dgl k n, none) := by rw [h1]; simp [cutE]
      have e2 : cutC 46 (dgl k n) = (dgl k n, [], false) := by simpa [cutC] using h2
      unfold floatQ
      rw [e1]
      dsimp only
      rw [e2]
      dsimp only
      rw [if_pos (.inr (by simpa using h15))]
    unfold floatP
    split
    · rename_i r e
      exact absurd (by rw [e]; rfl) hh
    · rw [hq]; rfl
theorem lt53 {k n : Nat} (h : (dgl k n).length ≤ 15) : n < 2 ^ 53 :=
  Nat.lt_of_lt_of_le (digs1_le (digs1_dgl k n)) (Nat.le_trans (Nat.pow_le_pow_right (by decide) h) (by decide))
theorem okW_dgl {st : DSt} {k n : Nat} (hn : n ≤ 9223372036854775807) : okW st (dgl k n) = (decide (0 < n) && !st.hw && !st.hd) := by
  unfold okW
  rw [digs1_dgl, num_dgl hn]; rfl
theorem okH_dgl {st : DSt} {k n : Nat} (hn : n ≤ 9223372036854775807) : okH st (dgl k n) = (decide (0 < n) && !st.hh && !st.hd) := by
  unfold okH
  rw [digs1_dgl, num_dgl hn]; rfl
theorem okX_dgl (st : DSt) (k n : Nat) : okX st (dgl k n) = (decide ((dgl k n).length ≤ 15) && !st.hw && !st.hh && !st.hd) := by
  unfold okX numF
  rw [float_dgl]
  by_cases h : (dgl k n).length ≤ 15
  · rw [if_pos h, decide_eq_true h]
    show (true && geZ (floatW (false, n, 0)) && _ && _ && _) = _
    rw [floatW_whole (lt53 h), geZ_int (lt53 h)]
    simp
  · rw [if_neg h, decide_eq_false h]; simp
theorem numF_dgl {k n : Nat} (h : (dgl k n).length ≤ 15) : numF (dgl k n) = floatOfInt .f64 (n : Int) := by
  unfold numF
  rw [float_dgl, if_pos h]
  show floatW (false, n, 0) = _
  rw [floatW_whole (lt53 h)]
def stW (n : Nat) : DSt := ⟨true, n, false, 0, false, 0⟩
def stH (n : Nat) : DSt := ⟨true, n, true, n, false, 0⟩
def stX (n : Nat) : DSt := ⟨false, 0, false, 0, true, floatOfInt .f64 (n : Int)⟩
theorem takeW (st : DSt) {k n : Nat} (hn : n ≤ 9223372036854775807) : takeS st (dgl k n ++ [119]) = if (decide (0 < n) && !st.hw && !st.hd) = true then some { st with hw := true, w := (n : Int) } else none := by
  rw [takeS_end]; unfold takeC; rw [if_pos rfl, okW_dgl hn, num_dgl hn]
theorem takeH (st : DSt) {k n : Nat} (hn : n ≤ 9223372036854775807) : takeS st (dgl k n ++ [104]) = if (decide (0 < n) && !st.hh && !st.hd) = true then some { st with hh := true, h := (n : Int) } else none := by
  rw [takeS_end]; unfold takeC; rw [if_neg (by decide), if_pos rfl, okH_dgl hn, num_dgl hn]
theorem takeX (st : DSt) (k n : Nat) : takeS st (dgl k n ++ [120]) = if (decide ((dgl k n).length ≤ 15) && !st.hw && !st.hh && !st.hd) = true then some { st with hd := true, d := numF (dgl k n) } else none := by
  rw [takeS_end]; unfold takeC; rw [if_neg (by decide), if_neg (by decide), if_pos rfl, okX_dgl]
theorem desc_w {k n : Nat} (hn : n ≤ 9223372036854775807) : descL [dgl k n ++ [119]] = if 0 < n then some (stW n) else none := by
  unfold descL takeAll
  rw [takeW _ hn]
  by_cases h : 0 < n
  · rw [decide_eq_true h, if_pos (by rfl), if_pos h]; rfl
  · rw [decide_eq_false h, if_neg (by decide), if_neg h]; rfl
theorem desc_hw {k n : Nat} (hn : n ≤ 9223372036854775807) : descL [dgl k n ++ [104], dgl k n ++ [119]] = if 0 < n then some (stH n) else none := by
  unfold descL takeAll takeAll
  rw [takeH _ hn]
  by_cases h : 0 < n
  · rw [decide_eq_true h, if_pos (by rfl), if_pos h]
    show ((takeS _ _).bind _).bind _ = _
    rw [takeW _ hn, decide_eq_true h, if_pos (by rfl)]; rfl
  · rw [decide_eq_false h, if_neg (by decide), if_neg h]; rfl
theorem desc_x (k n : Nat) : descL [dgl k n ++ [120]] = if (dgl k n).length ≤ 15 then some (stX n) else none := by
  unfold descL takeAll
  rw [takeX]
  by_cases h : (dgl k n).length ≤ 15
  · rw [decide_eq_true h, if_pos (by rfl), if_pos h, numF_dgl h]; rfl
  · rw [decide_eq_false h, if_neg (by decide), if_neg h]; rfl
theorem desc_ww {k n : Nat} (hn : n ≤ 9223372036854775807) : descL [dgl k n ++ [119], dgl k n ++ [119]] = none := by
  unfold descL takeAll takeAll
  rw [takeW _ hn]
  by_cases h : 0 < n
  · rw [decide_eq_true h, if_pos (by rfl)]
    show ((takeS _ _).bind _).bind _ = _
    rw [takeW _ hn, if_neg (by simp)]; rfl
  · rw [decide_eq_false h, if_neg (by decide)]; rfl
theorem desc_xx (k n : Nat) : descL [dgl k n ++ [120], dgl k n ++ [120]] = none := by
  unfold descL takeAll takeAll
  rw [takeX]
  by_cases h : (dgl k n).length ≤ 15
  · rw [decide_eq_true h, if_pos (by rfl)]
    show ((takeS _ _).bind _).bind _ = _
    rw [takeX, if_neg (by simp)]; rfl
  · rw [decide_eq_false h, if_neg (by decide)]; rfl
theorem desc_xw {k n : Nat} (hn : n ≤ 9223372036854775807) : descL [dgl k n ++ [120], dgl k n ++ [119]] = none := by
  unfold descL takeAll takeAll
  rw [takeX]
  by_cases h : (dgl k n).length ≤ 15
  · rw [decide_eq_true h, if_pos (by rfl)]
    show ((takeS _ _).bind _).bind _ = _
    rw [takeW _ hn, if_neg (by simp)]; rfl
  · rw [decide_eq_false h, if_neg (by decide)]; rfl
theorem desc_d (k n : Nat) : descL [dgl k n] = none := by
  unfold descL takeAll
  rw [takeS_digits]; rfl
theorem desc_cap (k n : Nat) : descL [dgl k n ++ [87]] = none := by
  unfold descL takeAll
  rw [takeS_end, takeC_no ⟨by decide, by decide, by decide⟩]; rfl
end Go.Proofs.YtbejimncmfeggaaDoor
