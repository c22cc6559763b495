/- Plain: which texts are no addresses; no program in sight. -/
import Derived.Test.YtgkbdcdfpoaifaaDoorSixWhole
namespace Go.Proofs.YtgkbdcdfpoaifaaDoor
open Go.RowKit
set_option linter.unusedVariables false
set_option linter.unusedSimpArgs false
set_option linter.unusedSectionVars false

theorem rowS_bad (nb : Bool) : ∀ {ts : List (List UInt8)}, (∃ t ∈ ts, ∀ last nb, pieceL last nb t = none) → rowS nb ts = none
  | [], h => by obtain ⟨t, ht, _⟩ := h; cases ht
  | [t], h => by
    obtain ⟨x, hx, h⟩ := h
    simp at hx; subst hx
    exact h true nb
  | t :: u :: r, h => by
    obtain ⟨x, hx, h⟩ := h
    rw [rowS]
    rcases List.mem_cons.1 hx with rfl | hx
    · rw [h false nb]
    · cases pieceL false nb t with
      | none => rfl
      | some y => dsimp only; rw [rowS_bad nb ⟨x, hx, h⟩]; rfl
theorem pieceL_ge {last nb : Bool} {t : List UInt8} {x : List Nat} (h : pieceL last nb t = some x) : 1 ≤ x.length := by
  unfold pieceL at h
  split at h
  · cases h2 : fourV t with
    | none => rw [h2] at h; cases h
    | some v => rw [h2] at h; cases h; simp
  · cases h2 : pieceV t with
    | none => rw [h2] at h; cases h
    | some v => rw [h2] at h; cases h; simp
theorem rowS_len (nb : Bool) : ∀ {ts : List (List UInt8)} {x : List Nat}, rowS nb ts = some x → ts.length ≤ x.length
  | [], x, h => Nat.zero_le _
  | [t], x, h => pieceL_ge h
  | t :: u :: r, x, h => by
    rw [rowS] at h
    cases hp : pieceL false nb t with
    | none => rw [hp] at h; cases h
    | some y =>
      rw [hp] at h
      dsimp only at h
      cases hr : rowS nb (u :: r) with
      | none => rw [hr] at h; cases h
      | some z =>
        rw [hr] at h
        cases h
        have h1 := pieceL_ge hp
        have h2 := rowS_len nb hr
        simp only [List.length_append, List.length_cons] at h2 ⊢
        omega
theorem rowC_bad {nb : Bool} {ts : List (List UInt8)} (hj : joinC ts ≠ []) (h58 : ∀ t ∈ ts, ∀ c ∈ t, c ≠ 58) (h : ∃ t ∈ ts, ∀ last nb, pieceL last nb t = none) : rowC nb (joinC ts) = none := by
  unfold rowC; rw [rowV_join2 nb hj h58, rowS_bad nb h]
theorem rowC_many {nb : Bool} {ts : List (List UInt8)} (hj : joinC ts ≠ []) (h58 : ∀ t ∈ ts, ∀ c ∈ t, c ≠ 58) (h : 8 < ts.length) : rowC nb (joinC ts) = none := by
  unfold rowC; rw [rowV_join2 nb hj h58]
  cases hr : rowS nb ts with
  | none => rfl
  | some x => exact if_neg (by have := rowS_len nb hr; omega)
theorem piece_empty : ∀ last nb, pieceL last nb [] = none := by decide
theorem sixP_row {l : List UInt8} (h : hasDD l = false) (hr : rowC true l = none) : sixP l = none := by
  unfold sixP; rw [cutD_none l h, if_neg (by simp), hr]
theorem six_nil (nb : Bool) : rowC nb [] = some [] := by cases nb <;> rfl
theorem whole_ne {a : List Nat} (h : a ≠ []) : wholeL a ≠ [] := by
  intro e
  have := whole_len a h
  rw [e] at this
  cases a with
  | nil => exact h rfl
  | cons x r => simp at this; omega
section
variable {a : List Nat} (ha : Six a)
include ha
theorem six_told : Told hex4 a := told_hex4 ha.lt
theorem six_ne : a ≠ [] := by rintro rfl; exact absurd ha.len (by decide)
theorem six_58 : ∀ t ∈ a.map hex4, ∀ c ∈ t, c ≠ 58 := fun t ht => ((six_told ha).bet t ht).2
theorem whole_back : sixP (wholeL a) = some a := sixP_whole (six_told ha) ha.len
theorem more_e : sixP (wholeL a ++ [58]) = none := by
  have e : wholeL a ++ [58] = joinC (a.map hex4 ++ [[]]) := by
    rw [joinC_append _ _ (by simpa using six_ne ha) (by simp)]; rfl
  refine sixP_row ?_ ?_
  · rw [hasDD_append, show hasDD (wholeL a) = false from join_dd (six_told ha).bet, decide_eq_false (fun h => join_last (six_told ha).bet h.1)]; rfl
  · rw [e]
    refine rowC_bad (by rw [← e]; simp) ?_ ⟨[], by simp, piece_empty⟩
    intro t ht
    rcases List.mem_append.1 ht with ht | ht
    · exact six_58 ha t ht
    · simp at ht; subst ht; intro c hc; cases hc
theorem more_f : sixP (58 :: wholeL a) = none := by
  have e : 58 :: wholeL a = joinC ([] :: a.map hex4) := by
    rw [joinC_cons, if_neg (by simpa using six_ne ha)]; rfl
  refine sixP_row ?_ ?_
  · rw [hasDD_cons, decide_eq_false (fun h => join_head (six_told ha).bet h.2)]
    exact join_dd (six_told ha).bet
  · rw [e]
    refine rowC_bad (by rw [← e]; simp) ?_ ⟨[], by simp, piece_empty⟩
    intro t ht
    rcases List.mem_cons.1 ht with rfl | ht
    · intro c hc; cases hc
    · exact six_58 ha t ht
theorem take_last : a = a.take 7 ++ [pc a 7] := by
  have := drop_getD (l := a) 7 (by rw [ha.len]; decide)
  rw [List.drop_of_length_le (show a.length ≤ 7 + 1 by rw [ha.len]; decide)] at this
  conv => lhs; rw [← List.take_append_drop 7 a, this]
omit ha in
theorem piece_five (n : Nat) {c : UInt8} : ∀ last nb, pieceL last nb (hex4 n ++ [c]) = none := by
  intro last nb
  unfold pieceL
  have hv : pieceV (hex4 n ++ [c]) = none := by
    unfold pieceV; rw [if_pos (by rw [List.length_append]; show 4 < 4 + 1; decide)]
  by_cases hc : last = true ∧ nb = true ∧ (hex4 n ++ [c]).contains 46 = true
  · rw [if_pos hc]
    have h46 : c = 46 := by
      have := hc.2.2
      rw [List.contains_iff_mem] at this
      rcases List.mem_append.1 this with h | h
      · exact absurd rfl (hex4_no46 n 46 h)
      · simp at h; exact h.symm
    subst h46
    have hcut : cutC 46 (hex4 n ++ [46]) = (hex4 n, [], true) := cutC_has (hex4 n) [] (hex4_no46 n)
    have : fourV (hex4 n ++ [46]) = none := by
      unfold fourV
      rw [fourGo, hcut]
      dsimp only
      rw [if_pos rfl]
      have : byteV10 (hex4 n) = none := by unfold byteV10; rw [if_pos (.inl (by show 3 < 4; decide))]
      rw [this]
    rw [this]; rfl
  · rw [if_neg hc, hv]; rfl
theorem more_g (c : UInt8) : sixP (wholeL a ++ [c]) = none := by
  by_cases hc : c = 58
  · subst hc; exact more_e ha
  · have e : wholeL a ++ [c] = joinC ((a.take 7).map hex4 ++ [hex4 (pc a 7) ++ [c]]) := by
      have h := take_last ha
      unfold wholeL
      conv => lhs; rw [h]
      rw [List.map_append, List.map_cons, List.map_nil, joinC_snoc, joinC_snoc, List.append_assoc]
    have h58 : ∀ t ∈ (a.take 7).map hex4 ++ [hex4 (pc a 7) ++ [c]], ∀ d ∈ t, d ≠ 58 := by
      intro t ht
      rcases List.mem_append.1 ht with ht | ht
      · obtain ⟨n, _, rfl⟩ := List.mem_map.1 ht; exact (hex4_bet n).2
      · simp at ht; subst ht
        intro d hd
        rcases List.mem_append.1 hd with hd | hd
        · exact (hex4_bet _).2 d hd
        · simp at hd; rw [hd]; exact hc
    refine sixP_row ?_ ?_
    · rw [e]
      refine join_dd ?_
      intro t ht
      refine ⟨?_, h58 t ht⟩
      rcases List.mem_append.1 ht with ht | ht
      · obtain ⟨n, _, rfl⟩ := List.mem_map.1 ht; exact (hex4_bet n).1
      · simp at ht; subst ht; simp
    · rw [e]
      exact rowC_bad (by rw [← e]; simp) h58 ⟨hex4 (pc a 7) ++ [c], by simp, piece_five _⟩
theorem more_h : sixP (58 :: 58 :: wholeL a) = none := by
  unfold sixP
  rw [show cutD (58 :: 58 :: wholeL a) = ([], wholeL a, true) from cutD_at [] (wholeL a) rfl (by simp), if_pos rfl]
  dsimp only
  rw [six_nil, show rowC true (wholeL a) = some a from rowC_told true (six_told ha) (by rw [ha.len]; decide)]
  dsimp only
  rw [if_neg (by rw [ha.len]; decide)]
theorem more_i : sixP (wholeL a ++ [58, 58]) = none := by
  unfold sixP
  rw [show cutD (wholeL a ++ [58, 58]) = (wholeL a, [], true) from cutD_at (wholeL a) [] (join_dd (six_told ha).bet) (join_last (six_told ha).bet), if_pos rfl]
  dsimp only
  rw [six_nil, show rowC false (wholeL a) = some a from rowC_told false (six_told ha) (by rw [ha.len]; decide)]
  dsimp only
  rw [if_neg (by rw [ha.len]; decide)]
theorem more_k : sixP (wholeL a ++ [58, 49]) = none := by
  have e : wholeL a ++ [58, 49] = joinC (a.map hex4 ++ [[49]]) := by
    rw [joinC_append _ _ (by simpa using six_ne ha) (by simp)]; rfl
  have h58 : ∀ t ∈ a.map hex4 ++ [[49]], ∀ c ∈ t, c ≠ 58 := by
    intro t ht
    rcases List.mem_append.1 ht with ht | ht
    · exact six_58 ha t ht
    · simp at ht; subst ht; intro c hc; simp at hc; rw [hc]; decide
  refine sixP_row ?_ ?_
  · rw [e]
    refine join_dd ?_
    intro t ht
    refine ⟨?_, h58 t ht⟩
    rcases List.mem_append.1 ht with ht | ht
    · exact ((six_told ha).bet t ht).1
    · simp at ht; subst ht; simp
  · rw [e]
    exact rowC_many (by rw [← e]; simp) h58 (by rw [List.length_append, List.length_map, ha.len]; decide)
theorem whole_cut (i : Nat) (h0 : 0 < i) (h8 : i < 8) : wholeL a = wholeL (a.take i) ++ 58 :: wholeL (a.drop i) := by
  have := joinC_append ((a.take i).map hex4) ((a.drop i).map hex4) (by
    intro e; have := congrArg List.length e; simp only [List.length_map, List.length_take, List.length_nil, ha.len] at this; omega) (by
    intro e; have := congrArg List.length e; simp only [List.length_map, List.length_drop, List.length_nil, ha.len] at this; omega)
  rw [← List.map_append, List.take_append_drop] at this
  exact this
theorem whole_take (i : Nat) (h0 : 0 < i) (h8 : i < 8) : (wholeL a).take (5 * i - 1) = wholeL (a.take i) ∧ (wholeL a).drop (5 * i) = wholeL (a.drop i) := by
  have hl := whole_len (a.take i) (by intro e; have := congrArg List.length e; simp only [List.length_take, List.length_nil, ha.len] at this; omega)
  rw [List.length_take, ha.len, Nat.min_eq_left (by omega)] at hl
  rw [whole_cut ha i h0 h8]
  constructor
  · rw [List.take_append_of_le_length (by omega), List.take_of_length_le (by omega)]
  · rw [show 5 * i = (wholeL (a.take i)).length + 1 by omega, List.drop_append]
    simp
theorem told_part (i : Nat) : Told hex4 (a.take i) ∧ Told hex4 (a.drop i) :=
  ⟨told_hex4 fun x hx => ha.lt x (List.mem_of_mem_take hx), told_hex4 fun x hx => ha.lt x (List.mem_of_mem_drop hx)⟩
theorem more_n : sixP ((wholeL a).take 34) = none := by
  rw [show (wholeL a).take 34 = wholeL (a.take 7) from (whole_take ha 7 (by decide) (by decide)).1]
  have ht := (told_part ha 7).1
  unfold sixP
  rw [show cutD (wholeL (a.take 7)) = (wholeL (a.take 7), [], false) from cutD_none _ (join_dd ht.bet), if_neg (by simp), show rowC true (wholeL (a.take 7)) = some (a.take 7) from rowC_told true ht (by rw [List.length_take, ha.len]; decide)]
  dsimp only
  rw [if_neg (by rw [List.length_take, ha.len]; decide)]
theorem more_m : sixP ((wholeL a).take 34 ++ [58, 58, 49, 58, 58]) = none := by
  rw [show (wholeL a).take 34 = wholeL (a.take 7) from (whole_take ha 7 (by decide) (by decide)).1]
  have ht := (told_part ha 7).1
  unfold sixP
  rw [show cutD (wholeL (a.take 7) ++ [58, 58, 49, 58, 58]) = (wholeL (a.take 7), [49, 58, 58], true) from cutD_at _ _ (join_dd ht.bet) (join_last ht.bet), if_pos rfl]
  dsimp only
  rw [show rowC false (wholeL (a.take 7)) = some (a.take 7) from rowC_told false ht (by rw [List.length_take, ha.len]; decide)]
  dsimp only
  rw [show rowC true [49, 58, 58] = none by decide +kernel]
end
end Go.Proofs.YtgkbdcdfpoaifaaDoor
