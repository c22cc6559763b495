/- Plain: the forms of an address; no program in sight. -/
import Derived.Test.YtgkbdcdfpoaifaaDoorSixMoreP
namespace Go.Proofs.YtgkbdcdfpoaifaaDoor
open Go.RowKit
set_option linter.unusedVariables false
set_option linter.unusedSimpArgs false
set_option linter.unusedSectionVars false

theorem byteV10_ten {v : Nat} (h : v ≤ 255) : byteV10 (digL 10 v) = some v := by
  have hl : (digL 10 v).length ≤ 3 := by rw [digL_ten]; exact decDigits_small v (by omega)
  have hd : digs1 10 (digL 10 v) = some v := by unfold digs1; rw [if_neg (digL_ne _ _)]; exact digsGo_digL (by decide) (by decide) v
  unfold byteV10
  rw [if_neg, hd]
  · exact if_neg (by omega)
  · rintro (h1 | ⟨h1, h2⟩)
    · omega
    · by_cases h0 : v < 10
      · rw [digL_small h0] at h1; simp at h1
      · obtain ⟨c, r, h3, h4⟩ := digL_head (b := 10) (by decide) (by decide) v (by omega)
        rw [h3] at h2; simp at h2; exact h4 h2
theorem byteV10_byte4 (n k : Nat) : byteV10 (byte4 n k) = some (n / 256 ^ (3 - k) % 256) := by
  unfold byte4; rw [← digL_ten]; exact byteV10_ten (by omega)
theorem fourV_fourL {n : Nat} (h : n < 4294967296) : fourV (fourL n) = some n := by
  have e : fourL n = byte4 n 0 ++ 46 :: (byte4 n 1 ++ 46 :: (byte4 n 2 ++ 46 :: byte4 n 3)) := by rw [fourL_pieces]; simp
  unfold fourV
  rw [e, fourGo, cutC_has _ _ (byte4_no46 n 0)]
  dsimp only
  rw [if_pos rfl, byteV10_byte4]
  dsimp only
  rw [fourGo, cutC_has _ _ (byte4_no46 n 1)]
  dsimp only
  rw [if_pos rfl, byteV10_byte4]
  dsimp only
  rw [fourGo, cutC_has _ _ (byte4_no46 n 2)]
  dsimp only
  rw [if_pos rfl, byteV10_byte4]
  dsimp only
  rw [fourGo, cutC_hasnot _ (byte4_no46 n 3)]
  dsimp only
  rw [if_neg (by decide), byteV10_byte4]
  simp only [Option.map_some]
  congr 1
  simp
  omega
theorem digL_no58 (n : Nat) : ∀ c ∈ digL 10 n, c ≠ 58 := by
  intro c hc
  obtain ⟨d, hd, rfl⟩ := digL_mem (b := 10) (by decide) (by decide) n c hc
  exact (hexC_no ⟨d, by omega⟩).1
theorem byte4_no58 (n k : Nat) : ∀ c ∈ byte4 n k, c ≠ 58 := by unfold byte4; rw [← digL_ten]; exact digL_no58 _
theorem fourL_bet (n : Nat) : Bet (fourL n) := by
  refine ⟨fourL_ne n, ?_⟩
  have e : fourL n = byte4 n 0 ++ 46 :: (byte4 n 1 ++ 46 :: (byte4 n 2 ++ 46 :: byte4 n 3)) := by rw [fourL_pieces]; simp
  rw [e]
  intro c hc
  simp only [List.mem_append, List.mem_cons] at hc
  rcases hc with h | rfl | h | rfl | h | rfl | h
  · exact byte4_no58 _ _ c h
  · decide
  · exact byte4_no58 _ _ c h
  · decide
  · exact byte4_no58 _ _ c h
  · decide
  · exact byte4_no58 _ _ c h
theorem fourL_46 (n : Nat) : (fourL n).contains 46 = true := by
  have e : fourL n = byte4 n 0 ++ 46 :: (byte4 n 1 ++ 46 :: (byte4 n 2 ++ 46 :: byte4 n 3)) := by rw [fourL_pieces]; simp
  rw [e, List.contains_iff_mem]; simp
theorem rowS_snoc {g : Nat → List UInt8} {nb : Bool} {t : List UInt8} {x : List Nat} (hx : pieceL true nb t = some x) : ∀ {l : List Nat}, Told g l → rowS nb (l.map g ++ [t]) = some (l ++ x)
  | [], _ => hx
  | [n], h => by
    show rowS nb [g n, t] = _
    rw [rowS, (h n (by simp)).2 false nb]
    dsimp only
    rw [rowS, hx]; rfl
  | n :: m :: r, h => by
    have ih := rowS_snoc hx (l := m :: r) (fun y hy => h y (by simp at hy ⊢; exact .inr hy))
    rw [List.map_cons, List.map_cons, List.cons_append, List.cons_append, rowS, (h n (by simp)).2 false nb]
    dsimp only
    rw [List.map_cons, List.cons_append] at ih
    rw [ih]; rfl
/-- Some pieces of which are 0. -/
def midZ (a : List Nat) (f i : Nat) : List Nat := a.take f ++ (List.replicate (i - f) 0 ++ a.drop i)
theorem midZ_at {a : List Nat} {f : Nat} (h : f ≤ a.length) : midZ a f f = a := by simp [midZ]
theorem midZ_len {a : List Nat} {f i : Nat} (hf : f ≤ i) (hi : i ≤ a.length) : (midZ a f i).length = a.length := by simp [midZ]; omega
theorem midZ_set {a : List Nat} {f i : Nat} (hf : f ≤ i) (hi : i < a.length) : (midZ a f i).set i 0 = midZ a f (i + 1) := by
  unfold midZ
  have h1 : (a.take f).length = f := by rw [List.length_take]; omega
  rw [List.set_append_right _ _ (by omega), List.set_append_right _ _ (by simp; omega), h1, List.length_replicate, List.drop_eq_getElem_cons hi, show i - f - (i - f) = 0 by omega, List.set_cons_zero, show i + 1 - f = (i - f) + 1 by omega, List.replicate_succ']
  simp
theorem sixCells_set (l : List Nat) (i : Nat) : (sixCells l).setIfInBounds i (.int .u16 0) = sixCells (l.set i 0) := by
  apply Array.ext'
  simp [sixCells, List.map_set]
section
variable {a : List Nat} (ha : Six a)
include ha
theorem forms_b : sixP ((wholeL a).take 30 ++ fourL (pc a 6 * 65536 + pc a 7)) = some a := by
  have h6 := (ha.at 6 (by decide)).1
  have h7 := (ha.at 7 (by decide)).1
  have hn : pc a 6 * 65536 + pc a 7 < 4294967296 := by omega
  have ht := (told_part ha 6).1
  have hl := whole_len (a.take 6) (by intro e; have := congrArg List.length e; simp only [List.length_take, List.length_nil, ha.len] at this; omega)
  rw [List.length_take, ha.len, Nat.min_eq_left (by decide)] at hl
  have e : (wholeL a).take 30 ++ fourL (pc a 6 * 65536 + pc a 7) = joinC ((a.take 6).map hex4 ++ [fourL (pc a 6 * 65536 + pc a 7)]) := by
    rw [whole_cut ha 6 (by decide) (by decide), List.take_append, List.take_of_length_le (by omega), show 30 - (wholeL (a.take 6)).length = 1 by omega, joinC_append _ _ (by
      intro e; have := congrArg List.length e; simp only [List.length_map, List.length_take, List.length_nil, ha.len] at this; omega) (by simp)]
    simp [joinC, wholeL]
  have hb : ∀ t ∈ (a.take 6).map hex4 ++ [fourL (pc a 6 * 65536 + pc a 7)], Bet t := by
    intro t h
    rcases List.mem_append.1 h with h | h
    · exact ht.bet t h
    · simp at h; subst h; exact fourL_bet _
  have hp : pieceL true true (fourL (pc a 6 * 65536 + pc a 7)) = some [pc a 6, pc a 7] := by
    rw [pieceL_four (fourL_46 _), fourV_fourL hn]
    simp only [Option.map_some]
    rw [show (pc a 6 * 65536 + pc a 7) / 65536 = pc a 6 by omega, show (pc a 6 * 65536 + pc a 7) % 65536 = pc a 7 by omega]
  have hr : rowC true (joinC ((a.take 6).map hex4 ++ [fourL (pc a 6 * 65536 + pc a 7)])) = some (a.take 6 ++ [pc a 6, pc a 7]) := by
    unfold rowC
    rw [rowV_join true hb, rowS_snoc hp ht]
    exact if_pos (by rw [List.length_append, List.length_take, ha.len]; show min 6 8 + 2 ≤ 8; decide)
  have ea : a.take 6 ++ [pc a 6, pc a 7] = a := by
    have d6 := drop_getD (l := a) 6 (by rw [ha.len]; decide)
    have d7 := drop_getD (l := a) 7 (by rw [ha.len]; decide)
    rw [List.drop_of_length_le (show a.length ≤ 7 + 1 by rw [ha.len]; decide)] at d7
    rw [d7] at d6
    conv => rhs; rw [← List.take_append_drop 6 a, d6]
  unfold sixP
  rw [e, cutD_none _ (join_dd hb), if_neg (by simp), hr, ea]
  exact if_pos ha.len
theorem forms_z {f t : Nat} (h1 : f < t) (h2 : t ≤ 8) : sixP (wholeL (a.take f) ++ 58 :: 58 :: wholeL (a.drop t)) = some (midZ a f t) := by
  have h := sixP_two (told_part ha f).1 (told_part ha t).2 (by rw [List.length_take, List.length_drop, ha.len]; omega)
  rw [show 8 - (a.take f).length - (a.drop t).length = t - f by rw [List.length_take, List.length_drop, ha.len]; omega] at h
  exact h
end
end Go.Proofs.YtgkbdcdfpoaifaaDoor
