/- The plain laws of layer 9: no program in sight. -/
import Derived.Test.YtbejimncmfeggaaDoorFourD
namespace Go.Proofs.YtbejimncmfeggaaDoor
open Go.RowKit
set_option linter.unusedVariables false

theorem getLast_app {α : Type} (a : List α) {b : List α} (h : b ≠ []) : (a ++ b).getLast? = b.getLast? := by
  rw [List.getLast?_append]
  cases hb : b.getLast? with
  | none => exact absurd (List.getLast?_eq_none_iff.1 hb) h
  | some x => rfl
theorem splitC_last (c : UInt8) (l : List UInt8) (h : (splitC c l).getLast? = some []) : l = [] ∨ l.getLast? = some c := by
  induction l with
  | nil => exact .inl rfl
  | cons d r ih =>
    right
    rw [splitC_cons] at h
    have hne := splitC_ne c r
    by_cases hd : d = c
    · rw [if_pos hd] at h
      cases hr : r with
      | nil => rw [hd]; rfl
      | cons x y =>
        have h2 : (splitC c r).getLast? = some [] := by
          rw [List.getLast?_cons] at h
          cases hs : splitC c r with
          | nil => exact absurd hs hne
          | cons p q => rw [hs] at h; rw [List.getLast?_eq_some_getLast (by simp)] at h ⊢; simpa using h
        rcases ih h2 with h3 | h3
        · rw [hr] at h3; cases h3
        · rw [← hr, List.getLast?_cons, h3]; rfl
    · rw [if_neg hd] at h
      cases hs : splitC c r with
      | nil => exact absurd hs hne
      | cons p q =>
        rw [hs] at h ih
        cases q with
        | nil => simp at h
        | cons y z =>
          have h2 : (p :: y :: z).getLast? = some [] := by simpa using h
          rcases ih h2 with h3 | h3
          · subst h3; simp [splitC] at hs
          · rw [List.getLast?_cons, h3]; rfl
theorem partsL_point (s : List UInt8) : partsL (s ++ [46]) = splitC 46 s := by
  have e : splitC 46 (s ++ [46]) = splitC 46 s ++ [[]] := splitC_append 46 s []
  unfold partsL
  have := List.length_pos_iff.2 (splitC_ne 46 s)
  rw [e, if_pos ⟨by simp; omega, by simp⟩]
  simp
theorem partsL_plain {s : List UInt8} (h0 : s ≠ []) (h : s.getLast? ≠ some 46) : partsL s = splitC 46 s := by
  unfold partsL
  rw [if_neg]
  rintro ⟨_, h2⟩
  rcases splitC_last 46 s h2 with h3 | h3
  · exact h0 h3
  · exact h h3
theorem parseGo_none : ∀ (l : List (List UInt8)) (i sum : Nat), parseGo i (l ++ [[]]) sum = none
  | [], i, sum => by simp [parseGo, numV]
  | [x], i, sum => by
    show parseGo i (x :: [] :: []) sum = none
    rw [parseGo]
    cases numV x with
    | none => rfl
    | some v => dsimp only; split <;> simp [parseGo, numV]
  | x :: y :: r, i, sum => by
    show parseGo i (x :: y :: (r ++ [[]])) sum = none
    rw [parseGo]
    have := fun i sum => parseGo_none (y :: r) i sum
    cases numV x with
    | none => rfl
    | some v => dsimp only; split
                · exact this _ _
                · rfl
theorem parse_points (s : List UInt8) : parseL (s ++ [46, 46]) = none := by
  have e : s ++ [46, 46] = (s ++ [46]) ++ [46] := by simp
  unfold parseL
  rw [e, partsL_point, show splitC 46 (s ++ [46]) = splitC 46 s ++ [[]] from splitC_append 46 s []]
  unfold parseV
  split
  · rfl
  · exact parseGo_none _ _ _
theorem ends_points (s : List UInt8) : endsL (s ++ [46, 46]) = false := by
  have e : s ++ [46, 46] = (s ++ [46]) ++ [46] := by simp
  unfold endsL
  rw [e, partsL_point, show splitC 46 (s ++ [46]) = splitC 46 s ++ [[]] from splitC_append 46 s []]
  have : lastP (splitC 46 s ++ [[]]) = [] := by simp [lastP]
  rw [this]; rfl
theorem parse_point {s : List UInt8} (h0 : s ≠ []) (h : s.getLast? ≠ some 46) : parseL (s ++ [46]) = parseL s := by
  unfold parseL; rw [partsL_point, partsL_plain h0 h]
theorem ends_point {s : List UInt8} (h0 : s ≠ []) (h : s.getLast? ≠ some 46) : endsL (s ++ [46]) = endsL s := by
  unfold endsL; rw [partsL_point, partsL_plain h0 h]
theorem parseGo_ends : ∀ (l : List (List UInt8)) (i sum v : Nat), l ≠ [] → parseGo i l sum = some v → (numV (lastP l)).isSome = true
  | [], _, _, _, h, _ => absurd rfl h
  | [x], i, sum, v, _, e => by
    unfold parseGo at e
    show (numV x).isSome = true
    cases hx : numV x with
    | none => rw [hx] at e; cases e
    | some n => rfl
  | x :: y :: r, i, sum, v, _, e => by
    unfold parseGo at e
    have hl : lastP (x :: y :: r) = lastP (y :: r) := by unfold lastP; rw [List.getLast?_cons_cons]
    rw [hl]
    cases hx : numV x with
    | none => rw [hx] at e; cases e
    | some n =>
      rw [hx] at e
      dsimp only at e
      split at e
      · exact parseGo_ends (y :: r) _ _ v (by simp) e
      · cases e
theorem parse_ends {s : List UInt8} {v : Nat} (h : parseL s = some v) : endsL s = true := by
  unfold parseL parseV at h
  split at h
  · cases h
  · unfold endsL; rw [parseGo_ends _ _ _ _ (partsL_ne s) h, Bool.or_true]
theorem lastP_append {a b : List (List UInt8)} (h : b ≠ []) : lastP (a ++ b) = lastP b := by
  unfold lastP; rw [getLast_app _ h]
theorem ends_behind (a : List UInt8) {b : List UInt8} (hb : b ≠ []) : endsL (a ++ 46 :: b) = endsL b := by
  have key : lastP (partsL (a ++ 46 :: b)) = lastP (partsL b) := by
    have hA := splitC_ne 46 a
    have hB := splitC_ne 46 b
    have hla := List.length_pos_iff.2 hA
    have hlb := List.length_pos_iff.2 hB
    unfold partsL
    rw [splitC_append]
    by_cases hl : (splitC 46 b).getLast? = some []
    · rw [if_pos ⟨by rw [List.length_append]; omega, by rw [getLast_app _ hB]; exact hl⟩]
      by_cases h1 : 1 < (splitC 46 b).length
      · rw [if_pos ⟨h1, hl⟩, List.dropLast_append_of_ne_nil hB, lastP_append]
        intro h2
        have := congrArg List.length h2
        rw [List.length_dropLast, List.length_nil] at this; omega
      · exfalso
        have hs : splitC 46 b = [[]] := by
          match hq : splitC 46 b with
          | [] => exact absurd hq hB
          | [x] => rw [hq] at hl; simp at hl; rw [hl]
          | x :: y :: r => rw [hq] at h1; simp at h1
        cases b with
        | nil => exact hb rfl
        | cons d r =>
          rw [splitC_cons] at hs
          split at hs
          · have := splitC_ne 46 r; simp at hs; exact this hs
          · simp at hs
    · rw [if_neg (by rw [getLast_app _ hB]; exact fun h => hl h.2), if_neg (fun h => hl h.2), lastP_append hB]
  unfold endsL; rw [key]
end Go.Proofs.YtbejimncmfeggaaDoor
