/- Plain: how long what was read is, when it is written. -/
import Derived.Test.YtbejimncmfeggaaDoorSrcQ
namespace Go.Proofs.YtbejimncmfeggaaDoor
open Go.RowKit
set_option linter.unusedVariables false
set_option linter.unusedSimpArgs false

theorem runW_ends : ∀ (st : Bool) (l : List UInt8), EndsW (runL wordS st l).2.1
  | st, [] => .inl rfl
  | st, c :: r => by
    cases h : (wordS st c).1
    · rw [runL_no h]
      refine .inr ⟨c, r, rfl, ?_⟩
      unfold wordS at h
      cases st
      · rw [if_neg (by decide)] at h
        split at h
        · cases h
        · split at h
          · assumption
          · cases h
      · rw [if_pos rfl] at h; cases h
    · rw [runL_yes h]
      exact runW_ends _ r
theorem dwL_sum : ∀ (n : Nat) (l : List UInt8), l.length ≤ n → EndsW l → ((dwL l).1.flatMap (fun t => 32 :: t)).length + (dwL l).2.length ≤ l.length := by
  intro n
  induction n with
  | zero =>
    intro l hl _
    obtain rfl : l = [] := List.eq_nil_of_length_eq_zero (by omega)
    decide
  | succ n ih =>
    intro l hl hE
    have h3 := drop_len isBl l
    rw [dwL_step]
    by_cases h : (runL wordS false (l.dropWhile isBl)).1 = []
    · rw [if_pos h]
      simpa using h3
    · rw [if_neg h]
      have h4 : (l.dropWhile isBl).length + 1 ≤ l.length := by
        rcases hE with rfl | ⟨b, X, rfl, hb⟩
        · exact absurd rfl h
        · cases hbl : isBl b
          · exfalso
            have e : (b :: X).dropWhile isBl = b :: X := by rw [List.dropWhile_cons, if_neg (by rw [hbl]; decide)]
            rw [e, runL_ends (.inr ⟨b, X, rfl, hb⟩)] at h
            exact h rfl
          · rw [List.dropWhile_cons, if_pos hbl]
            have := drop_len isBl X
            simp only [List.length_cons]; omega
      have h1 := runL_len wordS false (l.dropWhile isBl)
      have h5 := ih (runL wordS false (l.dropWhile isBl)).2.1 (by omega) (runW_ends _ _)
      rw [List.flatMap_cons, List.length_append, List.length_cons]
      dsimp only
      omega
theorem trimC_len (u : List UInt8) : (trimC u).length ≤ u.length := by
  unfold trimC
  rw [List.length_reverse]
  have := drop_len (fun c => c == 44) u.reverse
  rwa [List.length_reverse] at this
theorem notBl_ends (l : List UInt8) : EndsW (l.dropWhile notBl) := by
  cases hd : l.dropWhile notBl with
  | nil => exact .inl rfl
  | cons c r =>
    refine .inr ⟨c, r, rfl, ?_⟩
    have := dropHead notBl l hd
    unfold notBl at this
    unfold sepC
    rw [show isBl c = true by simpa using this]
    exact Bool.or_true _
theorem oneU_sum (l : List UInt8) : (oneU l).1.1.length + ((oneU l).1.2.flatMap (fun t => 32 :: t)).length + (oneU l).2.length ≤ l.length := by
  have h0 := congrArg List.length (List.takeWhile_append_dropWhile (p := notBl) (l := l))
  rw [List.length_append] at h0
  unfold oneU
  split
  · dsimp only
    have := trimC_len (l.takeWhile notBl)
    simp only [List.flatMap_nil, List.length_nil]; omega
  · dsimp only
    have := dwL_sum _ _ (Nat.le_refl _) (notBl_ends l)
    rw [List.length_drop]; omega
theorem tailW_append (a b : List Cand) : tailW (a ++ b) = tailW a ++ tailW b := by unfold tailW; rw [List.flatMap_append]
theorem splL_sum : ∀ (n : Nat) (l : List UInt8), l.length ≤ n → (tailW (splL l)).length ≤ 3 * l.length := by
  intro n
  induction n with
  | zero =>
    intro l hl
    obtain rfl : l = [] := List.eq_nil_of_length_eq_zero (by omega)
    decide
  | succ n ih =>
    intro l hl
    have h3 := drop_len sepC l
    rw [splL_step]
    cases hd : l.dropWhile sepC with
    | nil => rw [if_pos rfl]; exact Nat.zero_le _
    | cons c r =>
      rw [hd] at h3
      have hs := dropHead sepC l hd
      have h4 := oneU_len (r := r) hs
      have h5 : r.length + 1 ≤ l.length := h3
      have h6 := oneU_sum (c :: r)
      have h7 := ih (oneU (c :: r)).2 (by omega)
      rw [if_neg (by simp), tailW_append, List.length_append]
      have hg := oneU_good (r := r) hs
      unfold candsOf at hg ⊢
      cases hq : descL (oneU (c :: r)).1.2 with
      | none => rw [hq] at hg; show 0 + _ ≤ _; omega
      | some st =>
        rw [hq] at hg
        have hne := (hg _ (List.mem_singleton.2 rfl)).ne
        have hp := List.length_pos_iff.2 hne
        dsimp only at hp
        have e : (tailW [⟨(oneU (c :: r)).1.1, (oneU (c :: r)).1.2, st⟩]).length = 2 + ((oneU (c :: r)).1.1.length + ((oneU (c :: r)).1.2.flatMap (fun t => 32 :: t)).length) := by
          unfold tailW textC
          simp only [List.flatMap_cons, List.flatMap_nil, List.append_nil, List.length_cons, List.length_append]; omega
        dsimp only
        rw [e]; omega
theorem writeL_tail (l : List Cand) : (writeL l).length ≤ (tailW l).length := by
  cases l with
  | nil => exact Nat.le_refl _
  | cons c r =>
    unfold writeL
    have e : tailW (c :: r) = [44, 32] ++ textC c ++ tailW r := by unfold tailW; simp
    rw [e, List.length_append, List.length_append, List.length_append]; omega
theorem writeL_len (l : List UInt8) : (writeL (splL l)).length ≤ 3 * l.length := Nat.le_trans (writeL_tail _) (splL_sum _ _ (Nat.le_refl _))
theorem writeL_pre (a b : List Cand) : (writeL a).length ≤ (writeL (a ++ b)).length := by
  cases a with
  | nil => exact Nat.zero_le _
  | cons c r =>
    show (textC c ++ tailW r).length ≤ (textC c ++ tailW (r ++ b)).length
    rw [tailW_append, List.length_append, List.length_append, List.length_append]; omega
end Go.Proofs.YtbejimncmfeggaaDoor
