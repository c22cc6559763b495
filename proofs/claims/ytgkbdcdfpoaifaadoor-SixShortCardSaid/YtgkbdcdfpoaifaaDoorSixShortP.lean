/- Plain: what is written has :: once at most, and no nought ahead of a piece; no program in sight. -/
import Derived.Test.YtgkbdcdfpoaifaaDoorSixT
namespace Go.Proofs.YtgkbdcdfpoaifaaDoor
open Go.RowKit
set_option linter.unusedVariables false
set_option linter.unusedSimpArgs false

/-- How often two colons stand side by side. -/
def folds : List UInt8 → Nat
  | c :: d :: r => (if c = 58 ∧ d = 58 then 1 else 0) + folds (d :: r)
  | _ => 0
/-- No piece begins with a nought ahead of something. 'p': does a piece begin here? -/
def okGo (p : Bool) : List UInt8 → Bool
  | c :: d :: r => !(decide (c = 48) && p && decide (d ≠ 58)) && okGo (decide (c = 58)) (d :: r)
  | _ => true
theorem folds_no : ∀ l, hasDD l = false → folds l = 0
  | [], _ => rfl
  | [c], _ => rfl
  | c :: d :: r, h => by
    rw [hasDD_cons, Bool.or_eq_false_iff, decide_eq_false_iff_not] at h
    rw [folds, folds_no (d :: r) h.2, if_neg (by simpa using h.1)]
theorem folds_two {X Y : List UInt8} (hX : hasDD X = false) (hl : X.getLast? ≠ some 58) (hY : hasDD Y = false) (hh : Y.head? ≠ some 58) : folds (X ++ 58 :: 58 :: Y) = 1 := by
  induction X with
  | nil =>
    show (if (58 : UInt8) = 58 ∧ (58 : UInt8) = 58 then 1 else 0) + folds (58 :: Y) = 1
    rw [if_pos ⟨rfl, rfl⟩]
    cases Y with
    | nil => rfl
    | cons d r =>
      rw [folds, folds_no _ hY, if_neg (fun h => hh (by rw [h.2]; rfl))]
  | cons c r ih =>
    rw [hasDD_cons, Bool.or_eq_false_iff, decide_eq_false_iff_not] at hX
    cases r with
    | nil =>
      have hc : c ≠ 58 := by rintro rfl; exact hl rfl
      have := ih rfl (by simp)
      rw [List.nil_append] at this
      rw [List.cons_append, List.nil_append, folds, this, if_neg (fun h => hc h.1)]
    | cons d r =>
      rw [List.getLast?_cons_cons] at hl
      have := ih hX.2 hl
      rw [List.cons_append] at this
      rw [List.cons_append, List.cons_append, folds, this, if_neg (by simpa using hX.1)]
/-- No nought stands ahead of something in it. -/
def GoodT (t : List UInt8) : Prop := Bet t ∧ (t.length = 1 ∨ t.head? ≠ some 48)
theorem okGo_58 (r : List UInt8) (p : Bool) : okGo p (58 :: r) = okGo true r := by
  cases r with
  | nil => rfl
  | cons d r => rw [okGo]; simp
theorem okGo_false : ∀ (t r : List UInt8), (∀ c ∈ t, c ≠ 58) → t ≠ [] → okGo false (t ++ 58 :: r) = okGo true r
  | [], r, _, h => absurd rfl h
  | [c], r, h, _ => by
    have hc := h c (by simp)
    rw [List.cons_append, List.nil_append, okGo, okGo_58]; simp
  | c :: d :: t, r, h, _ => by
    have hc := h c (by simp)
    have ih := okGo_false (d :: t) r (fun x hx => h x (by simp at hx ⊢; exact .inr hx)) (by simp)
    rw [List.cons_append] at ih
    rw [List.cons_append, List.cons_append, okGo, decide_eq_false hc, ih]; simp
theorem okGo_alone : ∀ (t : List UInt8), (∀ c ∈ t, c ≠ 58) → okGo false t = true
  | [], _ => rfl
  | [c], _ => rfl
  | c :: d :: t, h => by
    rw [okGo, decide_eq_false (h c (by simp)), okGo_alone (d :: t) (fun x hx => h x (by simp at hx ⊢; exact .inr hx))]; simp
theorem good_on {t r : List UInt8} (h : GoodT t) : okGo true (t ++ 58 :: r) = okGo true r := by
  obtain ⟨⟨hne, h58⟩, hh⟩ := h
  match t, hne with
  | [c], _ => rw [List.cons_append, List.nil_append, okGo, okGo_58]; simp
  | c :: d :: t, _ =>
    have hc : c ≠ 48 := by
      rcases hh with hh | hh
      · simp at hh
      · rintro rfl; exact hh rfl
    rw [List.cons_append, List.cons_append, okGo, decide_eq_false hc, decide_eq_false (h58 c (by simp))]
    have := okGo_false (d :: t) r (fun x hx => h58 x (by simp at hx ⊢; exact .inr hx)) (by simp)
    rw [List.cons_append] at this
    rw [this]; simp
theorem good_end {t : List UInt8} (h : GoodT t) : okGo true t = true := by
  obtain ⟨⟨hne, h58⟩, hh⟩ := h
  match t, hne with
  | [c], _ => rfl
  | c :: d :: t, _ =>
    have hc : c ≠ 48 := by
      rcases hh with hh | hh
      · simp at hh
      · rintro rfl; exact hh rfl
    rw [okGo, decide_eq_false hc, decide_eq_false (h58 c (by simp)), okGo_alone (d :: t) (fun x hx => h58 x (by simp at hx ⊢; exact .inr hx))]; simp
theorem good_join : ∀ {ts : List (List UInt8)}, (∀ t ∈ ts, GoodT t) → okGo true (joinC ts) = true ∧ ∀ r, ts ≠ [] → okGo true (joinC ts ++ 58 :: r) = okGo true r
  | [], _ => ⟨rfl, fun _ h => absurd rfl h⟩
  | [t], h => ⟨good_end (h t (by simp)), fun r _ => good_on (h t (by simp))⟩
  | t :: u :: ts, h => by
    obtain ⟨h1, h2⟩ := good_join (ts := u :: ts) (fun x hx => h x (by simp at hx ⊢; exact .inr hx))
    have ht := h t (by simp)
    rw [joinC]
    refine ⟨by rw [good_on ht]; exact h1, fun r _ => ?_⟩
    rw [List.append_assoc, List.cons_append, good_on ht]
    exact h2 r (by simp)
theorem hexC_ne48 : ∀ d : Fin 16, 0 < d.val → hexC d.val ≠ 48 := by decide +kernel
theorem hexF_head : ∀ f n, 0 < n → n < 16 ^ f → ∃ c r, hexF f n = c :: r ∧ c ≠ 48
  | 0, n, h0, h => by simp at h; omega
  | f + 1, n, h0, h => by
    rw [hexF]
    by_cases h2 : n < 16
    · rw [if_pos h2]; exact ⟨_, _, rfl, hexC_ne48 ⟨n, h2⟩ h0⟩
    · rw [if_neg h2]
      obtain ⟨c, r, h3, h4⟩ := hexF_head f (n / 16) (by omega) (by rw [Nat.pow_succ] at h; omega)
      exact ⟨c, r ++ [hexC (n % 16)], by rw [h3]; rfl, h4⟩
theorem good_hexL {l : List Nat} (h : ∀ x ∈ l, x < 65536) : ∀ t ∈ l.map hexL, GoodT t := by
  intro t ht
  have hb := (told_hexL h).bet t ht
  obtain ⟨n, hn, rfl⟩ := List.mem_map.1 ht
  refine ⟨hb, ?_⟩
  by_cases h16 : n < 16
  · exact .inl (by unfold hexL hexF; rw [if_pos h16]; rfl)
  · obtain ⟨c, r, h3, h4⟩ := hexF_head 4 n (by omega) (h n hn)
    refine .inr ?_
    unfold hexL
    rw [h3]; simpa using h4
theorem sixL_ok {l : List Nat} (h : Six l) : okGo true (sixL l) = true := by
  by_cases hlt : (runL l).1 < (runL l).2
  · have g1 := good_join (good_hexL (l := l.take (runL l).1) fun x hx => h.lt x (List.mem_of_mem_take hx))
    have g2 := (good_join (good_hexL (l := l.drop (runL l).2) fun x hx => h.lt x (List.mem_of_mem_drop hx))).1
    rw [sixL_two h hlt]
    by_cases h0 : (l.take (runL l).1).map hexL = []
    · rw [h0]
      show okGo true (58 :: 58 :: _) = true
      rw [okGo_58, okGo_58]; exact g2
    · rw [g1.2 _ h0, okGo_58]; exact g2
  · rw [sixL_one h hlt]
    exact (good_join (good_hexL h.lt)).1
theorem sixL_folds {l : List Nat} (h : Six l) : folds (sixL l) = if twiceB (l.map isZ) = true then 1 else 0 := by
  rw [← (run_facts h).2.2.2]
  by_cases hlt : (runL l).1 < (runL l).2
  · have t1 := (told_hexL (l := l.take (runL l).1) fun x hx => h.lt x (List.mem_of_mem_take hx)).bet
    have t2 := (told_hexL (l := l.drop (runL l).2) fun x hx => h.lt x (List.mem_of_mem_drop hx)).bet
    rw [sixL_two h hlt, folds_two (join_dd t1) (join_last t1) (join_dd t2) (join_head t2), decide_eq_true hlt, if_pos rfl]
  · rw [sixL_one h hlt, folds_no _ (join_dd (told_hexL h.lt).bet), decide_eq_false hlt, if_neg (by decide)]
end Go.Proofs.YtgkbdcdfpoaifaaDoor
