/- Plain laws of types: what is told of a type changes nothing; no program in sight. -/
import Derived.Test.YtdlgpmihjecdlaaDoorMimeP
namespace Go.Proofs.YtdlgpmihjecdlaaDoor
open Go.RowKit
set_option linter.unusedVariables false
set_option linter.unusedSimpArgs false

theorem dropZ_append (p : Int → Bool) (a b : List UInt8) : dropZ p (a ++ b) = if dropZ p a = [] then dropZ p b else dropZ p a ++ b := by
  induction a with
  | nil => exact (if_pos (show dropZ p [] = [] from rfl)).symm
  | cons c a ih =>
    cases h : p (c.toNat : Int)
    · rw [List.cons_append, dropZ_no h, dropZ_no h, if_neg (by simp)]; rfl
    · rw [List.cons_append, dropZ_yes h, dropZ_yes h, ih]
theorem rdropZ_cons (p : Int → Bool) (c : UInt8) (r : List UInt8) : rdropZ p (c :: r) = if rdropZ p r = [] ∧ p (c.toNat : Int) = true then [] else c :: rdropZ p r := by
  unfold rdropZ
  rw [List.reverse_cons, dropZ_append]
  by_cases h : dropZ p r.reverse = []
  · rw [if_pos h, h]
    cases hc : p (c.toNat : Int)
    · rw [dropZ_no hc, if_neg (by simp)]; rfl
    · rw [dropZ_yes hc, if_pos ⟨rfl, rfl⟩]; rfl
  · rw [if_neg h, if_neg (by rw [List.reverse_eq_nil_iff]; exact fun x => h x.1), List.reverse_append]; rfl
theorem rdropZ_nil (p : Int → Bool) : rdropZ p [] = [] := rfl
theorem rdropZ_keep {p : Int → Bool} {c : UInt8} (h : p (c.toNat : Int) = false) (Y : List UInt8) : ∀ X, rdropZ p (X ++ c :: Y) = X ++ c :: rdropZ p Y
  | [] => by rw [List.nil_append, rdropZ_cons, if_neg (by rw [h]; simp)]; rfl
  | d :: X => by rw [List.cons_append, rdropZ_cons, rdropZ_keep h Y X, if_neg (by simp)]; rfl
theorem drop_comm (p : Int → Bool) : ∀ l, dropZ p (rdropZ p l) = rdropZ p (dropZ p l)
  | [] => rfl
  | c :: r => by
    have ih := drop_comm p r
    rw [rdropZ_cons]
    cases h : p (c.toNat : Int)
    · rw [if_neg (by simp), dropZ_no h, dropZ_no h, rdropZ_cons, if_neg (by rw [h]; simp)]
    · rw [dropZ_yes h]
      by_cases hr : rdropZ p r = []
      · rw [if_pos ⟨hr, rfl⟩, ← ih, hr]
      · rw [if_neg (fun x => hr x.1), dropZ_yes h, ih]
theorem rdropZ_idem (p : Int → Bool) : ∀ l, rdropZ p (rdropZ p l) = rdropZ p l
  | [] => rfl
  | c :: r => by
    have ih := rdropZ_idem p r
    rw [rdropZ_cons]
    split
    · rfl
    · rename_i h
      rw [rdropZ_cons, ih, if_neg h]
theorem cutC_more {c d : UInt8} (h : d ≠ c) : ∀ (X Y : List UInt8), (∀ x ∈ Y, x ≠ c) → cutC c (X ++ d :: Y) = if (cutC c X).2.2 = true then ((cutC c X).1, (cutC c X).2.1 ++ d :: Y, true) else (X ++ d :: Y, [], false)
  | [], Y, hY => by
    rw [List.nil_append, cutC_hasnot _ (by intro x hx; rcases List.mem_cons.1 hx with rfl | hx; exact h; exact hY x hx)]; rfl
  | e :: X, Y, hY => by
    rw [List.cons_append, cutC, cutC, cutC_more h X Y hY]
    by_cases he : e = c
    · rw [if_pos he, if_pos he]; rfl
    · rw [if_neg he, if_neg he]
      cases (cutC c X).2.2 <;> rfl
theorem cutC_first {c : UInt8} : ∀ (X Y : List UInt8), (cutC c (X ++ c :: Y)).1 = (cutC c X).1
  | [], Y => by
    rw [List.nil_append]
    unfold cutC
    rw [if_pos rfl]
  | e :: X, Y => by
    rw [List.cons_append, cutC, cutC, cutC_first X Y]
    by_cases he : e = c
    · rw [if_pos he, if_pos he]
    · rw [if_neg he, if_neg he]
theorem sp59 : spZ ((59 : UInt8).toNat : Int) = false := by decide
theorem sp47 : spZ ((47 : UInt8).toNat : Int) = false := by decide
theorem cutC_has' {c : UInt8} {l : List UInt8} (h : (cutC c l).2.2 = true) : l = (cutC c l).1 ++ c :: (cutC c l).2.1 := by
  have := cutC_all c l
  rw [h] at this
  exact this
theorem essT_rdrop (l : List UInt8) : essT (rdropZ spZ l) = essT l := by
  unfold essT
  cases hm : (cutC 47 l).2.2
  · have hn : ∀ d ∈ rdropZ spZ l, d ≠ 47 := by
      have h1 := (cutC_none 47 l hm).1
      have h2 := cutC_ahead 47 l
      rw [h1] at h2
      intro d hd
      refine h2 d ?_
      unfold rdropZ dropZ at hd
      rw [List.mem_reverse] at hd
      exact List.mem_reverse.1 ((List.dropWhile_sublist _).mem hd)
    rw [cutC_hasnot _ hn, if_pos rfl, if_pos rfl]
  · have hl := cutC_has' hm
    have ha := cutC_ahead 47 l
    generalize (cutC 47 l).1 = A at hl ha
    generalize (cutC 47 l).2.1 = B at hl
    subst hl
    rw [rdropZ_keep sp47, cutC_has A _ ha]
    dsimp only
    have e : rdropZ spZ (cutC 59 (rdropZ spZ B)).1 = rdropZ spZ (cutC 59 B).1 := by
      cases hb : (cutC 59 B).2.2
      · have hn : ∀ d ∈ rdropZ spZ B, d ≠ 59 := by
          have h1 := (cutC_none 59 B hb).1
          have h2 := cutC_ahead 59 B
          rw [h1] at h2
          intro d hd
          refine h2 d ?_
          unfold rdropZ dropZ at hd
          rw [List.mem_reverse] at hd
          exact List.mem_reverse.1 ((List.dropWhile_sublist _).mem hd)
        rw [cutC_hasnot _ hn, (cutC_none 59 B hb).1, rdropZ_idem]
      · have hB := cutC_has' hb
        have hab := cutC_ahead 59 B
        generalize (cutC 59 B).1 = C at hB hab ⊢
        generalize (cutC 59 B).2.1 = D at hB
        subst hB
        rw [rdropZ_keep sp59, cutC_has C _ hab]
    rw [e]
/-- A type's text is trimmed on the left alone: the right end does not count. -/
theorem essL_left (l : List UInt8) : essL l = essT (dropZ spZ l) := by
  unfold essL
  rw [drop_comm, essT_rdrop]
/-- What is told of a type changes nothing. -/
theorem essT_semi (X Y : List UInt8) (hY : ∀ d ∈ Y, d ≠ 47) : essT (X ++ 59 :: Y) = essT X := by
  unfold essT
  rw [cutC_more (by decide) X Y hY]
  cases hm : (cutC 47 X).2.2
  · simp
  · simp only [if_true]
    rw [cutC_first]
theorem dropZ_keep {p : Int → Bool} {c : UInt8} (h : p (c.toNat : Int) = false) (X Y : List UInt8) : dropZ p (X ++ c :: Y) = dropZ p X ++ c :: Y := by
  rw [dropZ_append]
  by_cases h0 : dropZ p X = []
  · rw [if_pos h0, h0, dropZ_no h]; rfl
  · rw [if_neg h0]
theorem essL_semi (X Y : List UInt8) (hY : ∀ d ∈ Y, d ≠ 47) : essL (X ++ 59 :: Y) = essL X := by
  rw [essL_left, essL_left, dropZ_keep sp59, essT_semi _ _ hY]
end Go.Proofs.YtdlgpmihjecdlaaDoor
