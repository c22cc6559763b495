/- Plain laws of words: none has a blank, a blank parts them, and their lengths. -/
import Derived.Test.YtcemneilhfjnhaaWords
namespace Go.Proofs.Ytcemneilhfjnhaa
open Go.RowKit
set_option linter.unusedVariables false

/-- Not empty, and without a blank. -/
def WordOk (x : List UInt8) : Prop := x ≠ [] ∧ ∀ c ∈ x, blankZ (c.toNat : Int) = false
theorem wordsGo_ok (l : List UInt8) : ∀ cur, (∀ c ∈ cur, blankZ (c.toNat : Int) = false) → ∀ x ∈ wordsGo cur l, WordOk x := by
  induction l with
  | nil =>
    intro cur hc x hx
    unfold wordsGo at hx
    split at hx
    · cases hx
    · simp at hx; subst hx; exact ⟨by assumption, hc⟩
  | cons d r ih =>
    intro cur hc x hx
    unfold wordsGo at hx
    by_cases hd : blankZ (d.toNat : Int) = true
    · rw [if_pos hd] at hx
      by_cases h0 : cur = []
      · rw [if_pos h0] at hx; exact ih [] (by simp) x hx
      · rw [if_neg h0] at hx
        rcases List.mem_cons.1 hx with rfl | hx
        · exact ⟨h0, hc⟩
        · exact ih [] (by simp) x hx
    · rw [if_neg hd] at hx
      refine ih (cur ++ [d]) ?_ x hx
      intro c hcm
      rcases List.mem_append.1 hcm with h | h
      · exact hc c h
      · simp at h; subst h; simpa using hd
theorem wordsL_ok (l : List UInt8) : ∀ x ∈ wordsL l, WordOk x := wordsGo_ok l [] (by simp)
theorem wordsGo_word (l : List UInt8) : ∀ cur, (∀ c ∈ l, blankZ (c.toNat : Int) = false) → wordsGo cur l = if cur ++ l = [] then [] else [cur ++ l] := by
  induction l with
  | nil => intro cur _; simp [wordsGo]
  | cons d r ih =>
    intro cur h
    have hd := h d (by simp)
    unfold wordsGo
    rw [if_neg (by simp [hd]), ih (cur ++ [d]) (fun c hc => h c (by simp [hc]))]
    simp
theorem wordsL_word {x : List UInt8} (h : WordOk x) : wordsL x = [x] := by
  unfold wordsL; rw [wordsGo_word x [] h.2]; simp [h.1]
def blanksL (l : List UInt8) : Nat := (l.filter fun c => blankZ (c.toNat : Int)).length
theorem wordsGo_count (l : List UInt8) : ∀ cur, ((wordsGo cur l).map List.length).sum + blanksL l = cur.length + l.length := by
  induction l with
  | nil => intro cur; unfold wordsGo blanksL; by_cases h : cur = [] <;> simp [h]
  | cons d r ih =>
    intro cur
    unfold wordsGo blanksL
    have h0 := ih []
    have h1 := ih (cur ++ [d])
    unfold blanksL at h0 h1
    by_cases hd : blankZ (d.toNat : Int) = true
    · rw [if_pos hd]
      by_cases h : cur = []
      · rw [if_pos h]; simp [hd, h] at h0 ⊢; omega
      · rw [if_neg h]; simp [hd] at h0 ⊢; omega
    · rw [if_neg hd]; simp [hd] at h1 ⊢; omega
theorem wordsL_count (l : List UInt8) : ((wordsL l).map List.length).sum + blanksL l = l.length := by
  have := wordsGo_count l []; simpa [wordsL] using this
theorem wordsGo_append {c : UInt8} (hc : blankZ (c.toNat : Int) = true) (l r : List UInt8) : ∀ cur, wordsGo cur (l ++ c :: r) = wordsGo cur l ++ wordsGo [] r := by
  induction l with
  | nil =>
    intro cur
    simp only [List.nil_append]
    conv => lhs; unfold wordsGo
    conv => rhs; lhs; unfold wordsGo
    rw [if_pos hc]; split <;> simp
  | cons d l ih =>
    intro cur
    rw [List.cons_append]
    conv => lhs; unfold wordsGo
    conv => rhs; lhs; unfold wordsGo
    by_cases hd : blankZ (d.toNat : Int) = true
    · rw [if_pos hd, if_pos hd]
      split <;> simp [ih]
    · rw [if_neg hd, if_neg hd, ih]
theorem wordsL_blank {c : UInt8} (hc : blankZ (c.toNat : Int) = true) (l : List UInt8) : wordsL (c :: l) = wordsL l := by
  have := wordsGo_append hc [] l []; simpa [wordsL, wordsGo] using this
theorem wordsL_append {c : UInt8} (hc : blankZ (c.toNat : Int) = true) (l r : List UInt8) : wordsL (l ++ c :: r) = wordsL l ++ wordsL r := wordsGo_append hc l r []
theorem wordsL_sep {c : UInt8} (hc : blankZ (c.toNat : Int) = true) (a b : List UInt8) : wordsL (((((([c] ++ a) ++ [c]) ++ [c]) ++ b) ++ [c])) = wordsL a ++ wordsL b := by
  have e : (((((([c] ++ a) ++ [c]) ++ [c]) ++ b) ++ [c])) = c :: (a ++ c :: (c :: (b ++ c :: []))) := by simp
  have hn : wordsL [] = [] := rfl
  rw [e, wordsL_blank hc, wordsL_append hc, wordsL_blank hc, wordsL_append hc, hn, List.append_nil]
theorem blanks_snoc {l : List UInt8} {c : UInt8} : blanksL (l ++ [c]) = blanksL l + if blankZ (c.toNat : Int) then 1 else 0 := by
  unfold blanksL; rw [List.filter_append]; by_cases h : blankZ (c.toNat : Int) = true <;> simp [h]
theorem blanks_le (l : List UInt8) : blanksL l ≤ l.length := List.length_filter_le _ _
theorem len_le_sum (ls : List (List UInt8)) : (∀ x ∈ ls, WordOk x) → ls.length ≤ (ls.map List.length).sum := by
  induction ls with
  | nil => intro _; simp
  | cons x r ih =>
    intro h
    have h1 := ih (fun y hy => h y (by simp [hy]))
    have h2 : 0 < x.length := List.length_pos_iff.2 (h x (by simp)).1
    simp; omega
theorem wordsL_len (l : List UInt8) : (wordsL l).length ≤ l.length := by
  have h1 := len_le_sum _ (wordsL_ok l)
  have h2 := wordsL_count l
  omega
def sizesB (l : List ByteArray) : Nat := (l.map (·.size)).sum
theorem sizesB_eq (l : List ByteArray) : sizesB l = ((l.map (·.toList)).map List.length).sum := by
  unfold sizesB; rw [List.map_map]; congr 1; apply List.map_congr_left; intro x _; exact (size_toList x).symm
theorem sizesB_take {l : List ByteArray} {k : Nat} (h : k < l.length) : sizesB (l.take (k + 1)) = sizesB (l.take k) + l[k].size := by
  unfold sizesB; rw [List.take_succ_eq_append_getElem h, List.map_append, List.sum_append_nat]; simp only [List.map_cons, List.map_nil, List.sum_cons, List.sum_nil]; omega
theorem sizesB_le {l : List ByteArray} (k : Nat) : sizesB (l.take k) ≤ sizesB l := by
  have : sizesB l = sizesB (l.take k) + sizesB (l.drop k) := by
    unfold sizesB; rw [← List.sum_append_nat, ← List.map_append, List.take_append_drop]
  omega
end Go.Proofs.Ytcemneilhfjnhaa
