/- Plain: what tells how data is written changes no type; no program in sight. -/
import Derived.Test.YtdlgpmihjecdlaaDoorMimeQ
namespace Go.Proofs.YtdlgpmihjecdlaaDoor
open Go.RowKit
set_option linter.unusedVariables false
set_option linter.unusedSimpArgs false

/-- The type that a head tells, stripped already. -/
def nameL (x : List UInt8) : List UInt8 := (essL (if x.head? = some 59 then plainL ++ x else x)).getD plainL
theorem typeL_name (h : List UInt8) : typeL h = nameL (bareL (stripL h)) := rfl
theorem essL_nil : essL [] = none := by decide
theorem essL_plain : essL plainL = some plainL := by decide +kernel
theorem nameL_nil : nameL [] = plainL := by unfold nameL; rw [if_neg (by simp), essL_nil]; rfl
theorem nameL_semi (X Y : List UInt8) (hY : ∀ d ∈ Y, d ≠ 47) : nameL (X ++ 59 :: Y) = nameL X := by
  cases X with
  | nil =>
    rw [nameL_nil]
    unfold nameL
    rw [List.nil_append, if_pos (show (59 :: Y).head? = some 59 from rfl), essL_semi _ _ hY, essL_plain]; rfl
  | cons c X =>
    unfold nameL
    rw [List.cons_append, List.head?_cons, List.head?_cons]
    by_cases h : some c = some 59
    · rw [if_pos h, if_pos h]
      have e : plainL ++ c :: (X ++ 59 :: Y) = (plainL ++ c :: X) ++ 59 :: Y := by simp
      rw [e, essL_semi _ _ hY]
    · rw [if_neg h, if_neg h]
      have e : c :: (X ++ 59 :: Y) = (c :: X) ++ 59 :: Y := rfl
      rw [e, essL_semi _ _ hY]
theorem essL_rdrop (l : List UInt8) : essL (rdropZ spZ l) = essL l := by unfold essL; rw [rdropZ_idem]
theorem rdropZ_append (p : Int → Bool) : ∀ (a b : List UInt8), rdropZ p (a ++ b) = if rdropZ p b = [] then rdropZ p a else a ++ rdropZ p b
  | [], b => by
    by_cases h : rdropZ p b = []
    · rw [if_pos h, List.nil_append, h]; rfl
    · rw [if_neg h]; rfl
  | c :: a, b => by
    rw [List.cons_append, rdropZ_cons, rdropZ_append p a b, rdropZ_cons]
    by_cases h : rdropZ p b = []
    · rw [if_pos h, if_pos h]
    · rw [if_neg h, if_neg h, if_neg (by
        rintro ⟨h1, _⟩
        exact h (List.append_eq_nil_iff.1 h1).2)]
      rfl
theorem nameL_rdrop (X : List UInt8) : nameL (rdropZ spZ X) = nameL X := by
  cases X with
  | nil => rfl
  | cons c X =>
    rw [rdropZ_cons]
    by_cases h : rdropZ spZ X = [] ∧ spZ (c.toNat : Int) = true
    · rw [if_pos h, nameL_nil]
      have hc : ¬ (some c = some (59 : UInt8)) := by
        intro e
        rw [Option.some.inj e] at h
        exact absurd h.2 (by decide)
      unfold nameL
      rw [List.head?_cons, if_neg hc, ← essL_rdrop, rdropZ_cons, if_pos h, essL_nil]; rfl
    · rw [if_neg h]
      have e : c :: rdropZ spZ X = rdropZ spZ (c :: X) := by rw [rdropZ_cons, if_neg h]
      unfold nameL
      rw [List.head?_cons, List.head?_cons]
      by_cases hc : some c = some 59
      · rw [if_pos hc, if_pos hc, e]
        have hn : rdropZ spZ (c :: X) ≠ [] := by rw [← e]; simp
        have : plainL ++ rdropZ spZ (c :: X) = rdropZ spZ (plainL ++ c :: X) := by rw [rdropZ_append, if_neg hn]
        rw [this, essL_rdrop]
      · rw [if_neg hc, if_neg hc, e, essL_rdrop]
theorem lower_47 {l : List UInt8} (h : lowerL l = base64L) : ∀ d ∈ l, d ≠ 47 := by
  rintro d hd rfl
  have : lowerC 47 ∈ lowerL l := List.mem_map.2 ⟨47, hd, rfl⟩
  rw [h] at this
  exact absurd this (by decide)
theorem rdropZ_split (p : Int → Bool) : ∀ l : List UInt8, ∃ b, l = rdropZ p l ++ b ∧ ∀ c ∈ b, p (c.toNat : Int) = true
  | [] => ⟨[], rfl, fun c h => by cases h⟩
  | c :: r => by
    obtain ⟨b, h1, h2⟩ := rdropZ_split p r
    rw [rdropZ_cons]
    by_cases h : rdropZ p r = [] ∧ p (c.toNat : Int) = true
    · rw [if_pos h]
      refine ⟨c :: r, rfl, ?_⟩
      intro d hd
      rcases List.mem_cons.1 hd with rfl | hd
      · exact h.2
      · rw [h1, h.1] at hd; exact h2 d hd
    · rw [if_neg h]
      exact ⟨b, by rw [List.cons_append, ← h1], h2⟩
theorem nameL_bare (x : List UInt8) : nameL (bareL x) = nameL x := by
  unfold bareL
  split
  · rename_i h
    split
    · rename_i h59
      obtain ⟨b, h1, h2⟩ := rdropZ_split sp20 (x.take (x.length - 6))
      have h3 : rdropZ sp20 (x.take (x.length - 6)) = (rdropZ sp20 (x.take (x.length - 6))).dropLast ++ [59] := by
        rcases List.eq_nil_or_concat (rdropZ sp20 (x.take (x.length - 6))) with e | ⟨L, d, e⟩
        · rw [e] at h59; cases h59
        · rw [e] at h59 ⊢
          rw [List.concat_eq_append] at h59 ⊢
          rw [List.getLast?_append] at h59
          have : d = 59 := by simpa using h59
          rw [this, List.dropLast_concat]
      have hx : x = (rdropZ sp20 (x.take (x.length - 6))).dropLast ++ 59 :: (b ++ x.drop (x.length - 6)) := by
        conv => lhs; rw [← List.take_append_drop (x.length - 6) x, h1, h3]
        simp
      have hY : ∀ d ∈ b ++ x.drop (x.length - 6), d ≠ 47 := by
        intro d hd
        rcases List.mem_append.1 hd with hd | hd
        · rintro rfl; exact absurd (h2 47 hd) (by decide)
        · exact lower_47 h.2 d hd
      conv => rhs; rw [hx]
      rw [nameL_semi _ _ hY]
    · rfl
  · rfl
theorem typeL_eq (h : List UInt8) : typeL h = nameL (stripL h) := by rw [typeL_name, nameL_bare]
theorem strip_comm (l : List UInt8) : stripL l = dropZ blankZ (rdropZ blankZ l) := (drop_comm blankZ l).symm
theorem blank_sp {l : List UInt8} (h : ∀ c ∈ l, c ≠ 12) : rdropZ blankZ l = rdropZ spZ l := by
  induction l with
  | nil => rfl
  | cons c r ih =>
    rw [rdropZ_cons, rdropZ_cons, ih (fun x hx => h x (by simp [hx]))]
    have hc : blankZ (c.toNat : Int) = spZ (c.toNat : Int) := by
      have hall : ∀ n : Fin 256, n.val ≠ 12 → blankZ ((UInt8.ofNat n.val).toNat : Int) = spZ ((UInt8.ofNat n.val).toNat : Int) := by decide +kernel
      have := hall ⟨c.toNat, c.toNat_lt⟩ (fun e => h c (by simp) (by rw [← UInt8.toNat_inj]; exact e))
      simpa using this
    rw [hc]
theorem mem_dropZ {p : Int → Bool} {l : List UInt8} {c : UInt8} (h : c ∈ dropZ p l) : c ∈ l := (List.dropWhile_sublist _).mem h
theorem blank59 : blankZ ((59 : UInt8).toNat : Int) = false := by decide
/-- Behind a text whatever follows a ; changes no type. -/
theorem typeL_semi (s Y : List UInt8) (hs : ∀ c ∈ s, c ≠ 12) (hY : ∀ d ∈ Y, d ≠ 47) : typeL (s ++ 59 :: Y) = typeL s := by
  rw [typeL_eq, typeL_eq]
  have e : stripL (s ++ 59 :: Y) = dropZ blankZ s ++ 59 :: rdropZ blankZ Y := by
    unfold stripL
    rw [dropZ_keep blank59, rdropZ_keep blank59]
  have hY2 : ∀ d ∈ rdropZ blankZ Y, d ≠ 47 := fun d hd => by
    obtain ⟨b, h1, _⟩ := rdropZ_split blankZ Y
    exact hY d (by rw [h1]; exact List.mem_append_left _ hd)
  rw [e, nameL_semi _ _ hY2]
  unfold stripL
  rw [blank_sp (fun c hc => hs c (mem_dropZ hc)), nameL_rdrop]
theorem typeL_sp (s : List UInt8) (hs : ∀ c ∈ s, c ≠ 12) : typeL (s ++ [32]) = typeL s := by
  rw [typeL_eq, typeL_eq, strip_comm, strip_comm, rdropZ_append, if_pos (by decide)]
end Go.Proofs.YtdlgpmihjecdlaaDoor
