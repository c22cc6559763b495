/- Plain laws of trimming. -/
import Derived.Test.YtdlgpmihjecdlaaDoorTrim
namespace Go.Proofs.YtdlgpmihjecdlaaDoor
open Go.RowKit
set_option linter.unusedVariables false

def allZ (p : Int → Bool) (l : List UInt8) : Prop := ∀ c ∈ l, p (c.toNat : Int) = true
theorem allZ_append {p : Int → Bool} {a b : List UInt8} (ha : allZ p a) (hb : allZ p b) : allZ p (a ++ b) := by
  intro c hc; rcases List.mem_append.1 hc with h | h
  · exact ha c h
  · exact hb c h
theorem allZ_nil (p : Int → Bool) : allZ p [] := by intro c hc; cases hc
theorem allZ_mono {p q : Int → Bool} (hpq : ∀ c, p c = true → q c = true) {l : List UInt8} (h : allZ p l) : allZ q l := fun c hc => hpq _ (h c hc)
theorem dropZ_all {p : Int → Bool} {a b : List UInt8} (ha : allZ p a) : dropZ p (a ++ b) = dropZ p b := by
  induction a with
  | nil => rfl
  | cons c a ih => rw [List.cons_append, dropZ_yes (ha c (by simp)), ih (fun d hd => ha d (by simp [hd]))]
theorem dropZ_head {p : Int → Bool} (l : List UInt8) : ∀ c, (dropZ p l).head? = some c → p (c.toNat : Int) = false := by
  induction l with
  | nil => intro c h; simp [dropZ] at h
  | cons d l ih =>
    intro c h
    cases hp : p (d.toNat : Int)
    · rw [dropZ_no hp] at h; simp at h; rw [← h]; exact hp
    · rw [dropZ_yes hp] at h; exact ih c h
theorem allZ_takeWhile (p : Int → Bool) (l : List UInt8) : allZ p (l.takeWhile fun c => p (c.toNat : Int)) := by
  induction l with
  | nil => intro c hc; simp at hc
  | cons d l ih =>
    intro c hc
    cases hp : p (d.toNat : Int)
    · rw [List.takeWhile_cons_of_neg (by simp [hp])] at hc; cases hc
    · rw [List.takeWhile_cons_of_pos (by simp [hp])] at hc
      rcases List.mem_cons.1 hc with rfl | h
      · exact hp
      · exact ih c h

def trimP (p : Int → Bool) (l : List UInt8) : List UInt8 := rdropZ p (dropZ p l)
/-- Neither end of the text is of p. -/
def Ends (p : Int → Bool) (m : List UInt8) : Prop := (∀ c, m.head? = some c → p (c.toNat : Int) = false) ∧ (∀ c, m.getLast? = some c → p (c.toNat : Int) = false)
theorem trim_of_split {p : Int → Bool} {a m b : List UInt8} (ha : allZ p a) (hb : allZ p b) (hm : Ends p m) :
    trimP p (a ++ (m ++ b)) = m ∧ dropZ p (a ++ (m ++ b)) = (if m = [] then [] else m ++ b) := by
  have hrb : allZ p b.reverse := fun c hc => hb c (by simpa using hc)
  have hnil : dropZ p [] = [] := rfl
  unfold trimP
  rw [dropZ_all ha]
  cases m with
  | nil =>
    have : dropZ p b = [] := by have := dropZ_all (b := []) hb; rwa [List.append_nil] at this
    rw [List.nil_append, this]; exact ⟨rfl, rfl⟩
  | cons c m =>
    have h1 := hm.1 c rfl
    rw [List.cons_append, dropZ_no h1]
    refine ⟨?_, by simp⟩
    unfold rdropZ
    rw [← List.cons_append, List.reverse_append, dropZ_all hrb]
    obtain ⟨d, r, hr⟩ : ∃ d r, (c :: m).reverse = d :: r := by
      cases h : (c :: m).reverse with
      | nil => simp at h
      | cons d r => exact ⟨d, r, rfl⟩
    have hd : (c :: m).getLast? = some d := by rw [List.getLast?_eq_head?_reverse, hr]; rfl
    rw [hr, dropZ_no (hm.2 d hd), ← hr, List.reverse_reverse]
theorem trim_split (p : Int → Bool) (l : List UInt8) : ∃ a b, l = a ++ (trimP p l ++ b) ∧ allZ p a ∧ allZ p b ∧ Ends p (trimP p l) := by
  have e1 : l.takeWhile (fun c => p (c.toNat : Int)) ++ dropZ p l = l := List.takeWhile_append_dropWhile
  have e2 : (dropZ p l).reverse.takeWhile (fun c => p (c.toNat : Int)) ++ dropZ p (dropZ p l).reverse = (dropZ p l).reverse := List.takeWhile_append_dropWhile
  have e3 : dropZ p l = trimP p l ++ ((dropZ p l).reverse.takeWhile (fun c => p (c.toNat : Int))).reverse := by
    have := congrArg List.reverse e2
    rw [List.reverse_append, List.reverse_reverse] at this
    exact this.symm
  refine ⟨_, ((dropZ p l).reverse.takeWhile (fun c => p (c.toNat : Int))).reverse, by rw [← e3]; exact e1.symm, allZ_takeWhile p l, fun c hc => allZ_takeWhile p (dropZ p l).reverse c (List.mem_reverse.1 hc), fun c h => ?_, fun c h => ?_⟩
  · refine dropZ_head l c ?_
    rw [e3, List.head?_append, h]; rfl
  · refine dropZ_head (dropZ p l).reverse c ?_
    unfold trimP rdropZ at h
    rwa [List.getLast?_reverse] at h
theorem trim_idem (p : Int → Bool) (l : List UInt8) : trimP p (trimP p l) = trimP p l := by
  obtain ⟨a, b, _, _, _, h⟩ := trim_split p l
  have := (trim_of_split (allZ_nil p) (allZ_nil p) h).1
  rwa [List.nil_append, List.append_nil] at this
theorem trim_trim {p q : Int → Bool} (hpq : ∀ c, p c = true → q c = true) (l : List UInt8) : trimP q (trimP p l) = trimP q l := by
  obtain ⟨a, b, h, ha, hb, _⟩ := trim_split p l
  obtain ⟨a', b', h', ha', hb', hm'⟩ := trim_split q (trimP p l)
  have := (trim_of_split (allZ_append (allZ_mono hpq ha) ha') (allZ_append hb' (allZ_mono hpq hb)) hm').1
  rw [← this]
  congr 1
  simp only [List.append_assoc]
  conv => rhs; rw [h]
  congr 1
  simp only [← List.append_assoc]
  congr 1
  rw [List.append_assoc]
  exact h'.symm
theorem trim_len {p q : Int → Bool} (hpq : ∀ c, p c = true → q c = true) (l : List UInt8) : (trimP q l).length ≤ (trimP p l).length := by
  rw [← trim_trim hpq l]
  obtain ⟨a, b, h, _⟩ := trim_split q (trimP p l)
  have := congrArg List.length h
  simp at this; omega
theorem trimL_eq (l : List UInt8) : trimL l = trimP lowZ l := rfl
theorem stripL_eq (l : List UInt8) : stripL l = trimP blankZ l := rfl
theorem blank_low : ∀ c, blankZ c = true → lowZ c = true := by
  intro c h; simp [blankZ] at h; simp [lowZ]; omega

theorem take_drop_len {α : Type} (a m b : List α) : ((a ++ (m ++ b)).drop a.length).take m.length = m := by simp
theorem trim_view (p : Int → Bool) (l : List UInt8) : ∃ na, na + (trimP p l).length ≤ l.length ∧ (∀ j c, j < na → l[j]? = some c → p (c.toNat : Int) = true) ∧ (∀ c, l[na]? = some c → p (c.toNat : Int) = false) ∧
    (l.drop na).take (trimP p l).length = trimP p l ∧ (∀ k c, na + (trimP p l).length ≤ k → l[k]? = some c → p (c.toNat : Int) = true) ∧ Ends p (trimP p l) := by
  obtain ⟨a, b, h, ha, hb, he⟩ := trim_split p l
  have hd := (trim_of_split ha hb he).2
  rw [← h] at hd
  by_cases hm : trimP p l = []
  · rw [hm] at h he ⊢
    rw [List.nil_append] at h
    have hall : allZ p l := by rw [h]; exact allZ_append ha hb
    refine ⟨l.length, by simp, fun j c hj hc => hall c (List.mem_of_getElem? hc), fun c hc => by simp at hc, by simp, fun k c hk hc => hall c (List.mem_of_getElem? hc), he⟩
  · generalize trimP p l = m at *
    subst h
    refine ⟨a.length, by simp, fun j c hj hc => ?_, fun c hc => ?_, take_drop_len a m b, fun k c hk hc => ?_, he⟩
    · rw [List.getElem?_append_left hj] at hc
      exact ha c (List.mem_of_getElem? hc)
    · rw [List.getElem?_append_right (Nat.le_refl _), Nat.sub_self, List.getElem?_append_left (by cases m with | nil => exact absurd rfl hm | cons => simp)] at hc
      exact he.1 c (by rw [List.head?_eq_getElem?]; exact hc)
    · rw [List.getElem?_append_right (by omega), List.getElem?_append_right (by omega)] at hc
      exact hb c (List.mem_of_getElem? hc)
theorem get?_toList (s : ByteArray) (j : Nat) (h : j < s.size) : s.toList[j]? = some s[j] := by
  rw [List.getElem?_eq_getElem (by rw [size_toList]; exact h), toList_get]
end Go.Proofs.YtdlgpmihjecdlaaDoor
