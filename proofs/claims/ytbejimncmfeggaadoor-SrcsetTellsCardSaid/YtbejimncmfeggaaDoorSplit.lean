/- strings.Split at a separator of one byte. -/
import Derived.Test.YtbejimncmfeggaaDoorCut
import Derived.Lib.SplitLaws
namespace Go.Proofs.YtbejimncmfeggaaDoor
open Go.RowKit
set_option linter.unusedVariables false

/-- The pieces of a text between a byte. -/
def splitC (c : UInt8) : List UInt8 → List (List UInt8)
  | [] => [[]]
  | d :: r => if d = c then [] :: splitC c r else (d :: (splitC c r).headD []) :: (splitC c r).tail
theorem splitC_cons (c d : UInt8) (r : List UInt8) : splitC c (d :: r) = if d = c then [] :: splitC c r else (d :: (splitC c r).headD []) :: (splitC c r).tail := rfl
theorem splitC_ne (c : UInt8) (l : List UInt8) : splitC c l ≠ [] := by
  cases l with
  | nil => simp [splitC]
  | cons d r => unfold splitC; split <;> simp
theorem splitC_ht (c : UInt8) (l : List UInt8) : (splitC c l).headD [] :: (splitC c l).tail = splitC c l := by
  have := splitC_ne c l
  cases h : splitC c l with
  | nil => exact absurd h this
  | cons a b => rfl
theorem split_eq (c : UInt8) (l : List UInt8) : Lib.split l [c] = splitC c l := by
  unfold Lib.split
  induction l with
  | nil => rfl
  | cons d r ih =>
    by_cases h : d = c
    · subst h
      have hix : Lib.index (d :: r) [d] = ((0 : Nat) : Int) := by rw [Lib.index]; simp [List.isPrefixOf]
      rw [Lib.count_cons_eq, Nat.add_comm, Lib.splitK]
      rw [if_neg (by rw [hix]; decide), hix]
      unfold splitC
      rw [if_pos rfl, ← ih]
      simp
    · have hix : Lib.index (d :: r) [c] = if Lib.index r [c] == -1 then -1 else Lib.index r [c] + 1 := by
        have hp : ([c] : List UInt8).isPrefixOf (d :: r) = false := by simp [List.isPrefixOf, Ne.symm h]
        rw [Lib.index, hp]; simp
      rw [Lib.count_cons_ne d c r h]
      unfold splitC
      rw [if_neg h, ← ih]
      by_cases hm : Lib.index r [c] = -1
      · rw [Lib.count_miss hm]; rfl
      · have hge := Lib.index_ge r [c]
        obtain ⟨j, hj⟩ : ∃ j : Nat, Lib.index r [c] = j := ⟨(Lib.index r [c]).toNat, by omega⟩
        have hix' : Lib.index (d :: r) [c] = ((j + 1 : Nat) : Int) := by rw [hix, if_neg (fun e => hm (beq_iff_eq.1 e)), hj]; first | done | omega
        have hk : Lib.count r [c] = Lib.count (r.drop (j + 1)) [c] + 1 := by rw [Lib.count_hit (by simp) hj, List.length_singleton, Nat.add_comm]
        rw [hk, Lib.splitK, Lib.splitK, if_neg (by rw [hix', beq_iff_eq]; omega), if_neg (by rw [hj, beq_iff_eq]; omega), hix', hj]
        simp
theorem splitC_append (c : UInt8) (a b : List UInt8) : splitC c (a ++ c :: b) = splitC c a ++ splitC c b := by
  induction a with
  | nil => simp [splitC]
  | cons d r ih =>
    rw [List.cons_append, splitC_cons, splitC_cons]
    by_cases h : d = c
    · rw [if_pos h, if_pos h, ih]; rfl
    · rw [if_neg h, if_neg h, ih]
      have := splitC_ne c r
      cases hs : splitC c r with
      | nil => exact absurd hs this
      | cons x y => simp
theorem splitC_no {c : UInt8} (a : List UInt8) (h : ∀ d ∈ a, d ≠ c) : splitC c a = [a] := by
  induction a with
  | nil => rfl
  | cons d r ih => unfold splitC; rw [if_neg (h d (by simp)), ih (fun x hx => h x (by simp [hx]))]; rfl
theorem splitC_len (c : UInt8) (l : List UInt8) : (splitC c l).length ≤ l.length + 1 := by
  induction l with
  | nil => simp [splitC]
  | cons d r ih =>
    unfold splitC
    have := splitC_ht c r
    have h2 := congrArg List.length this
    simp only [List.length_cons] at h2
    split <;> simp <;> omega
theorem splitC_free (c : UInt8) (l : List UInt8) : ∀ p ∈ splitC c l, ∀ d ∈ p, d ≠ c := by
  induction l with
  | nil => intro p hp; simp [splitC] at hp; subst hp; intro d hd; cases hd
  | cons d r ih =>
    intro p hp
    unfold splitC at hp
    by_cases h : d = c
    · rw [if_pos h] at hp
      rcases List.mem_cons.1 hp with rfl | hp
      · intro x hx; cases hx
      · exact ih p hp
    · rw [if_neg h] at hp
      have hne := splitC_ne c r
      cases hs : splitC c r with
      | nil => exact absurd hs hne
      | cons x y =>
        rw [hs] at hp ih
        rcases List.mem_cons.1 hp with rfl | hp
        · intro z hz
          rcases List.mem_cons.1 hz with rfl | hz
          · exact h
          · exact ih x (by simp) z hz
        · exact ih p (by simp at hp ⊢; exact .inr hp)
/-- The call hands back a slice of strings that reads so. -/
def RetP (w : World) (ls : List (List UInt8)) (e : Ending) (w' : World) : Prop :=
  ∃ (v : Value) (l : List ByteArray), e = .returned v ∧ Hid (l.map (·.toList) = ls) ∧ ReadS w' v l ∧ Below w.heap.size w w'
end Go.Proofs.YtbejimncmfeggaaDoor
