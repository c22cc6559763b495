/- Floats that stand for no NaN equal themselves; the contract of the law's alike at equal floats. -/
import Derived.Test.YtbejimncmfeggaaDoorNumS
namespace Go.Proofs.YtbejimncmfeggaaDoor
open Go.RowKit
set_option linter.unusedVariables false

theorem dbl_lt : Ieee.double.infRung < Ieee.double.signWeight := Ieee.Format.infRung_lt _
theorem read_word {neg : Bool} {r : Nat} (h : r ≤ Ieee.double.infRung) : (∃ m i, Ieee.double.read (Ieee.double.word neg r) = .number neg m i) ∨ Ieee.double.read (Ieee.double.word neg r) = .infinity neg := by
  have hs : r < Ieee.double.signWeight := Nat.lt_of_le_of_lt h dbl_lt
  have hp : 0 < Ieee.double.signWeight := by omega
  have h1 : Ieee.double.word neg r % Ieee.double.signWeight = r := by
    unfold Ieee.Format.word
    split
    · rw [Nat.add_mod_left]; exact Nat.mod_eq_of_lt hs
    · exact Nat.mod_eq_of_lt hs
  have h2 : (Ieee.double.word neg r / Ieee.double.signWeight % 2 == 1) = neg := by
    unfold Ieee.Format.word
    cases neg
    · rw [if_neg (by decide), Nat.div_eq_of_lt hs]; rfl
    · rw [if_pos rfl, Nat.add_div_left _ hp, Nat.div_eq_of_lt hs]; rfl
  unfold Ieee.Format.read
  dsimp only
  rw [h1, h2]
  split
  · exact .inl ⟨_, _, rfl⟩
  · split
    · exact .inl ⟨_, _, rfl⟩
    · rw [if_pos (by omega)]; exact .inr rfl
theorem read_nearest (neg : Bool) (m : Nat) (p : Int) : (∃ n i, Ieee.double.read (Ieee.double.nearest neg m p) = .number neg n i) ∨ Ieee.double.read (Ieee.double.nearest neg m p) = .infinity neg := by
  unfold Ieee.Format.nearest
  split
  · exact read_word (Nat.zero_le _)
  · exact read_word (Nat.min_le_right _ _)
/-- Bits that stand for no NaN. -/
def NoNaN (a : Nat) : Prop := (∃ s m i, Ieee.double.read a = .number s m i) ∨ ∃ s, Ieee.double.read a = .infinity s
theorem noNaN_nearest (neg : Bool) (m : Nat) (p : Int) : NoNaN (Ieee.double.nearest neg m p) := by
  rcases read_nearest neg m p with ⟨n, i, h⟩ | h
  · exact .inl ⟨_, _, _, h⟩
  · exact .inr ⟨_, h⟩
theorem order_same {a : Nat} (h : NoNaN a) : (FloatKind.f64.format.order a a == some .eq) = true := by
  have e : FloatKind.f64.format = Ieee.double := rfl
  rw [e]
  unfold Ieee.Format.order
  rcases h with ⟨s, m, i, h⟩ | ⟨s, h⟩
  · rw [h]; unfold Ieee.Datum.order; simp
  · rw [h]; unfold Ieee.Datum.order; simp
theorem one_number : Ieee.double.read 4607182418800017408 = .number false (2 ^ 52) (-52) := by decide +kernel
/-- 1 by whatever is no NaN. -/
theorem one_by {a : Nat} (h : NoNaN a) : ∃ r, Ieee.double.div 4607182418800017408 a = some r ∧ NoNaN r := by
  unfold Ieee.Format.div
  rw [one_number]
  rcases h with ⟨s, m, i, h⟩ | ⟨s, h⟩
  · rw [h]
    unfold Ieee.Datum.quotient
    dsimp only
    split
    · rw [if_neg (by decide)]
      refine ⟨_, rfl, ?_⟩
      show NoNaN (Ieee.double.word _ _)
      rcases read_word (neg := (false ^^ s)) (Nat.le_refl Ieee.double.infRung) with ⟨n, i, h⟩ | h
      · exact .inl ⟨_, _, _, h⟩
      · exact .inr ⟨_, h⟩
    · exact ⟨_, rfl, noNaN_nearest _ _ _⟩
  · rw [h]
    unfold Ieee.Datum.quotient
    exact ⟨_, rfl, noNaN_nearest _ _ _⟩
/-- A float that is told is no NaN. -/
theorem noNaN_moveB {f : Nat} {s : Bool} {m : Nat} {i k : Int} (hf : Ieee.double.read f = .number s m i) (h0 : -22 ≤ k) (h1 : k ≤ 22) : NoNaN (moveB f k) := by
  by_cases hk : k < 0
  · have h := move_neg hf hk h0
    obtain ⟨n, e, hp, hn⟩ := pow_number (k := k.natAbs) (by omega)
    unfold Ieee.Format.div at h
    rw [hf, hp] at h
    unfold Ieee.Datum.quotient at h
    dsimp only at h
    rw [if_neg hn] at h
    rw [← Option.some.inj h]
    exact noNaN_nearest _ _ _
  · have h := move_pos hf hk h1
    obtain ⟨n, e, hp, hn⟩ := pow_number (k := k.natAbs) (by omega)
    rw [mul_some hf hp] at h
    rw [← Option.some.inj h]
    exact noNaN_nearest _ _ _
end Go.Proofs.YtbejimncmfeggaaDoor
