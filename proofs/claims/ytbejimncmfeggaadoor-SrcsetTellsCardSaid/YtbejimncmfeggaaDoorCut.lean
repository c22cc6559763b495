/- strings.Cut at a separator of one byte, and the fact of the world that it asks. -/
import Derived.Test.YtbejimncmfeggaaDoorBase
import Derived.Test.YtbejimncmfeggaaDoorShelf
namespace Go.Proofs.YtbejimncmfeggaaDoor
open Go.RowKit
set_option linter.unusedVariables false

/-- The library's variable MaxLen holds some number. -/
def ML (w : World) : Prop := ∃ m, w.cell? ⟨0, 0, none⟩ = some (.int .i64 m)
theorem ML.next {w w' : World} (h : ML w) (hb : Below w.heap.size w w') : ML w' := by
  obtain ⟨m, hm⟩ := h
  have := World.block_lt_of_cell? w _ hm
  exact ⟨m, (hb.cell (by simpa using this)).trans hm⟩
theorem ML.alloc {w : World} (h : ML w) (o : Obj) : ML (w.alloc o) := h.next ((Below.refl _ _).alloc (Nat.le_refl _) o)
theorem ML.drewN {w : World} (h : ML w) (n : Nat) : ML (w.drewN n) := h.next (below_drewN (Below.refl _ _) n)

/-- What stands ahead of a text's first c, what stands behind it, and whether there is one. -/
def cutC (c : UInt8) : List UInt8 → List UInt8 × List UInt8 × Bool
  | [] => ([], [], false)
  | d :: r => if d = c then ([], r, true) else (d :: (cutC c r).1, (cutC c r).2.1, (cutC c r).2.2)
theorem index_one (c : UInt8) (l : List UInt8) : Lib.index l [c] = Lib.indexByte l c := by
  induction l with
  | nil => rfl
  | cons d r ih =>
    unfold Lib.index Lib.indexByte
    rw [ih]
    by_cases h : d = c
    · simp [List.isPrefixOf, h]
    · simp [List.isPrefixOf, h, Ne.symm h]
theorem cut_one (c : UInt8) (l : List UInt8) : Lib.cut l [c] = cutC c l := by
  unfold Lib.cut
  rw [index_one]
  induction l with
  | nil => rfl
  | cons d r ih =>
    unfold Lib.indexByte cutC
    by_cases h : d = c
    · simp [h]
    · have hg := Lib.indexByte_ge r c
      rw [← ih]
      by_cases h1 : Lib.indexByte r c = -1
      · simp [h, h1]
      · have h0 : 0 ≤ Lib.indexByte r c := by omega
        have e : (Lib.indexByte r c + 1).toNat = (Lib.indexByte r c).toNat + 1 := by omega
        have e2 : 0 ≤ Lib.indexByte r c + 1 := by omega
        simp [h, h1, h0, e, e2]
/-- The call hands back two strings and a bool, and draws. -/
def RetT (w : World) (a b : List UInt8) (f : Bool) (e : Ending) (w' : World) : Prop :=
  ∃ (ta tb : ByteArray) (n : Nat), e = .returned (.tuple #[.string ta, .string tb, .bool f]) ∧ Hid (ta.toList = a) ∧ Hid (tb.toList = b) ∧ w' = w.drewN n
theorem cut_any (s : ByteArray) (c : UInt8) (w : World) (h : ML w) (hs : s.size < 4294967281) :
    Calls Tryd.prog 52 #[.string s, .string ⟨#[c]⟩] w (RetT w (cutC c s.toList).1 (cutC c s.toList).2.1 (cutC c s.toList).2.2) := by
  obtain ⟨m, hm⟩ := h
  refine (Tryd.strings_Cut s ⟨#[c]⟩ m w hs hm).mono ?_
  rintro e w' ⟨rfl, n, rfl⟩
  have e1 : Lib.cut s.data.toList [c] = cutC c s.toList := by rw [cut_one, ByteArray.toList_eq]
  simp only [e1]
  exact ⟨_, _, n, rfl, toList_mk _, toList_mk _, rfl⟩
theorem cutC_all (c : UInt8) (l : List UInt8) : l = (cutC c l).1 ++ (if (cutC c l).2.2 then c :: (cutC c l).2.1 else []) := by
  induction l with
  | nil => rfl
  | cons d r ih =>
    unfold cutC
    by_cases h : d = c
    · simp [h]
    · simp only [h, if_false, List.cons_append]; rw [← ih]
theorem cutC_none (c : UInt8) (l : List UInt8) (h : (cutC c l).2.2 = false) : (cutC c l).1 = l ∧ (cutC c l).2.1 = [] := by
  induction l with
  | nil => exact ⟨rfl, rfl⟩
  | cons d r ih =>
    unfold cutC at h ⊢
    by_cases hd : d = c
    · simp [hd] at h
    · simp only [hd, if_false] at h ⊢
      exact ⟨by rw [(ih h).1], (ih h).2⟩
theorem cutC_ahead (c : UInt8) (l : List UInt8) : ∀ d ∈ (cutC c l).1, d ≠ c := by
  induction l with
  | nil => intro d hd; cases hd
  | cons d r ih =>
    intro x hx
    unfold cutC at hx
    by_cases h : d = c
    · simp [h] at hx
    · simp only [h, if_false] at hx
      rcases List.mem_cons.1 hx with rfl | hx
      · exact h
      · exact ih x hx
theorem cutC_has {c : UInt8} (a b : List UInt8) (h : ∀ d ∈ a, d ≠ c) : cutC c (a ++ c :: b) = (a, b, true) := by
  induction a with
  | nil => simp [cutC]
  | cons d r ih =>
    rw [List.cons_append]; unfold cutC
    rw [if_neg (h d (by simp)), ih (fun x hx => h x (by simp [hx]))]
theorem cutC_hasnot {c : UInt8} (a : List UInt8) (h : ∀ d ∈ a, d ≠ c) : cutC c a = (a, [], false) := by
  induction a with
  | nil => rfl
  | cons d r ih =>
    unfold cutC
    rw [if_neg (h d (by simp)), ih (fun x hx => h x (by simp [hx]))]
theorem cutC_len (c : UInt8) (l : List UInt8) : (cutC c l).1.length + (cutC c l).2.1.length ≤ l.length := by
  have := congrArg List.length (cutC_all c l)
  rw [List.length_append] at this
  cases h : (cutC c l).2.2
  · rw [(cutC_none c l h).2]; simp; omega
  · simp [h] at this; omega
end Go.Proofs.YtbejimncmfeggaaDoor
