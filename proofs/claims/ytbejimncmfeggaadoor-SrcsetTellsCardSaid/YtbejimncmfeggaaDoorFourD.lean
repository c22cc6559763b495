/- The contracts of four.parts, four.Ends, four.Parse. -/
import Derived.Test.YtbejimncmfeggaaDoorFourC
import Derived.Test.YtbejimncmfeggaaDoorFourW
namespace Go.Proofs.YtbejimncmfeggaaDoor
open Go.RowKit
set_option linter.unusedVariables false

theorem splitC_sum (c : UInt8) (l : List UInt8) : ∀ p ∈ splitC c l, p.length ≤ l.length := by
  induction l with
  | nil => intro p hp; simp [splitC] at hp; subst hp; exact Nat.le_refl _
  | cons d r ih =>
    intro p hp
    rw [splitC_cons] at hp
    by_cases h : d = c
    · rw [if_pos h] at hp
      rcases List.mem_cons.1 hp with rfl | hp
      · simp
      · have := ih p hp; simp; omega
    · rw [if_neg h] at hp
      have hne := splitC_ne c r
      cases hs : splitC c r with
      | nil => exact absurd hs hne
      | cons x y =>
        rw [hs] at hp ih
        rcases List.mem_cons.1 hp with rfl | hp
        · have := ih x (by simp); simp; omega
        · have := ih p (by simp at hp ⊢; exact .inr hp); simp; omega
theorem partsL_sum (s : List UInt8) : ∀ p ∈ partsL s, p.length ≤ s.length := by
  intro p hp
  unfold partsL at hp
  split at hp
  · exact splitC_sum 46 s p (List.dropLast_subset _ hp)
  · exact splitC_sum 46 s p hp
theorem partsL_len (s : List UInt8) : (partsL s).length ≤ s.length + 1 := by
  have := splitC_len 46 s
  unfold partsL
  split
  · rw [List.length_dropLast]; omega
  · exact this
/-- What a slice of strings holds. -/
theorem mem_toList {l : List ByteArray} {ls : List (List UInt8)} (h : l.map (·.toList) = ls) {N : Nat} (hN : ∀ p ∈ ls, p.length ≤ N) (i : Nat) (hi : i < l.length) : (l[i]).size ≤ N := by
  rw [← size_toList]
  apply hN
  rw [← h]
  exact List.mem_map_of_mem (List.getElem_mem hi)
theorem getLast_map {l : List ByteArray} (h : 0 < l.length) : (l.map (·.toList)).getLast? = some (l[l.length - 1].toList) := by
  rw [List.getLast?_eq_getElem?, List.length_map, List.getElem?_map, List.getElem?_eq_getElem (by omega)]; rfl
theorem read_front {w : World} {g : Nat} {l : List ByteArray} {c : Nat} (h : ∀ i (h : i < l.length), w.cell? ⟨g, i, none⟩ = some (.string l[i])) : ReadS w (.slice (some ⟨g, 0, none⟩) l.length c) l :=
  ⟨_, c, rfl, fun _ => ⟨g, 0, rfl, fun i hi => by rw [Nat.zero_add]; exact h i hi⟩⟩

theorem numLen (s : List UInt8) : ∀ p ∈ partsL s, p.length ≤ s.length := partsL_sum s
/-- The last part, as the code reads it. -/
theorem read_last {w : World} {v : Value} {l : List ByteArray} (h : ReadS w v l) (hn : 0 < l.length) : ∃ g o c, v = .slice (some ⟨g, o, none⟩) l.length c ∧ (∀ i (h : i < l.length), w.cell? ⟨g, o + i, none⟩ = some (.string l[i])) := by
  obtain ⟨a, c, rfl, hc⟩ := h
  obtain ⟨g, o, rfl, hcc⟩ := hc hn
  exact ⟨g, o, c, rfl, hcc⟩
theorem last_of {l : List ByteArray} {ls : List (List UInt8)} (h : l.map (·.toList) = ls) (hn : 0 < l.length) : lastP ls = l[l.length - 1].toList := by
  unfold lastP; rw [← h, getLast_map hn]; rfl
/-- The call hands back a number of 32 bits, if there is one. -/
def RetU (w : World) (o : Option Nat) (e : Ending) (w' : World) : Prop := e = .returned (.tuple #[.int .u32 ((o.getD 0 : Nat) : Int), .bool o.isSome]) ∧ Below w.heap.size w w'
theorem retU_none {w w' : World} {o : Option Nat} (h : o = none) (hb : Below w.heap.size w w') : RetU w o (.returned (.tuple #[.int .u32 0, .bool false])) w' := by subst h; exact ⟨rfl, hb⟩
end Go.Proofs.YtbejimncmfeggaaDoor
