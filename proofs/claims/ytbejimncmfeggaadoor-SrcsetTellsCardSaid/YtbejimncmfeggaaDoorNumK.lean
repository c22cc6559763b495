/- A number's digits, read: no program in sight. -/
import Derived.Test.YtbejimncmfeggaaDoorNumD
import Derived.Test.YtbejimncmfeggaaDoorNumJ
namespace Go.Proofs.YtbejimncmfeggaaDoor
open Go.RowKit
set_option linter.unusedVariables false

/-- A number's digits behind k noughts. -/
def dgl (k n : Nat) : List UInt8 := List.replicate k 48 ++ digL 10 n
/-- Digits of ten alone. -/
def Ten (l : List UInt8) : Prop := ∀ c ∈ l, ∃ d, d < 10 ∧ c = hexC d
theorem ten_digL (n : Nat) : Ten (digL 10 n) := digL_mem (by decide) (by decide) n
theorem ten_append {a b : List UInt8} (h : Ten a) (k : Ten b) : Ten (a ++ b) := fun c hc => (List.mem_append.1 hc).elim (h c) (k c)
theorem ten_dgl (k n : Nat) : Ten (dgl k n) := ten_append (fun c hc => ⟨0, by decide, (List.eq_of_mem_replicate hc).trans (by decide)⟩) (ten_digL n)
theorem ten_plain : ∀ d : Fin 10, (hexC d.val).toNat < 128 ∧ hexC d.val ≠ 101 ∧ hexC d.val ≠ 69 ∧ hexC d.val ≠ 46 ∧ hexC d.val ≠ 45 ∧ hexC d.val ≠ 43 := by decide +kernel
theorem ten_ascii {l : List UInt8} (h : Ten l) : AsciiL l := by
  intro c hc; obtain ⟨d, hd, rfl⟩ := h c hc; exact (ten_plain ⟨d, hd⟩).1
theorem cutE_ten {l m : List UInt8} (h : Ten l) : cutE (l ++ m) = (l ++ (cutE m).1, (cutE m).2) := by
  induction l with
  | nil => rfl
  | cons c r ih =>
    obtain ⟨d, hd, rfl⟩ := h c (List.mem_cons_self ..)
    have hp := ten_plain ⟨d, hd⟩
    rw [List.cons_append, cutE, if_neg (by intro hx; rcases hx with hx | hx; exact hp.2.1 hx; exact hp.2.2.1 hx), ih (fun x hx => h x (List.mem_cons_of_mem _ hx))]
    rfl
theorem digs1_dgl (k n : Nat) : digs1 10 (dgl k n) = some n := by
  unfold digs1
  rw [if_neg (by unfold dgl; intro h; exact digL_ne 10 n (List.append_eq_nil_iff.1 h).2)]
  unfold dgl
  rw [digsGo_noughts (by decide)]
  exact digsGo_digL (by decide) (by decide) n
theorem floatW_whole {n : Nat} (h : n < 2 ^ 53) : floatW (false, n, 0) = floatOfInt .f64 (n : Int) := by
  have e : floatOfInt .f64 (n : Int) = Ieee.double.nearest false n 0 := by
    unfold floatOfInt FloatKind.nearest
    simp
    rfl
  unfold floatW
  rw [if_neg (by simp)]
  show moveB (floatOfInt .f64 (n : Int)) 0 = _
  rw [e]
  exact move_zero h
theorem cutC_ten {l m : List UInt8} (h : Ten l) : cutC 46 (l ++ m) = (l ++ (cutC 46 m).1, (cutC 46 m).2.1, (cutC 46 m).2.2) := by
  induction l with
  | nil => rfl
  | cons c r ih =>
    obtain ⟨d, hd, rfl⟩ := h c (List.mem_cons_self ..)
    have hp := ten_plain ⟨d, hd⟩
    rw [List.cons_append, cutC, if_neg hp.2.2.2.1, ih (fun x hx => h x (List.mem_cons_of_mem _ hx))]
    rfl
theorem digs1_more (k n d : Nat) (hd : d ≤ 9) : digs1 10 (dgl k n ++ digL 10 d) = some (n * 10 + d) := by
  have h1 : digsGo 10 0 (dgl k n) = some n := by
    have := digs1_dgl k n
    unfold digs1 at this
    split at this
    · cases this
    · exact this
  unfold digs1
  rw [if_neg (by intro h; exact digL_ne 10 d (List.append_eq_nil_iff.1 h).2), digsGo_append, h1, digL_small (by omega)]
  show digsGo 10 n [hexC d] = _
  rw [digsGo, digitZ_hexC (by omega) (by decide), if_neg (by omega), digsGo, Int.toNat_natCast]
theorem floatP_ten {l : List UInt8} {n : Nat} (h : Ten l) (hn : digs1 10 l = some n) (hl : l.length ≤ 15) : floatP l = some (false, n, 0) := by
  have h1 : cutE l = (l, none) := by have := cutE_ten (m := []) h; simpa [cutE] using this
  have h2 : cutC 46 l = (l, [], false) := by have := cutC_ten (m := []) h; simpa [cutC] using this
  have hq : floatQ l = some (n, 0) := by
    unfold floatQ
    rw [h1]
    dsimp only
    rw [h2]
    dsimp only
    rw [List.append_nil, hn, if_neg (by simp; omega)]
    simp
  unfold floatP
  split
  · rename_i r
    obtain ⟨d, hd, he⟩ := h 45 (List.mem_cons_self ..)
    exact absurd he.symm (ten_plain ⟨d, hd⟩).2.2.2.2.1
  · rw [hq]; rfl
theorem floatP_long {l : List UInt8} (h : Ten l) (hl : 15 < l.length) : floatP l = none := by
  have h1 : cutE l = (l, none) := by have := cutE_ten (m := []) h; simpa [cutE] using this
  have h2 : cutC 46 l = (l, [], false) := by have := cutC_ten (m := []) h; simpa [cutC] using this
  have hq : floatQ l = none := by
    unfold floatQ
    rw [h1]
    dsimp only
    rw [h2]
    dsimp only
    rw [if_pos (by simp; omega)]
  unfold floatP
  split
  · rename_i r
    obtain ⟨d, hd, he⟩ := h 45 (List.mem_cons_self ..)
    exact absurd he.symm (ten_plain ⟨d, hd⟩).2.2.2.2.1
  · rw [hq]; rfl
end Go.Proofs.YtbejimncmfeggaaDoor
