/- The walk of the law AsciiTight. -/
import Derived.Test.YtdlgpmihjecdlaaDoorSmall01
import Derived.Test.YtdlgpmihjecdlaaDoorTrimPlain
namespace Go.Proofs.YtdlgpmihjecdlaaDoor
open Go.RowKit
set_option linter.unusedVariables false

theorem tightL_append (a b : List UInt8) : tightL (a ++ b) = tightL a ++ tightL b := by simp [tightL]
theorem lowerC_all : ∀ n : Fin 256, tightC (lowerC (UInt8.ofNat n.val)) = tightC (UInt8.ofNat n.val) ∧ lowerC (lowerC (UInt8.ofNat n.val)) = lowerC (UInt8.ofNat n.val) := by decide +kernel
theorem lowerC_tight (c : UInt8) : tightC (lowerC c) = tightC c := by
  have := (lowerC_all ⟨c.toNat, c.toNat_lt⟩).1; simpa using this
theorem lowerC_idem (c : UInt8) : lowerC (lowerC c) = lowerC c := by
  have := (lowerC_all ⟨c.toNat, c.toNat_lt⟩).2; simpa using this
theorem lower_tight (l : List UInt8) : lowerL (tightL l) = tightL (lowerL l) := by
  induction l with
  | nil => rfl
  | cons c l ih =>
    simp only [lowerL, tightL, List.map_cons, List.filter_cons, lowerC_tight] at ih ⊢
    split <;> simp [ih]
theorem lower_idem (l : List UInt8) : lowerL (lowerL l) = lowerL l := by
  simp only [lowerL, List.map_map]; apply List.map_congr_left; intro c _; exact lowerC_idem c
theorem tightL_len (l : List UInt8) : (tightL l).length ≤ l.length := List.length_filter_le _ _
theorem lowerL_len (l : List UInt8) : (lowerL l).length = l.length := by simp [lowerL]

end Go.Proofs.YtdlgpmihjecdlaaDoor
