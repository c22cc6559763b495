/- The walks of the laws AsciiClasses, AsciiTexts and AsciiDigits. -/
import Derived.Test.YtcemneilhfjnhaaSmall01
import Derived.OpenShut
namespace Go.Proofs.Ytcemneilhfjnhaa
open Go.RowKit
set_option linter.unusedVariables false

theorem u8_bd {c : Int} (h : (Lit.int .u8 c).wf = true) : 0 ≤ c ∧ c ≤ 255 := by
  have := bounds_u8 h; omega

set_option maxHeartbeats 400000 in
theorem asciiClasses_walk (c b : Int) (w : World) (wc : (Lit.int .u8 c).wf = true) (wb : (Lit.int .i64 b).wf = true) :
    Calls Try.prog 3 #[.int .u8 c, .int .i64 b] w (RetB w true) := by
  obtain ⟨h0, h1⟩ := u8_bd wc
  go_enter Try.func3, Try.ntmps3
  go_wp2_with (first
    | (go_at_call 9; refine (small01_any _).mono ?_; rintro e w' ⟨rfl, hb⟩)
    | (go_at_call 10; refine (blank_any _ _).mono ?_; rintro e w' ⟨rfl, rfl⟩)
    | (go_at_call 11; refine (blankr_any _ _).mono ?_; rintro e w' ⟨rfl, rfl⟩)
    | (go_at_call 12; refine (letter_any _ _).mono ?_; rintro e w' ⟨rfl, rfl⟩)
    | (go_at_call 13; refine (letterr_any _ _).mono ?_; rintro e w' ⟨rfl, rfl⟩)
    | (go_at_call 14; refine (digit_any _ _ _ h0 h1).mono ?_; rintro e w' ⟨rfl, rfl⟩)
    | (go_at_call 15; refine (digitr_any _ _ _ h0 h1).mono ?_; rintro e w' ⟨rfl, rfl⟩))
  go_ret
  exact ⟨rfl, by assumption⟩
end Go.Proofs.Ytcemneilhfjnhaa
