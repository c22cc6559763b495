/- What the closures of package srcset say; what skip reads by each. -/
import Derived.Test.YtbejimncmfeggaaDoorSrcA
namespace Go.Proofs.YtbejimncmfeggaaDoor
open Go.RowKit
set_option linter.unusedVariables false
set_option linter.unusedSimpArgs false

def isBl (c : UInt8) : Bool := blankZ (c.toNat : Int)
def sepC (c : UInt8) : Bool := ((c.toNat : Int) == 44) || isBl c
/-- One sign of a word: whether it is of it, and whether a parenthesis is open behind it. -/
def wordS (ins : Bool) (c : UInt8) : Bool × Bool := if ins = true then (true, (c.toNat : Int) != 41) else if ((c.toNat : Int) == 40) = true then (true, true) else if sepC c = true then (false, false) else (true, false)
def pureS (p : UInt8 → Bool) : Unit → UInt8 → Bool × Unit := fun _ c => (p c, ())
theorem runL_pure (p : UInt8 → Bool) : ∀ l, runL (pureS p) () l = (l.takeWhile p, l.dropWhile p, ())
  | [] => rfl
  | c :: r => by
    cases h : p c
    · rw [runL_no (by exact h), List.takeWhile_cons, List.dropWhile_cons, if_neg (by rw [h]; decide), if_neg (by rw [h]; decide)]
    · rw [runL_yes (by exact h), List.takeWhile_cons, List.dropWhile_cons, if_pos h, if_pos h]
      have e : (pureS p () c).2 = () := rfl
      rw [e, runL_pure p r]
theorem runL_all {σ : Type} (step : σ → UInt8 → Bool × σ) : ∀ (st : σ) (l : List UInt8), (runL step st l).1 ++ (runL step st l).2.1 = l
  | st, [] => rfl
  | st, c :: r => by
    cases h : (step st c).1
    · rw [runL_no h]; rfl
    · rw [runL_yes h, List.cons_append]
      exact congrArg (c :: ·) (runL_all step _ r)
theorem bool_orS (b : Bool) : b = false ∨ b = true := by cases b <;> simp
theorem ask2_any (c : Int) (w : World) :
    Calls Tryd.prog 29 #[.int .u8 c] w fun e w' => e = .returned (.bool ((c == 44) || blankZ c)) ∧ w = w' := by
  go_enter Tryd.func29, Tryd.ntmps29
  rcases bool_orS (c == 44) with h | h
  all_goals
    rw [h]
    go_wp2_with (go_at_call 18; refine (blank_any _ _).mono ?_; rintro e w' ⟨rfl, rfl⟩)
    go_ret
    exact ⟨rfl, rfl⟩
theorem ask3_any (c : Int) (w : World) :
    Calls Tryd.prog 30 #[.int .u8 c] w fun e w' => e = .returned (.bool (!blankZ c)) ∧ w = w' := by
  go_enter Tryd.func30, Tryd.ntmps30
  go_wp2_with (go_at_call 18; refine (blank_any _ _).mono ?_; rintro e w' ⟨rfl, rfl⟩)
  go_ret
  exact ⟨rfl, rfl⟩
/-- The variable that tells whether a parenthesis is open. -/
def BoxB (g : Nat) (b : Bool) (w : World) : Prop := w.heap[g]? = some (.cells #[.bool b] 4 (0, 0))
theorem BoxB.put {w : World} {g : Nat} {b : Bool} (h : BoxB g b w) (b' : Bool) : BoxB g b' (w.setCell ⟨g, 0, none⟩ (.bool b')) := by
  unfold BoxB
  rw [set_blockA h]; rfl
set_option maxRecDepth 100000 in
set_option maxHeartbeats 1000000 in
theorem ask4_any (g : Nat) (b : Bool) (c : UInt8) (w : World) (hb : BoxB g b w) :
    Calls Tryd.prog 47 #[.int .u8 (c.toNat : Int), .pointer (some ⟨g, 0, none⟩)] w fun e w' => e = .returned (.bool (wordS b c).1) ∧ BoxB g (wordS b c).2 w' ∧ Chg (· = g) w w' := by
  have xb := cell_of_row _ _ 0 _ _ _ hb
  have fb := frozen_of_row _ _ 0 _ _ hb
  simp only [List.getElem?_toArray, List.getElem?_cons_zero] at xb
  have hput := hb.put
  replace hb := Lib.hid hb
  replace hput := Lib.hid hput
  cases b
  · rcases bool_orS ((c.toNat : Int) == 40) with h4 | h4
    · rcases bool_orS ((c.toNat : Int) == 44) with h5 | h5
      · rcases bool_orS (blankZ (c.toNat : Int)) with h6 | h6
        · have hw : Hid (wordS false c = (true, false)) := Lib.hid (by unfold wordS sepC isBl; rw [h4, h5, h6]; rfl)
          go_enter Tryd.func47, Tryd.ntmps47
          go_wp2_with (go_at_call 18; refine (blank_any _ _).mono ?_; rintro e w' ⟨rfl, rfl⟩)
          go_ret
          exact ⟨ret_bool (by rw [hw.out]), by rw [hw.out]; exact hb.out, Chg.refl _ _⟩
        · have hw : Hid (wordS false c = (false, false)) := Lib.hid (by unfold wordS sepC isBl; rw [h4, h5, h6]; rfl)
          go_enter Tryd.func47, Tryd.ntmps47
          go_wp2_with (go_at_call 18; refine (blank_any _ _).mono ?_; rintro e w' ⟨rfl, rfl⟩)
          go_ret
          exact ⟨ret_bool (by rw [hw.out]), by rw [hw.out]; exact hb.out, Chg.refl _ _⟩
      · have hw : Hid (wordS false c = (false, false)) := Lib.hid (by unfold wordS sepC; rw [h4, h5]; rfl)
        go_enter Tryd.func47, Tryd.ntmps47
        go_wp2_with fail
        go_ret
        exact ⟨ret_bool (by rw [hw.out]), by rw [hw.out]; exact hb.out, Chg.refl _ _⟩
    · have hw : Hid (wordS false c = (true, true)) := Lib.hid (by unfold wordS; rw [h4]; rfl)
      go_enter Tryd.func47, Tryd.ntmps47
      go_wp2_with fail
      go_ret
      exact ⟨ret_bool (by rw [hw.out]), by rw [hw.out]; exact hput.out true, (Chg.refl (· = g) w).set (g := g) rfl 0 _⟩
  · have hw : Hid (wordS true c = (true, (c.toNat : Int) != 41)) := Lib.hid (by unfold wordS; rw [if_pos rfl])
    go_enter Tryd.func47, Tryd.ntmps47
    go_wp2_with fail
    go_ret
    exact ⟨ret_bool (by rw [hw.out]), by rw [hw.out]; exact hput.out _, (Chg.refl (· = g) w).set (g := g) rfl 0 _⟩
end Go.Proofs.YtbejimncmfeggaaDoor
