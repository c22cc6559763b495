/- A list law is a law of a step in a region that draws its order. -/
import Derived.Test.YtnalafhepnfggaaDoorAppendS
import Derived.Deep.RegionHeld3
namespace Go.Proofs.YtnalafhepnfggaaDoor
open Go.RowKit
set_option linter.unusedVariables false

/-- What a list of one operation shows for each way on, the region's step shows. -/
theorem step_of_list {P : Program} {ops : Array Oper} {o : Oper} {a : Act} {w : World} {K : Act → World → Prop} {Q : Exit → Act → World → Prop}
    (hw : Region.wanted o (yielded ops a.tmps) = true) (h : ∀ Q' : Exit → Act → World → Prop, (∀ a w, K a w → Q' .normal a w) → wpList P ops Q' [o] a w) :
    if Region.wanted o (yielded ops a.tmps) = true then Oper.wp P o a w K Q else K (a.put o.dst undef) w := by
  rw [if_pos hw]
  have hl := h (fun e a w => match e with | .normal => K a w | .outgrown => False | e => Q e a w) (fun _ _ k => k)
  unfold wpList at hl
  rw [if_pos hw] at hl
  rcases hl with hA | ⟨_, a', w', hf⟩
  · unfold Oper.wp at hA ⊢
    generalize (execOp a.eval o).run P w = r at hA ⊢
    cases r with
    | ok v w' =>
      cases v with
      | value v => exact hA
      | skip => exact hA
      | defer d => exact hA
      | enter f args =>
        refine Calls.mono (show Calls P f args w' _ from hA) ?_
        intro e w'' he
        cases e with
        | returned v => exact he
        | panicked c => exact he
        | outgrown => obtain ⟨_, _, hx⟩ := he; exact hx.elim
      | row row args => exact Rows.mono (show Rows P row args w' _ from hA) (fun _ _ h => h)
      | _ => exact hA
    | halt hh w' => cases hh <;> exact hA
  · exact hf.elim
end Go.Proofs.YtnalafhepnfggaaDoor
