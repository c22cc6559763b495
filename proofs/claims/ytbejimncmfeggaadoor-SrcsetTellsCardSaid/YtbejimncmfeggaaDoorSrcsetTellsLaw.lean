/- The statement Rows.SrcsetTellsSaid, proved out of its walk srcsetTells_walk: for every input that the row lets in the law returns true, and nothing that was there has turned. No condition beyond the row's own. -/
import Derived.Test.YtbejimncmfeggaaDoorSrcsetTells
import Derived.ProofKit
import Derived.OpenShut
import Derived.ShutString
import Derived.ChangeOld
import Derived.Below
import Derived.Test.YtbejimncmfeggaaDoorLaid
import Derived.Test.YtbejimncmfeggaaDoorCards
import Derived.Test.YtbejimncmfeggaaDoorTie
import Derived.SevenTiedAt
namespace Go.Proofs.YtbejimncmfeggaaDoor.srcsetTells
open Go.ChangeShapes Go.WideShapes Go.ChangeAt Go.RowKit
open Go.ChangeMaps (open_string shut_string)
set_option linter.unusedVariables false

theorem own : ownKnob Tryd.prog.godebug = none := by kernel_rfl
theorem laidOut : laidOutB Tryd.prog = true := by kernel_rfl

theorem laid_met (os : Os) (args : Array Value) : laidMet Tryd.prog Rows.srcsetTellsRow.laid ((laidWorld Tryd.prog os Rows.srcsetTellsRow.laid).forCall (fun _ _ => 0) ⟨#[], args, []⟩).memory :=
  laidMet_of_run' 8 (by kernel_rfl) (by kernel_rfl)
set_option maxRecDepth 100000 in
theorem lifted (os : Os) (started : os.Started) (H : Type) (enc : TypeId × Value → H) :
    ReturnsInHanded {} Tryd.checked os 3 .any (fun w args => (Rows.srcsetTellsSpec.pre enc Tryd.prog Tryd.f3 Rows.srcsetTellsRow.domain false w args ∧ laidMet Tryd.prog Rows.srcsetTellsRow.laid w) ∧ sizedMet enc Tryd.prog Tryd.f3 (OpenSpec.ofChange Rows.srcsetTellsSpec) false w args) (Rows.srcsetTellsSpec.post enc Tryd.prog Tryd.f3 false true false false) := by
  refine returns_laid (C := Tryd.checked) (L := Rows.srcsetTellsRow.laid) own started (by kernel_rfl) Tryd.func3 (ChangeSpec.witness_at (enc := enc) (C := Tryd.checked) (os := os) (X := fun w _ => laidMet Tryd.prog Rows.srcsetTellsRow.laid w) false (laidWorld Tryd.prog os Rows.srcsetTellsRow.laid) #[.slice none 0 0, .string ByteArray.empty] 8 rfl (by kernel_rfl) (by kernel_rfl) (by kernel_rfl) (by kernel_rfl) (by kernel_rfl) (laid_met os _)) ?_
  intro W base args ds gs before hval0 hW hcnd hL hsh
  have hval : ∀ (j : Nat) t v, Tryd.f3.params[j]? = some t → args[j]? = some v → Value.okWide Tryd.prog W .any base t v := hval0
  have hW' := hW
  obtain ⟨p, q, hA0, hV, rfl, hfz, hnd⟩ := hW
  have hA : DataW.TrodAll enc Tryd.prog W 0 (fun _ => true) true Tryd.f3.params.toList args.toList ds p := hA0
  rw [Tryd.params3] at hA hval
  obtain ⟨v0, vs0, d0, ds0, p0, q0, hargs, rfl, rfl, h0, r0⟩ := trodAll_cons hA
  obtain ⟨v1, vs1, d1, ds1, p1, q1, rfl, rfl, rfl, h1, r1⟩ := trodAll_cons r0
  obtain ⟨rfl, rfl, rfl⟩ := trodAll_nil r1
  obtain rfl : args = #[v0, v1] := by cases args; simp_all
  obtain ⟨rfl, rfl⟩ := trodVars_none hV
  have k0 := h0
  have lt0 : ∀ x ∈ p0, x.block < W.heap.size := by obtain ⟨m, hm⟩ := k0; exact DataW.trod_lt m _ _ _ hm
  obtain ⟨a0, len0, cap0, z0, rfl, w0⟩ := open_strs (hval 0 22 v0 rfl rfl) h0
  obtain ⟨a1, rfl, rfl, rfl, w1⟩ := open_string Tryd.underlying9 (hval 1 9 v1 rfl rfl) h1
  clear hA0 hval0
  refine (srcsetTells_walk a0 len0 cap0 z0 a1 W w0 w1).mono fun e W' ⟨he, bel⟩ => ?_
  subst he
  exact ⟨_, rfl, _, _, _, [], _, [], hW', trodAll_mk1 (shut_bool Tryd.underlying4 _), (trodAll_cons_mk (Below.trod laidOut (by kernel_rfl) (of_decide_eq_true (by kernel_rfl)) k0 bel lt0) (trodAll_cons_mk (shut_string Tryd.underlying9 w1) trodAll_mk0)), rfl, bel.frame _, fun h => by cases h⟩

theorem over : Rows.srcsetTellsRow.holds Tryd.pinned (OpenSpec.ofChange Rows.srcsetTellsSpec) :=
  OpenClaim.holds_of_wide 3 Tryd.f3 rfl rfl rfl rfl rfl rfl rfl ⟨rfl, rfl, rfl, rfl, rfl⟩ rfl rfl rfl rfl rfl (by kernel_rfl) Tryd.func3 (by kernel_rfl)
    (of_decide_eq_true (by kernel_rfl)) (by unfold Func.isWrapper; first | (rw [if_pos (by decide +kernel)]; kernel_rfl) | (rw [if_neg (by decide +kernel)]; exact ⟨rfl, rfl⟩))
    (fun os started H enc _ => lifted os started H enc)

theorem proved : Rows.SrcsetTellsSaid := over
#print axioms proved
/-- The tied card. -/
theorem card : Rows.SrcsetTellsCardSaid :=
  Claim7.holds_tied_plain_at _ _ _ _ _ _ over (fun _ h => by cases h) (by kernel_rfl) (fun _ h => by cases h) srcsetTells_row_tie rfl ⟨rfl, rfl⟩ (by kernel_rfl) rfl
    (fun f fn hf hfn => by
      obtain rfl : f = 3 := Option.some.inj ((show Tryd.prog.funcNamed "tamis/tamislaw19.SrcsetTells" = some 3 by kernel_rfl).symm.trans hf) |>.symm
      obtain rfl : fn = Tryd.f3 := (Option.some.inj (Tryd.func3.symm.trans hfn)).symm
      exact ⟨by kernel_rfl, fun j t ht => by
        rw [Tryd.params3] at ht
        have hm : t ∈ [22, 9] := by simpa using Array.mem_of_getElem? ht
        have hall : [22, 9].all (fun t => !(Tryd.prog.wantsStandIn t)) = true := by kernel_rfl
        have hb : (!(Tryd.prog.wantsStandIn t)) = true := List.all_eq_true.1 hall t hm
        exact (Bool.not_eq_true' _).mp hb⟩)
    (by kernel_rfl)
#print axioms card
end Go.Proofs.YtbejimncmfeggaaDoor.srcsetTells
