/- The statement Rows.PolicyMoreSaid, proved out of its walk policyMore_walk: for every input that the row lets in the law returns true, and nothing that was there has turned. No condition beyond the row's own. -/
import Derived.Test.YtnalafhepnfggaaDoorPolicyMore
import Derived.ProofKit
import Derived.OpenShut
import Derived.ShutString
import Derived.ChangeOld
import Derived.Below
import Derived.HandedShaped
import Derived.Shelf.Vars
import Derived.Test.YtnalafhepnfggaaDoorLaid
import Derived.Test.YtnalafhepnfggaaDoorCards
import Derived.Test.YtnalafhepnfggaaDoorTie
import Derived.SevenTiedAt
namespace Go.Proofs.YtnalafhepnfggaaDoor.policyMore
open Go.ChangeShapes Go.WideShapes Go.ChangeAt Go.RowKit
open Go.ChangeMaps (open_string shut_string)
set_option linter.unusedVariables false

theorem own : ownKnob Tryd.prog.godebug = none := by kernel_rfl
theorem laidOut : laidOutB Tryd.prog = true := by kernel_rfl

theorem laid_met (os : Os) (args : Array Value) : laidMet Tryd.prog Rows.policyMoreRow.laid ((laidWorld Tryd.prog os Rows.policyMoreRow.laid).forCall (fun _ _ => 0) ⟨#[], args, []⟩).memory :=
  laidMet_of_run' 8 (by kernel_rfl) (by kernel_rfl)
set_option maxRecDepth 100000 in
theorem lifted (os : Os) (started : os.Started) (H : Type) (enc : TypeId × Value → H) :
    ReturnsInHanded {} Tryd.checked os 3 .any (fun w args => (Rows.policyMoreSpec.pre enc Tryd.prog Tryd.f3 Rows.policyMoreRow.domain false w args ∧ laidMet Tryd.prog Rows.policyMoreRow.laid w) ∧ sizedMet enc Tryd.prog Tryd.f3 (OpenSpec.ofChange Rows.policyMoreSpec) false w args) (Rows.policyMoreSpec.post enc Tryd.prog Tryd.f3 false true false false) := by
  refine returns_laid (C := Tryd.checked) (L := Rows.policyMoreRow.laid) own started (by kernel_rfl) Tryd.func3 (ChangeSpec.witness_at (enc := enc) (C := Tryd.checked) (os := os) (X := fun w _ => laidMet Tryd.prog Rows.policyMoreRow.laid w) false (laidWorld Tryd.prog os Rows.policyMoreRow.laid) #[.agg #[.slice none 0 0, .slice none 0 0, .slice none 0 0, .int .i64 0], .agg #[.slice none 0 0, .slice none 0 0, .slice none 0 0, .int .i64 0], .agg #[.string ByteArray.empty, .string ByteArray.empty, .string ByteArray.empty, .int .i64 0, .string ByteArray.empty, .int .u32 0, .int .u16 0, .int .u16 0, .int .u16 0, .int .u16 0, .int .u16 0, .int .u16 0, .int .u16 0, .int .u16 0, .bool false, .int .i64 0, .bool false, .string ByteArray.empty, .slice none 0 0, .bool false, .string ByteArray.empty, .bool false, .string ByteArray.empty]] 8 rfl (by kernel_rfl) (by kernel_rfl) (by kernel_rfl) (by kernel_rfl) (by kernel_rfl) (laid_met os _)) ?_
  intro W base args ds gs before hval0 hW hcnd hL hsh
  have hval : ∀ (j : Nat) t v, Tryd.f3.params[j]? = some t → args[j]? = some v → Value.okWide Tryd.prog W .any base t v := hval0
  have hW' := hW
  obtain ⟨p, q, hA0, hV, rfl, hfz, hnd⟩ := hW
  have hA : DataW.TrodAll enc Tryd.prog W 0 (fun _ => true) true Tryd.f3.params.toList args.toList ds p := hA0
  rw [Tryd.params3] at hA hval
  obtain ⟨v0, vs0, d0, ds0, p0, q0, hargs, rfl, rfl, h0, r0⟩ := trodAll_cons hA
  obtain ⟨v1, vs1, d1, ds1, p1, q1, rfl, rfl, rfl, h1, r1⟩ := trodAll_cons r0
  obtain ⟨v2, vs2, d2, ds2, p2, q2, rfl, rfl, rfl, h2, r2⟩ := trodAll_cons r1
  obtain ⟨rfl, rfl, rfl⟩ := trodAll_nil r2
  obtain rfl : args = #[v0, v1, v2] := by cases args; simp_all
  obtain ⟨rfl, rfl⟩ := trodVars_none hV
  have k0 := h0
  have lt0 : ∀ x ∈ p0, x.block < W.heap.size := by obtain ⟨m, hm⟩ := k0; exact DataW.trod_lt m _ _ _ hm
  obtain ⟨a0, rfl, w0⟩ := open_pol (hval 0 24 v0 rfl rfl) h0
  have k1 := h1
  have lt1 : ∀ x ∈ p1, x.block < W.heap.size := by obtain ⟨m, hm⟩ := k1; exact DataW.trod_lt m _ _ _ hm
  obtain ⟨a1, rfl, w1⟩ := open_pol (hval 1 24 v1 rfl rfl) h1
  have k2 := h2
  have lt2 : ∀ x ∈ p2, x.block < W.heap.size := by obtain ⟨m, hm⟩ := k2; exact DataW.trod_lt m _ _ _ hm
  obtain ⟨a2, rfl, w2⟩ := open_url (hval 2 31 v2 rfl rfl) h2
  clear hA0 hval0
  have hml : ML W := cell_of_shapedOpen_int (P := Tryd.prog) (g := 0) (t := 3) (zero := #[.int .i64 0]) hsh (of_decide_eq_true (by kernel_rfl)) (by kernel_rfl) rfl (by kernel_rfl) (by kernel_rfl) Tryd.underlying3
  have htab : Tabs W := tabs_of_laid hL
  refine (policyMore_walk a0 a1 a2 W w0 w1 w2 htab hml).mono fun e W' ⟨he, bel⟩ => ?_
  subst he
  exact ⟨_, rfl, _, _, _, [], _, [], hW', trodAll_mk1 (shut_bool Tryd.underlying4 _), (trodAll_cons_mk (Below.trod laidOut (by kernel_rfl) (of_decide_eq_true (by kernel_rfl)) k0 bel lt0) (trodAll_cons_mk (Below.trod laidOut (by kernel_rfl) (of_decide_eq_true (by kernel_rfl)) k1 bel lt1) (trodAll_cons_mk (Below.trod laidOut (by kernel_rfl) (of_decide_eq_true (by kernel_rfl)) k2 bel lt2) trodAll_mk0))), rfl, bel.frame _, fun h => by cases h⟩

theorem over : Rows.policyMoreRow.holds Tryd.pinned (OpenSpec.ofChange Rows.policyMoreSpec) :=
  OpenClaim.holds_of_wide 3 Tryd.f3 rfl rfl rfl rfl rfl rfl rfl ⟨rfl, rfl, rfl, rfl, rfl⟩ rfl rfl rfl rfl rfl (by kernel_rfl) Tryd.func3 (by kernel_rfl)
    (of_decide_eq_true (by kernel_rfl)) (by unfold Func.isWrapper; first | (rw [if_pos (by decide +kernel)]; kernel_rfl) | (rw [if_neg (by decide +kernel)]; exact ⟨rfl, rfl⟩))
    (fun os started H enc _ => lifted os started H enc)

theorem proved : Rows.PolicyMoreSaid := over
#print axioms proved
/-- The tied card. -/
theorem card : Rows.PolicyMoreCardSaid :=
  Claim7.holds_tied_plain_at _ _ _ _ _ _ over (fun _ h => by cases h) (by kernel_rfl) (fun _ h => by cases h) policyMore_row_tie rfl ⟨rfl, rfl⟩ (by kernel_rfl) rfl
    (fun f fn hf hfn => by
      obtain rfl : f = 3 := Option.some.inj ((show Tryd.prog.funcNamed "tamis/tamislaw23.PolicyMore" = some 3 by kernel_rfl).symm.trans hf) |>.symm
      obtain rfl : fn = Tryd.f3 := (Option.some.inj (Tryd.func3.symm.trans hfn)).symm
      exact ⟨by kernel_rfl, fun j t ht => by
        rw [Tryd.params3] at ht
        have hm : t ∈ [24, 24, 31] := by simpa using Array.mem_of_getElem? ht
        have hall : [24, 24, 31].all (fun t => !(Tryd.prog.wantsStandIn t)) = true := by kernel_rfl
        have hb : (!(Tryd.prog.wantsStandIn t)) = true := List.all_eq_true.1 hall t hm
        exact (Bool.not_eq_true' _).mp hb⟩)
    (by kernel_rfl)
#print axioms card
end Go.Proofs.YtnalafhepnfggaaDoor.policyMore
