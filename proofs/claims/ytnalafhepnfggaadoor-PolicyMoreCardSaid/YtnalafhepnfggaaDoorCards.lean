/-
  DERIVED. GIVEN WITH THE SEED: THE CARDS: each row of YtnalafhepnfggaaDoorRows.lean that lists a variable, with what it lists TIED to the program's text (the seventh form; the later family's looks); each row that meets fmt, with fmt's text TOLD by the authors' own Lean function (tested against real Go, not proved from fmt's source: count such statements apart). THE CARD IS WHAT COUNTS. Prove the row's statement (the work); the ties are given (YtnalafhepnfggaaDoorTie.lean); close each card by the builder's one call (the guide's Derived/Test/ToyasCard.lean, 'card_holds'). Laid BY PROGRAM, IN A SANDBOX (cutbox-door.mjs). By AI agents, Wed Nov 11 2026. No macro, syntax, notation, axiom, sorry.
-/
import Derived.Test.YtnalafhepnfggaaDoorRows
import GoSem.ClaimSeven
namespace Go.Proofs.YtnalafhepnfggaaDoor
namespace Rows

/-- THE TIED CARD OF 'tamislaw23.PolicyMore'. -/
def policyMoreCard : Claim7 := { stood := { row := policyMoreRow, standIns := [], harness := (true, "0c0b12cda33dba710ab8194d4f85ee8a78695a01dcec0fa8d516d689ab0d2f8a"), looks := false }, kinds := [], alts := [], laidByText := true, laidKinds := [.data, .data, .data, .data, .pinned], laidTests := true, laidLooks := .later }
def PolicyMoreCardSaid : Prop := Claim7.holds Tryd.pinned (.plain (OpenSpec.ofChange policyMoreSpec)) policyMoreCard

/-- THE TIED CARD OF 'tamislaw23.PolicyHosts'. -/
def policyHostsCard : Claim7 := { stood := { row := policyHostsRow, standIns := [], harness := (true, "0c0b12cda33dba710ab8194d4f85ee8a78695a01dcec0fa8d516d689ab0d2f8a"), looks := false }, kinds := [], alts := [], laidByText := true, laidKinds := [.data, .data, .data, .data, .pinned], laidTests := true, laidLooks := .later }
def PolicyHostsCardSaid : Prop := Claim7.holds Tryd.pinned (.plain (OpenSpec.ofChange policyHostsSpec)) policyHostsCard

/-- THE SECOND FORM's CARD OF 'tamislaw23.PolicyMore'. -/
def policyMoreUptoCard : Claim7 := { stood := { row := policyMoreUptoRow, standIns := [], harness := (true, "0c0b12cda33dba710ab8194d4f85ee8a78695a01dcec0fa8d516d689ab0d2f8a"), looks := false }, kinds := [], alts := [], laidByText := true, laidKinds := [.data, .data, .data, .data, .pinned], laidTests := true, laidLooks := .later }
def PolicyMoreUptoCardSaid : Prop := Claim7.holds Tryd.pinned (.plain (OpenSpec.upto policyMoreSpec)) policyMoreUptoCard

/-- THE SECOND FORM's CARD OF 'tamislaw23.PolicyHosts'. -/
def policyHostsUptoCard : Claim7 := { stood := { row := policyHostsUptoRow, standIns := [], harness := (true, "0c0b12cda33dba710ab8194d4f85ee8a78695a01dcec0fa8d516d689ab0d2f8a"), looks := false }, kinds := [], alts := [], laidByText := true, laidKinds := [.data, .data, .data, .data, .pinned], laidTests := true, laidLooks := .later }
def PolicyHostsUptoCardSaid : Prop := Claim7.holds Tryd.pinned (.plain (OpenSpec.upto policyHostsSpec)) policyHostsUptoCard
end Rows
end Go.Proofs.YtnalafhepnfggaaDoor
