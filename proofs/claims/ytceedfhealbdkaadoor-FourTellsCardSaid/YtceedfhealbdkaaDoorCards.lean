/-
  DERIVED. GIVEN WITH THE SEED: THE CARDS: each row of YtceedfhealbdkaaDoorRows.lean that lists a variable, with what it lists TIED to the program's text (the seventh form; the later family's looks); each row that meets fmt, with fmt's text TOLD by the authors' own Lean function (tested against real Go, not proved from fmt's source: count such statements apart). THE CARD IS WHAT COUNTS. Prove the row's statement (the work); the ties are given (YtceedfhealbdkaaDoorTie.lean); close each card by the builder's one call (the guide's Derived/Test/ToyasCard.lean, 'card_holds'). Laid BY PROGRAM, IN A SANDBOX (cutbox-door.mjs). By AI agents, Wed Nov 11 2026. No macro, syntax, notation, axiom, sorry.
-/
import Derived.Test.YtceedfhealbdkaaDoorRows
import GoSem.ClaimSeven
namespace Go.Proofs.YtceedfhealbdkaaDoor
namespace Rows

/-- THE TIED CARD OF 'tamislaw09.FourTells'. -/
def fourTellsCard : Claim7 := { stood := { row := fourTellsRow, standIns := [], harness := (true, "c8ceeb221296d9427f89f3e2998d6c7a387832301c730af1cb521f35aa38358e"), looks := false }, kinds := [], alts := [], laidByText := true, laidKinds := [.data, .data, .data, .data, .pinned], laidTests := true, laidLooks := .later }
def FourTellsCardSaid : Prop := Claim7.holds Tryd.pinned (.plain (OpenSpec.ofChange fourTellsSpec)) fourTellsCard

/-- THE TIED CARD OF 'tamislaw09.FourBack'. -/
def fourBackCard : Claim7 := { stood := { row := fourBackRow, standIns := [], harness := (true, "c8ceeb221296d9427f89f3e2998d6c7a387832301c730af1cb521f35aa38358e"), looks := false }, kinds := [], alts := [], laidByText := true, laidKinds := [.data, .data, .data, .data, .pinned], laidTests := true, laidLooks := .later }
def FourBackCardSaid : Prop := Claim7.holds Tryd.pinned (.plain (OpenSpec.ofChange fourBackSpec)) fourBackCard

/-- THE TIED CARD OF 'tamislaw09.FourForms'. -/
def fourFormsCard : Claim7 := { stood := { row := fourFormsRow, standIns := [], harness := (true, "c8ceeb221296d9427f89f3e2998d6c7a387832301c730af1cb521f35aa38358e"), looks := false }, kinds := [], alts := [], laidByText := true, laidKinds := [.data, .data, .data, .data, .pinned], laidTests := true, laidLooks := .later }
def FourFormsCardSaid : Prop := Claim7.holds Tryd.pinned (.plain (OpenSpec.ofChange fourFormsSpec)) fourFormsCard

/-- THE TIED CARD OF 'tamislaw09.FourEnds'. -/
def fourEndsCard : Claim7 := { stood := { row := fourEndsRow, standIns := [], harness := (true, "c8ceeb221296d9427f89f3e2998d6c7a387832301c730af1cb521f35aa38358e"), looks := false }, kinds := [], alts := [], laidByText := true, laidKinds := [.data, .data, .data, .data, .pinned], laidTests := true, laidLooks := .later }
def FourEndsCardSaid : Prop := Claim7.holds Tryd.pinned (.plain (OpenSpec.ofChange fourEndsSpec)) fourEndsCard

/-- THE TIED CARD OF 'tamislaw09.FourPoint'. -/
def fourPointCard : Claim7 := { stood := { row := fourPointRow, standIns := [], harness := (true, "c8ceeb221296d9427f89f3e2998d6c7a387832301c730af1cb521f35aa38358e"), looks := false }, kinds := [], alts := [], laidByText := true, laidKinds := [.data, .data, .data, .data, .pinned], laidTests := true, laidLooks := .later }
def FourPointCardSaid : Prop := Claim7.holds Tryd.pinned (.plain (OpenSpec.ofChange fourPointSpec)) fourPointCard

/-- THE TIED CARD OF 'tamislaw09.FourWrong'. -/
def fourWrongCard : Claim7 := { stood := { row := fourWrongRow, standIns := [], harness := (true, "c8ceeb221296d9427f89f3e2998d6c7a387832301c730af1cb521f35aa38358e"), looks := false }, kinds := [], alts := [], laidByText := true, laidKinds := [.data, .data, .data, .data, .pinned], laidTests := true, laidLooks := .later }
def FourWrongCardSaid : Prop := Claim7.holds Tryd.pinned (.plain (OpenSpec.ofChange fourWrongSpec)) fourWrongCard

/-- THE SECOND FORM's CARD OF 'tamislaw09.FourTells'. -/
def fourTellsUptoCard : Claim7 := { stood := { row := fourTellsUptoRow, standIns := [], harness := (true, "c8ceeb221296d9427f89f3e2998d6c7a387832301c730af1cb521f35aa38358e"), looks := false }, kinds := [], alts := [], laidByText := true, laidKinds := [.data, .data, .data, .data, .pinned], laidTests := true, laidLooks := .later }
def FourTellsUptoCardSaid : Prop := Claim7.holds Tryd.pinned (.plain (OpenSpec.upto fourTellsSpec)) fourTellsUptoCard

/-- THE SECOND FORM's CARD OF 'tamislaw09.FourBack'. -/
def fourBackUptoCard : Claim7 := { stood := { row := fourBackUptoRow, standIns := [], harness := (true, "c8ceeb221296d9427f89f3e2998d6c7a387832301c730af1cb521f35aa38358e"), looks := false }, kinds := [], alts := [], laidByText := true, laidKinds := [.data, .data, .data, .data, .pinned], laidTests := true, laidLooks := .later }
def FourBackUptoCardSaid : Prop := Claim7.holds Tryd.pinned (.plain (OpenSpec.upto fourBackSpec)) fourBackUptoCard

/-- THE SECOND FORM's CARD OF 'tamislaw09.FourForms'. -/
def fourFormsUptoCard : Claim7 := { stood := { row := fourFormsUptoRow, standIns := [], harness := (true, "c8ceeb221296d9427f89f3e2998d6c7a387832301c730af1cb521f35aa38358e"), looks := false }, kinds := [], alts := [], laidByText := true, laidKinds := [.data, .data, .data, .data, .pinned], laidTests := true, laidLooks := .later }
def FourFormsUptoCardSaid : Prop := Claim7.holds Tryd.pinned (.plain (OpenSpec.upto fourFormsSpec)) fourFormsUptoCard

/-- THE SECOND FORM's CARD OF 'tamislaw09.FourEnds'. -/
def fourEndsUptoCard : Claim7 := { stood := { row := fourEndsUptoRow, standIns := [], harness := (true, "c8ceeb221296d9427f89f3e2998d6c7a387832301c730af1cb521f35aa38358e"), looks := false }, kinds := [], alts := [], laidByText := true, laidKinds := [.data, .data, .data, .data, .pinned], laidTests := true, laidLooks := .later }
def FourEndsUptoCardSaid : Prop := Claim7.holds Tryd.pinned (.plain (OpenSpec.upto fourEndsSpec)) fourEndsUptoCard

/-- THE SECOND FORM's CARD OF 'tamislaw09.FourPoint'. -/
def fourPointUptoCard : Claim7 := { stood := { row := fourPointUptoRow, standIns := [], harness := (true, "c8ceeb221296d9427f89f3e2998d6c7a387832301c730af1cb521f35aa38358e"), looks := false }, kinds := [], alts := [], laidByText := true, laidKinds := [.data, .data, .data, .data, .pinned], laidTests := true, laidLooks := .later }
def FourPointUptoCardSaid : Prop := Claim7.holds Tryd.pinned (.plain (OpenSpec.upto fourPointSpec)) fourPointUptoCard

/-- THE SECOND FORM's CARD OF 'tamislaw09.FourWrong'. -/
def fourWrongUptoCard : Claim7 := { stood := { row := fourWrongUptoRow, standIns := [], harness := (true, "c8ceeb221296d9427f89f3e2998d6c7a387832301c730af1cb521f35aa38358e"), looks := false }, kinds := [], alts := [], laidByText := true, laidKinds := [.data, .data, .data, .data, .pinned], laidTests := true, laidLooks := .later }
def FourWrongUptoCardSaid : Prop := Claim7.holds Tryd.pinned (.plain (OpenSpec.upto fourWrongSpec)) fourWrongUptoCard
end Rows
end Go.Proofs.YtceedfhealbdkaaDoor
