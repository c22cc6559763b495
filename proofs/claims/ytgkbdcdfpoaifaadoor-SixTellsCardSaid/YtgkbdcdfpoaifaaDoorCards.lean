/-
  DERIVED. GIVEN WITH THE SEED: THE CARDS: each row of YtgkbdcdfpoaifaaDoorRows.lean that lists a variable, with what it lists TIED to the program's text (the seventh form; the later family's looks); each row that meets fmt, with fmt's text TOLD by the authors' own Lean function (tested against real Go, not proved from fmt's source: count such statements apart). THE CARD IS WHAT COUNTS. Prove the row's statement (the work); the ties are given (YtgkbdcdfpoaifaaDoorTie.lean); close each card by the builder's one call (the guide's Derived/Test/ToyasCard.lean, 'card_holds'). Laid BY PROGRAM, IN A SANDBOX (cutbox-door.mjs). By AI agents, Wed Nov 11 2026. No macro, syntax, notation, axiom, sorry.
-/
import Derived.Test.YtgkbdcdfpoaifaaDoorRows
import GoSem.ClaimSeven
namespace Go.Proofs.YtgkbdcdfpoaifaaDoor
namespace Rows

/-- THE TIED CARD OF 'tamislaw10.SixTells'. -/
def sixTellsCard : Claim7 := { stood := { row := sixTellsRow, standIns := [], harness := (true, "815d8c5ca42843bab2d15d2c5e457525351131aff69e193d6f07a7f08b44a92e"), looks := false }, kinds := [], alts := [], laidByText := true, laidKinds := [.data, .data, .data], laidTests := true, laidLooks := .later }
def SixTellsCardSaid : Prop := Claim7.holds Tryd.pinned (.plain (OpenSpec.ofChange sixTellsSpec)) sixTellsCard

/-- THE TIED CARD OF 'tamislaw10.SixShort'. -/
def sixShortCard : Claim7 := { stood := { row := sixShortRow, standIns := [], harness := (true, "815d8c5ca42843bab2d15d2c5e457525351131aff69e193d6f07a7f08b44a92e"), looks := false }, kinds := [], alts := [], laidByText := true, laidKinds := [.data, .data, .data], laidTests := true, laidLooks := .later }
def SixShortCardSaid : Prop := Claim7.holds Tryd.pinned (.plain (OpenSpec.ofChange sixShortSpec)) sixShortCard

/-- THE TIED CARD OF 'tamislaw10.SixMore'. -/
def sixMoreCard : Claim7 := { stood := { row := sixMoreRow, standIns := [], harness := (true, "815d8c5ca42843bab2d15d2c5e457525351131aff69e193d6f07a7f08b44a92e"), looks := false }, kinds := [], alts := [], laidByText := true, laidKinds := [.data, .data, .data], laidTests := true, laidLooks := .later }
def SixMoreCardSaid : Prop := Claim7.holds Tryd.pinned (.plain (OpenSpec.ofChange sixMoreSpec)) sixMoreCard

/-- THE TIED CARD OF 'tamislaw10.SixBack'. -/
def sixBackCard : Claim7 := { stood := { row := sixBackRow, standIns := [], harness := (true, "815d8c5ca42843bab2d15d2c5e457525351131aff69e193d6f07a7f08b44a92e"), looks := false }, kinds := [], alts := [], laidByText := true, laidKinds := [.data, .data, .data], laidTests := true, laidLooks := .later }
def SixBackCardSaid : Prop := Claim7.holds Tryd.pinned (.plain (OpenSpec.ofChange sixBackSpec)) sixBackCard

/-- THE TIED CARD OF 'tamislaw10.SixLarge'. -/
def sixLargeCard : Claim7 := { stood := { row := sixLargeRow, standIns := [], harness := (true, "815d8c5ca42843bab2d15d2c5e457525351131aff69e193d6f07a7f08b44a92e"), looks := false }, kinds := [], alts := [], laidByText := true, laidKinds := [.data, .data, .data], laidTests := true, laidLooks := .later }
def SixLargeCardSaid : Prop := Claim7.holds Tryd.pinned (.plain (OpenSpec.ofChange sixLargeSpec)) sixLargeCard

/-- THE TIED CARD OF 'tamislaw10.SixForms'. -/
def sixFormsCard : Claim7 := { stood := { row := sixFormsRow, standIns := [], harness := (true, "815d8c5ca42843bab2d15d2c5e457525351131aff69e193d6f07a7f08b44a92e"), looks := false }, kinds := [], alts := [], laidByText := true, laidKinds := [.data, .data, .data], laidTests := true, laidLooks := .later }
def SixFormsCardSaid : Prop := Claim7.holds Tryd.pinned (.plain (OpenSpec.ofChange sixFormsSpec)) sixFormsCard

/-- THE SECOND FORM's CARD OF 'tamislaw10.SixTells'. -/
def sixTellsUptoCard : Claim7 := { stood := { row := sixTellsUptoRow, standIns := [], harness := (true, "815d8c5ca42843bab2d15d2c5e457525351131aff69e193d6f07a7f08b44a92e"), looks := false }, kinds := [], alts := [], laidByText := true, laidKinds := [.data, .data, .data], laidTests := true, laidLooks := .later }
def SixTellsUptoCardSaid : Prop := Claim7.holds Tryd.pinned (.plain (OpenSpec.upto sixTellsSpec)) sixTellsUptoCard

/-- THE SECOND FORM's CARD OF 'tamislaw10.SixShort'. -/
def sixShortUptoCard : Claim7 := { stood := { row := sixShortUptoRow, standIns := [], harness := (true, "815d8c5ca42843bab2d15d2c5e457525351131aff69e193d6f07a7f08b44a92e"), looks := false }, kinds := [], alts := [], laidByText := true, laidKinds := [.data, .data, .data], laidTests := true, laidLooks := .later }
def SixShortUptoCardSaid : Prop := Claim7.holds Tryd.pinned (.plain (OpenSpec.upto sixShortSpec)) sixShortUptoCard

/-- THE SECOND FORM's CARD OF 'tamislaw10.SixMore'. -/
def sixMoreUptoCard : Claim7 := { stood := { row := sixMoreUptoRow, standIns := [], harness := (true, "815d8c5ca42843bab2d15d2c5e457525351131aff69e193d6f07a7f08b44a92e"), looks := false }, kinds := [], alts := [], laidByText := true, laidKinds := [.data, .data, .data], laidTests := true, laidLooks := .later }
def SixMoreUptoCardSaid : Prop := Claim7.holds Tryd.pinned (.plain (OpenSpec.upto sixMoreSpec)) sixMoreUptoCard

/-- THE SECOND FORM's CARD OF 'tamislaw10.SixBack'. -/
def sixBackUptoCard : Claim7 := { stood := { row := sixBackUptoRow, standIns := [], harness := (true, "815d8c5ca42843bab2d15d2c5e457525351131aff69e193d6f07a7f08b44a92e"), looks := false }, kinds := [], alts := [], laidByText := true, laidKinds := [.data, .data, .data], laidTests := true, laidLooks := .later }
def SixBackUptoCardSaid : Prop := Claim7.holds Tryd.pinned (.plain (OpenSpec.upto sixBackSpec)) sixBackUptoCard

/-- THE SECOND FORM's CARD OF 'tamislaw10.SixLarge'. -/
def sixLargeUptoCard : Claim7 := { stood := { row := sixLargeUptoRow, standIns := [], harness := (true, "815d8c5ca42843bab2d15d2c5e457525351131aff69e193d6f07a7f08b44a92e"), looks := false }, kinds := [], alts := [], laidByText := true, laidKinds := [.data, .data, .data], laidTests := true, laidLooks := .later }
def SixLargeUptoCardSaid : Prop := Claim7.holds Tryd.pinned (.plain (OpenSpec.upto sixLargeSpec)) sixLargeUptoCard

/-- THE SECOND FORM's CARD OF 'tamislaw10.SixForms'. -/
def sixFormsUptoCard : Claim7 := { stood := { row := sixFormsUptoRow, standIns := [], harness := (true, "815d8c5ca42843bab2d15d2c5e457525351131aff69e193d6f07a7f08b44a92e"), looks := false }, kinds := [], alts := [], laidByText := true, laidKinds := [.data, .data, .data], laidTests := true, laidLooks := .later }
def SixFormsUptoCardSaid : Prop := Claim7.holds Tryd.pinned (.plain (OpenSpec.upto sixFormsSpec)) sixFormsUptoCard
end Rows
end Go.Proofs.YtgkbdcdfpoaifaaDoor
