/-
  DERIVED. GIVEN WITH THE SEED: THE CARDS: each row of YtonomfeipkdmhaaGreatDoorRows.lean that lists a variable, with what it lists TIED to the program's text (the seventh form; the later family's looks); each row that meets fmt, with fmt's text TOLD by the authors' own Lean function (tested against real Go, not proved from fmt's source: count such statements apart). THE CARD IS WHAT COUNTS. Prove the row's statement (the work); the ties are given (YtonomfeipkdmhaaGreatDoorTie.lean); close each card by the builder's one call (the guide's Derived/Test/ToyasCard.lean, 'card_holds'). Laid BY PROGRAM, IN A SANDBOX (cutbox-door.mjs). By AI agents, Wed Nov 11 2026. No macro, syntax, notation, axiom, sorry.
-/
import Derived.Test.YtonomfeipkdmhaaGreatDoorRows
import GoSem.ClaimSeven
namespace Go.Proofs.YtonomfeipkdmhaaGreatDoor
namespace Rows

/-- THE TIED CARD OF 'tamistop.TopSafe'. -/
def topSafeCard : Claim7 := { stood := { row := topSafeRow, standIns := [], harness := (true, "15603378c784dfe2e62fd147b3663c43cdff2613be936485047d76136f5f955c"), looks := false }, kinds := [], alts := [], laidByText := true, laidKinds := [.data, .data, .data, .data, .pinned], laidTests := true, laidLooks := .later }
def TopSafeCardSaid : Prop := Claim7.holds Tryz.pinned (.plain (OpenSpec.ofChange topSafeSpec)) topSafeCard

/-- THE TIED CARD OF 'tamistop.TopKeeps'. -/
def topKeepsCard : Claim7 := { stood := { row := topKeepsRow, standIns := [], harness := (true, "15603378c784dfe2e62fd147b3663c43cdff2613be936485047d76136f5f955c"), looks := false }, kinds := [], alts := [], laidByText := true, laidKinds := [.data, .data, .data, .data, .pinned], laidTests := true, laidLooks := .later }
def TopKeepsCardSaid : Prop := Claim7.holds Tryz.pinned (.plain (OpenSpec.ofChange topKeepsSpec)) topKeepsCard

/-- THE TIED CARD OF 'tamistop.TopStays'. -/
def topStaysCard : Claim7 := { stood := { row := topStaysRow, standIns := [], harness := (true, "15603378c784dfe2e62fd147b3663c43cdff2613be936485047d76136f5f955c"), looks := false }, kinds := [], alts := [], laidByText := true, laidKinds := [.data, .data, .data, .data, .pinned], laidTests := true, laidLooks := .later }
def TopStaysCardSaid : Prop := Claim7.holds Tryz.pinned (.plain (OpenSpec.ofChange topStaysSpec)) topStaysCard

/-- THE SECOND FORM's CARD OF 'tamistop.TopSafe'. -/
def topSafeUptoCard : Claim7 := { stood := { row := topSafeUptoRow, standIns := [], harness := (true, "15603378c784dfe2e62fd147b3663c43cdff2613be936485047d76136f5f955c"), looks := false }, kinds := [], alts := [], laidByText := true, laidKinds := [.data, .data, .data, .data, .pinned], laidTests := true, laidLooks := .later }
def TopSafeUptoCardSaid : Prop := Claim7.holds Tryz.pinned (.plain (OpenSpec.upto topSafeSpec)) topSafeUptoCard

/-- THE SECOND FORM's CARD OF 'tamistop.TopKeeps'. -/
def topKeepsUptoCard : Claim7 := { stood := { row := topKeepsUptoRow, standIns := [], harness := (true, "15603378c784dfe2e62fd147b3663c43cdff2613be936485047d76136f5f955c"), looks := false }, kinds := [], alts := [], laidByText := true, laidKinds := [.data, .data, .data, .data, .pinned], laidTests := true, laidLooks := .later }
def TopKeepsUptoCardSaid : Prop := Claim7.holds Tryz.pinned (.plain (OpenSpec.upto topKeepsSpec)) topKeepsUptoCard

/-- THE SECOND FORM's CARD OF 'tamistop.TopStays'. -/
def topStaysUptoCard : Claim7 := { stood := { row := topStaysUptoRow, standIns := [], harness := (true, "15603378c784dfe2e62fd147b3663c43cdff2613be936485047d76136f5f955c"), looks := false }, kinds := [], alts := [], laidByText := true, laidKinds := [.data, .data, .data, .data, .pinned], laidTests := true, laidLooks := .later }
def TopStaysUptoCardSaid : Prop := Claim7.holds Tryz.pinned (.plain (OpenSpec.upto topStaysSpec)) topStaysUptoCard
end Rows
end Go.Proofs.YtonomfeipkdmhaaGreatDoor
