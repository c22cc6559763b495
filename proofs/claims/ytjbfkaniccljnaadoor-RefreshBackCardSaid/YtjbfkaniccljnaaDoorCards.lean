/-
  DERIVED. GIVEN WITH THE SEED: THE CARDS: each row of YtjbfkaniccljnaaDoorRows.lean that lists a variable, with what it lists TIED to the program's text (the seventh form; the later family's looks); each row that meets fmt, with fmt's text TOLD by the authors' own Lean function (tested against real Go, not proved from fmt's source: count such statements apart). THE CARD IS WHAT COUNTS. Prove the row's statement (the work); the ties are given (YtjbfkaniccljnaaDoorTie.lean); close each card by the builder's one call (the guide's Derived/Test/ToyasCard.lean, 'card_holds'). Laid BY PROGRAM, IN A SANDBOX (cutbox-door.mjs). By AI agents, Wed Nov 11 2026. No macro, syntax, notation, axiom, sorry.
-/
import Derived.Test.YtjbfkaniccljnaaDoorRows
import GoSem.ClaimSeven
namespace Go.Proofs.YtjbfkaniccljnaaDoor
namespace Rows

/-- THE TIED CARD OF 'tamislaw21.RefreshNone'. -/
def refreshNoneCard : Claim7 := { stood := { row := refreshNoneRow, standIns := [], harness := (true, "41489df373f60f6bc4a1a43f9d751777bab9342752240e91cb31ed9ff7d23d21"), looks := false }, kinds := [], alts := [], laidByText := true, laidKinds := [.data, .pinned], laidTests := true, laidLooks := .later }
def RefreshNoneCardSaid : Prop := Claim7.holds Tryd.pinned (.plain (OpenSpec.ofChange refreshNoneSpec)) refreshNoneCard

/-- THE TIED CARD OF 'tamislaw21.RefreshBlank'. -/
def refreshBlankCard : Claim7 := { stood := { row := refreshBlankRow, standIns := [], harness := (true, "41489df373f60f6bc4a1a43f9d751777bab9342752240e91cb31ed9ff7d23d21"), looks := false }, kinds := [], alts := [], laidByText := true, laidKinds := [.data, .pinned], laidTests := true, laidLooks := .later }
def RefreshBlankCardSaid : Prop := Claim7.holds Tryd.pinned (.plain (OpenSpec.ofChange refreshBlankSpec)) refreshBlankCard

/-- THE TIED CARD OF 'tamislaw21.RefreshBack'. -/
def refreshBackCard : Claim7 := { stood := { row := refreshBackRow, standIns := [], harness := (true, "41489df373f60f6bc4a1a43f9d751777bab9342752240e91cb31ed9ff7d23d21"), looks := false }, kinds := [], alts := [], laidByText := true, laidKinds := [.data, .pinned], laidTests := true, laidLooks := .later }
def RefreshBackCardSaid : Prop := Claim7.holds Tryd.pinned (.plain (OpenSpec.ofChange refreshBackSpec)) refreshBackCard

/-- THE SECOND FORM's CARD OF 'tamislaw21.RefreshNone'. -/
def refreshNoneUptoCard : Claim7 := { stood := { row := refreshNoneUptoRow, standIns := [], harness := (true, "41489df373f60f6bc4a1a43f9d751777bab9342752240e91cb31ed9ff7d23d21"), looks := false }, kinds := [], alts := [], laidByText := true, laidKinds := [.data, .pinned], laidTests := true, laidLooks := .later }
def RefreshNoneUptoCardSaid : Prop := Claim7.holds Tryd.pinned (.plain (OpenSpec.upto refreshNoneSpec)) refreshNoneUptoCard

/-- THE SECOND FORM's CARD OF 'tamislaw21.RefreshBlank'. -/
def refreshBlankUptoCard : Claim7 := { stood := { row := refreshBlankUptoRow, standIns := [], harness := (true, "41489df373f60f6bc4a1a43f9d751777bab9342752240e91cb31ed9ff7d23d21"), looks := false }, kinds := [], alts := [], laidByText := true, laidKinds := [.data, .pinned], laidTests := true, laidLooks := .later }
def RefreshBlankUptoCardSaid : Prop := Claim7.holds Tryd.pinned (.plain (OpenSpec.upto refreshBlankSpec)) refreshBlankUptoCard

/-- THE SECOND FORM's CARD OF 'tamislaw21.RefreshBack'. -/
def refreshBackUptoCard : Claim7 := { stood := { row := refreshBackUptoRow, standIns := [], harness := (true, "41489df373f60f6bc4a1a43f9d751777bab9342752240e91cb31ed9ff7d23d21"), looks := false }, kinds := [], alts := [], laidByText := true, laidKinds := [.data, .pinned], laidTests := true, laidLooks := .later }
def RefreshBackUptoCardSaid : Prop := Claim7.holds Tryd.pinned (.plain (OpenSpec.upto refreshBackSpec)) refreshBackUptoCard
end Rows
end Go.Proofs.YtjbfkaniccljnaaDoor
