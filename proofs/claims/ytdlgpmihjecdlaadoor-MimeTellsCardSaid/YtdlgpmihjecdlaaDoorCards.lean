/-
  DERIVED. GIVEN WITH THE SEED: THE CARDS: each row of YtdlgpmihjecdlaaDoorRows.lean that lists a variable, with what it lists TIED to the program's text (the seventh form; the later family's looks); each row that meets fmt, with fmt's text TOLD by the authors' own Lean function (tested against real Go, not proved from fmt's source: count such statements apart). THE CARD IS WHAT COUNTS. Prove the row's statement (the work); the ties are given (YtdlgpmihjecdlaaDoorTie.lean); close each card by the builder's one call (the guide's Derived/Test/ToyasCard.lean, 'card_holds'). Laid BY PROGRAM, IN A SANDBOX (cutbox-door.mjs). By AI agents, Wed Nov 11 2026. No macro, syntax, notation, axiom, sorry.
-/
import Derived.Test.YtdlgpmihjecdlaaDoorRows
import GoSem.ClaimSeven
namespace Go.Proofs.YtdlgpmihjecdlaaDoor
namespace Rows

/-- THE TIED CARD OF 'tamislaw18.MimeTells'. -/
def mimeTellsCard : Claim7 := { stood := { row := mimeTellsRow, standIns := [], harness := (true, "ee113fe9cc34d18876ee81ee2a863bd5071775bddf9b13fb57347675513025cb"), looks := false }, kinds := [], alts := [], laidByText := true, laidKinds := [.data, .data, .data, .data, .pinned], laidTests := true, laidLooks := .later }
def MimeTellsCardSaid : Prop := Claim7.holds Tryd.pinned (.plain (OpenSpec.ofChange mimeTellsSpec)) mimeTellsCard

/-- THE TIED CARD OF 'tamislaw18.MimeOnce'. -/
def mimeOnceCard : Claim7 := { stood := { row := mimeOnceRow, standIns := [], harness := (true, "ee113fe9cc34d18876ee81ee2a863bd5071775bddf9b13fb57347675513025cb"), looks := false }, kinds := [], alts := [], laidByText := true, laidKinds := [.data, .data, .data, .data, .pinned], laidTests := true, laidLooks := .later }
def MimeOnceCardSaid : Prop := Claim7.holds Tryd.pinned (.plain (OpenSpec.ofChange mimeOnceSpec)) mimeOnceCard

/-- THE TIED CARD OF 'tamislaw18.MimeData'. -/
def mimeDataCard : Claim7 := { stood := { row := mimeDataRow, standIns := [], harness := (true, "ee113fe9cc34d18876ee81ee2a863bd5071775bddf9b13fb57347675513025cb"), looks := false }, kinds := [], alts := [], laidByText := true, laidKinds := [.data, .data, .data, .data, .pinned], laidTests := true, laidLooks := .later }
def MimeDataCardSaid : Prop := Claim7.holds Tryd.pinned (.plain (OpenSpec.ofChange mimeDataSpec)) mimeDataCard

/-- THE TIED CARD OF 'tamislaw18.MimeToken'. -/
def mimeTokenCard : Claim7 := { stood := { row := mimeTokenRow, standIns := [], harness := (true, "ee113fe9cc34d18876ee81ee2a863bd5071775bddf9b13fb57347675513025cb"), looks := false }, kinds := [], alts := [], laidByText := true, laidKinds := [.data, .data, .data, .data, .pinned], laidTests := true, laidLooks := .later }
def MimeTokenCardSaid : Prop := Claim7.holds Tryd.pinned (.plain (OpenSpec.ofChange mimeTokenSpec)) mimeTokenCard

/-- THE TIED CARD OF 'tamislaw18.MimeCoded'. -/
def mimeCodedCard : Claim7 := { stood := { row := mimeCodedRow, standIns := [], harness := (true, "ee113fe9cc34d18876ee81ee2a863bd5071775bddf9b13fb57347675513025cb"), looks := false }, kinds := [], alts := [], laidByText := true, laidKinds := [.data, .data, .data, .data, .pinned], laidTests := true, laidLooks := .later }
def MimeCodedCardSaid : Prop := Claim7.holds Tryd.pinned (.plain (OpenSpec.ofChange mimeCodedSpec)) mimeCodedCard

/-- THE SECOND FORM's CARD OF 'tamislaw18.MimeTells'. -/
def mimeTellsUptoCard : Claim7 := { stood := { row := mimeTellsUptoRow, standIns := [], harness := (true, "ee113fe9cc34d18876ee81ee2a863bd5071775bddf9b13fb57347675513025cb"), looks := false }, kinds := [], alts := [], laidByText := true, laidKinds := [.data, .data, .data, .data, .pinned], laidTests := true, laidLooks := .later }
def MimeTellsUptoCardSaid : Prop := Claim7.holds Tryd.pinned (.plain (OpenSpec.upto mimeTellsSpec)) mimeTellsUptoCard

/-- THE SECOND FORM's CARD OF 'tamislaw18.MimeOnce'. -/
def mimeOnceUptoCard : Claim7 := { stood := { row := mimeOnceUptoRow, standIns := [], harness := (true, "ee113fe9cc34d18876ee81ee2a863bd5071775bddf9b13fb57347675513025cb"), looks := false }, kinds := [], alts := [], laidByText := true, laidKinds := [.data, .data, .data, .data, .pinned], laidTests := true, laidLooks := .later }
def MimeOnceUptoCardSaid : Prop := Claim7.holds Tryd.pinned (.plain (OpenSpec.upto mimeOnceSpec)) mimeOnceUptoCard

/-- THE SECOND FORM's CARD OF 'tamislaw18.MimeData'. -/
def mimeDataUptoCard : Claim7 := { stood := { row := mimeDataUptoRow, standIns := [], harness := (true, "ee113fe9cc34d18876ee81ee2a863bd5071775bddf9b13fb57347675513025cb"), looks := false }, kinds := [], alts := [], laidByText := true, laidKinds := [.data, .data, .data, .data, .pinned], laidTests := true, laidLooks := .later }
def MimeDataUptoCardSaid : Prop := Claim7.holds Tryd.pinned (.plain (OpenSpec.upto mimeDataSpec)) mimeDataUptoCard

/-- THE SECOND FORM's CARD OF 'tamislaw18.MimeToken'. -/
def mimeTokenUptoCard : Claim7 := { stood := { row := mimeTokenUptoRow, standIns := [], harness := (true, "ee113fe9cc34d18876ee81ee2a863bd5071775bddf9b13fb57347675513025cb"), looks := false }, kinds := [], alts := [], laidByText := true, laidKinds := [.data, .data, .data, .data, .pinned], laidTests := true, laidLooks := .later }
def MimeTokenUptoCardSaid : Prop := Claim7.holds Tryd.pinned (.plain (OpenSpec.upto mimeTokenSpec)) mimeTokenUptoCard

/-- THE SECOND FORM's CARD OF 'tamislaw18.MimeCoded'. -/
def mimeCodedUptoCard : Claim7 := { stood := { row := mimeCodedUptoRow, standIns := [], harness := (true, "ee113fe9cc34d18876ee81ee2a863bd5071775bddf9b13fb57347675513025cb"), looks := false }, kinds := [], alts := [], laidByText := true, laidKinds := [.data, .data, .data, .data, .pinned], laidTests := true, laidLooks := .later }
def MimeCodedUptoCardSaid : Prop := Claim7.holds Tryd.pinned (.plain (OpenSpec.upto mimeCodedSpec)) mimeCodedUptoCard
end Rows
end Go.Proofs.YtdlgpmihjecdlaaDoor
