/-
  DERIVED. GIVEN WITH THE SEED: THE CARDS: each row of YteffhkafocfajaaDoorRows.lean that lists a variable, with what it lists TIED to the program's text (the seventh form; the later family's looks); each row that meets fmt, with fmt's text TOLD by the authors' own Lean function (tested against real Go, not proved from fmt's source: count such statements apart). THE CARD IS WHAT COUNTS. Prove the row's statement (the work); the ties are given (YteffhkafocfajaaDoorTie.lean); close each card by the builder's one call (the guide's Derived/Test/ToyasCard.lean, 'card_holds'). Laid BY PROGRAM, IN A SANDBOX (cutbox-door.mjs). By AI agents, Wed Nov 11 2026. No macro, syntax, notation, axiom, sorry.
-/
import Derived.Test.YteffhkafocfajaaDoorRows
import GoSem.ClaimSeven
namespace Go.Proofs.YteffhkafocfajaaDoor
namespace Rows

/-- THE TIED CARD OF 'tamislaw13.SerialWrites'. -/
def serialWritesCard : Claim7 := { stood := { row := serialWritesRow, standIns := [], harness := (true, "e68cc9e8b64d7982892d1d13de810360b86d78c2b36967c2073318351be7f712"), looks := false }, kinds := [], alts := [], laidByText := true, laidKinds := [.data, .data, .data], laidTests := true, laidLooks := .later }
def SerialWritesCardSaid : Prop := Claim7.holds Tryd.pinned (.plain (OpenSpec.ofChange serialWritesSpec)) serialWritesCard

/-- THE TIED CARD OF 'tamislaw13.SerialTail'. -/
def serialTailCard : Claim7 := { stood := { row := serialTailRow, standIns := [], harness := (true, "e68cc9e8b64d7982892d1d13de810360b86d78c2b36967c2073318351be7f712"), looks := false }, kinds := [], alts := [], laidByText := true, laidKinds := [.data, .data, .data], laidTests := true, laidLooks := .later }
def SerialTailCardSaid : Prop := Claim7.holds Tryd.pinned (.plain (OpenSpec.ofChange serialTailSpec)) serialTailCard

/-- THE TIED CARD OF 'tamislaw13.SerialHosts'. -/
def serialHostsCard : Claim7 := { stood := { row := serialHostsRow, standIns := [], harness := (true, "e68cc9e8b64d7982892d1d13de810360b86d78c2b36967c2073318351be7f712"), looks := false }, kinds := [], alts := [], laidByText := true, laidKinds := [.data, .data, .data], laidTests := true, laidLooks := .later }
def SerialHostsCardSaid : Prop := Claim7.holds Tryd.pinned (.plain (OpenSpec.ofChange serialHostsSpec)) serialHostsCard

/-- THE TIED CARD OF 'tamislaw13.SerialPaths'. -/
def serialPathsCard : Claim7 := { stood := { row := serialPathsRow, standIns := [], harness := (true, "e68cc9e8b64d7982892d1d13de810360b86d78c2b36967c2073318351be7f712"), looks := false }, kinds := [], alts := [], laidByText := true, laidKinds := [.data, .data, .data], laidTests := true, laidLooks := .later }
def SerialPathsCardSaid : Prop := Claim7.holds Tryd.pinned (.plain (OpenSpec.ofChange serialPathsSpec)) serialPathsCard

/-- THE SECOND FORM's CARD OF 'tamislaw13.SerialWrites'. -/
def serialWritesUptoCard : Claim7 := { stood := { row := serialWritesUptoRow, standIns := [], harness := (true, "e68cc9e8b64d7982892d1d13de810360b86d78c2b36967c2073318351be7f712"), looks := false }, kinds := [], alts := [], laidByText := true, laidKinds := [.data, .data, .data], laidTests := true, laidLooks := .later }
def SerialWritesUptoCardSaid : Prop := Claim7.holds Tryd.pinned (.plain (OpenSpec.upto serialWritesSpec)) serialWritesUptoCard

/-- THE SECOND FORM's CARD OF 'tamislaw13.SerialTail'. -/
def serialTailUptoCard : Claim7 := { stood := { row := serialTailUptoRow, standIns := [], harness := (true, "e68cc9e8b64d7982892d1d13de810360b86d78c2b36967c2073318351be7f712"), looks := false }, kinds := [], alts := [], laidByText := true, laidKinds := [.data, .data, .data], laidTests := true, laidLooks := .later }
def SerialTailUptoCardSaid : Prop := Claim7.holds Tryd.pinned (.plain (OpenSpec.upto serialTailSpec)) serialTailUptoCard

/-- THE SECOND FORM's CARD OF 'tamislaw13.SerialHosts'. -/
def serialHostsUptoCard : Claim7 := { stood := { row := serialHostsUptoRow, standIns := [], harness := (true, "e68cc9e8b64d7982892d1d13de810360b86d78c2b36967c2073318351be7f712"), looks := false }, kinds := [], alts := [], laidByText := true, laidKinds := [.data, .data, .data], laidTests := true, laidLooks := .later }
def SerialHostsUptoCardSaid : Prop := Claim7.holds Tryd.pinned (.plain (OpenSpec.upto serialHostsSpec)) serialHostsUptoCard

/-- THE SECOND FORM's CARD OF 'tamislaw13.SerialPaths'. -/
def serialPathsUptoCard : Claim7 := { stood := { row := serialPathsUptoRow, standIns := [], harness := (true, "e68cc9e8b64d7982892d1d13de810360b86d78c2b36967c2073318351be7f712"), looks := false }, kinds := [], alts := [], laidByText := true, laidKinds := [.data, .data, .data], laidTests := true, laidLooks := .later }
def SerialPathsUptoCardSaid : Prop := Claim7.holds Tryd.pinned (.plain (OpenSpec.upto serialPathsSpec)) serialPathsUptoCard
end Rows
end Go.Proofs.YteffhkafocfajaaDoor
