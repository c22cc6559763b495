/-
  DERIVED. GIVEN WITH THE SEED: THE CARDS: each row of YtbejimncmfeggaaDoorRows.lean that lists a variable, with what it lists TIED to the program's text (the seventh form; the later family's looks); each row that meets fmt, with fmt's text TOLD by the authors' own Lean function (tested against real Go, not proved from fmt's source: count such statements apart). THE CARD IS WHAT COUNTS. Prove the row's statement (the work); the ties are given (YtbejimncmfeggaaDoorTie.lean); close each card by the builder's one call (the guide's Derived/Test/ToyasCard.lean, 'card_holds'). Laid BY PROGRAM, IN A SANDBOX (cutbox-door.mjs). By AI agents, Wed Nov 11 2026. No macro, syntax, notation, axiom, sorry.
-/
import Derived.Test.YtbejimncmfeggaaDoorRows
import GoSem.ClaimSeven
namespace Go.Proofs.YtbejimncmfeggaaDoor
namespace Rows

/-- THE TIED CARD OF 'tamislaw19.SrcsetTells'. -/
def srcsetTellsCard : Claim7 := { stood := { row := srcsetTellsRow, standIns := [], harness := (true, "00aefb7c305f1a363dc83ffe2118a79db1fce6ad8eb76f03bdccf27702e1fea5"), looks := false }, kinds := [], alts := [], laidByText := true, laidKinds := [.data, .pinned], laidTests := true, laidLooks := .later }
def SrcsetTellsCardSaid : Prop := Claim7.holds Tryd.pinned (.plain (OpenSpec.ofChange srcsetTellsSpec)) srcsetTellsCard

/-- THE TIED CARD OF 'tamislaw19.SrcsetBack'. -/
def srcsetBackCard : Claim7 := { stood := { row := srcsetBackRow, standIns := [], harness := (true, "00aefb7c305f1a363dc83ffe2118a79db1fce6ad8eb76f03bdccf27702e1fea5"), looks := false }, kinds := [], alts := [], laidByText := true, laidKinds := [.data, .pinned], laidTests := true, laidLooks := .later }
def SrcsetBackCardSaid : Prop := Claim7.holds Tryd.pinned (.plain (OpenSpec.ofChange srcsetBackSpec)) srcsetBackCard

/-- THE TIED CARD OF 'tamislaw19.SrcsetWords'. -/
def srcsetWordsCard : Claim7 := { stood := { row := srcsetWordsRow, standIns := [], harness := (true, "00aefb7c305f1a363dc83ffe2118a79db1fce6ad8eb76f03bdccf27702e1fea5"), looks := false }, kinds := [], alts := [], laidByText := true, laidKinds := [.data, .pinned], laidTests := true, laidLooks := .later }
def SrcsetWordsCardSaid : Prop := Claim7.holds Tryd.pinned (.plain (OpenSpec.ofChange srcsetWordsSpec)) srcsetWordsCard

/-- THE TIED CARD OF 'tamislaw19.SrcsetParens'. -/
def srcsetParensCard : Claim7 := { stood := { row := srcsetParensRow, standIns := [], harness := (true, "00aefb7c305f1a363dc83ffe2118a79db1fce6ad8eb76f03bdccf27702e1fea5"), looks := false }, kinds := [], alts := [], laidByText := true, laidKinds := [.data, .pinned], laidTests := true, laidLooks := .later }
def SrcsetParensCardSaid : Prop := Claim7.holds Tryd.pinned (.plain (OpenSpec.ofChange srcsetParensSpec)) srcsetParensCard

/-- THE TIED CARD OF 'tamislaw19.SrcsetLead'. -/
def srcsetLeadCard : Claim7 := { stood := { row := srcsetLeadRow, standIns := [], harness := (true, "00aefb7c305f1a363dc83ffe2118a79db1fce6ad8eb76f03bdccf27702e1fea5"), looks := false }, kinds := [], alts := [], laidByText := true, laidKinds := [.data, .pinned], laidTests := true, laidLooks := .later }
def SrcsetLeadCardSaid : Prop := Claim7.holds Tryd.pinned (.plain (OpenSpec.ofChange srcsetLeadSpec)) srcsetLeadCard

/-- THE TIED CARD OF 'tamislaw19.SrcsetLists'. -/
def srcsetListsCard : Claim7 := { stood := { row := srcsetListsRow, standIns := [], harness := (true, "00aefb7c305f1a363dc83ffe2118a79db1fce6ad8eb76f03bdccf27702e1fea5"), looks := false }, kinds := [], alts := [], laidByText := true, laidKinds := [.data, .pinned], laidTests := true, laidLooks := .later }
def SrcsetListsCardSaid : Prop := Claim7.holds Tryd.pinned (.plain (OpenSpec.ofChange srcsetListsSpec)) srcsetListsCard

/-- THE SECOND FORM's CARD OF 'tamislaw19.SrcsetTells'. -/
def srcsetTellsUptoCard : Claim7 := { stood := { row := srcsetTellsUptoRow, standIns := [], harness := (true, "00aefb7c305f1a363dc83ffe2118a79db1fce6ad8eb76f03bdccf27702e1fea5"), looks := false }, kinds := [], alts := [], laidByText := true, laidKinds := [.data, .pinned], laidTests := true, laidLooks := .later }
def SrcsetTellsUptoCardSaid : Prop := Claim7.holds Tryd.pinned (.plain (OpenSpec.upto srcsetTellsSpec)) srcsetTellsUptoCard

/-- THE SECOND FORM's CARD OF 'tamislaw19.SrcsetBack'. -/
def srcsetBackUptoCard : Claim7 := { stood := { row := srcsetBackUptoRow, standIns := [], harness := (true, "00aefb7c305f1a363dc83ffe2118a79db1fce6ad8eb76f03bdccf27702e1fea5"), looks := false }, kinds := [], alts := [], laidByText := true, laidKinds := [.data, .pinned], laidTests := true, laidLooks := .later }
def SrcsetBackUptoCardSaid : Prop := Claim7.holds Tryd.pinned (.plain (OpenSpec.upto srcsetBackSpec)) srcsetBackUptoCard

/-- THE SECOND FORM's CARD OF 'tamislaw19.SrcsetWords'. -/
def srcsetWordsUptoCard : Claim7 := { stood := { row := srcsetWordsUptoRow, standIns := [], harness := (true, "00aefb7c305f1a363dc83ffe2118a79db1fce6ad8eb76f03bdccf27702e1fea5"), looks := false }, kinds := [], alts := [], laidByText := true, laidKinds := [.data, .pinned], laidTests := true, laidLooks := .later }
def SrcsetWordsUptoCardSaid : Prop := Claim7.holds Tryd.pinned (.plain (OpenSpec.upto srcsetWordsSpec)) srcsetWordsUptoCard

/-- THE SECOND FORM's CARD OF 'tamislaw19.SrcsetParens'. -/
def srcsetParensUptoCard : Claim7 := { stood := { row := srcsetParensUptoRow, standIns := [], harness := (true, "00aefb7c305f1a363dc83ffe2118a79db1fce6ad8eb76f03bdccf27702e1fea5"), looks := false }, kinds := [], alts := [], laidByText := true, laidKinds := [.data, .pinned], laidTests := true, laidLooks := .later }
def SrcsetParensUptoCardSaid : Prop := Claim7.holds Tryd.pinned (.plain (OpenSpec.upto srcsetParensSpec)) srcsetParensUptoCard

/-- THE SECOND FORM's CARD OF 'tamislaw19.SrcsetLead'. -/
def srcsetLeadUptoCard : Claim7 := { stood := { row := srcsetLeadUptoRow, standIns := [], harness := (true, "00aefb7c305f1a363dc83ffe2118a79db1fce6ad8eb76f03bdccf27702e1fea5"), looks := false }, kinds := [], alts := [], laidByText := true, laidKinds := [.data, .pinned], laidTests := true, laidLooks := .later }
def SrcsetLeadUptoCardSaid : Prop := Claim7.holds Tryd.pinned (.plain (OpenSpec.upto srcsetLeadSpec)) srcsetLeadUptoCard

/-- THE SECOND FORM's CARD OF 'tamislaw19.SrcsetLists'. -/
def srcsetListsUptoCard : Claim7 := { stood := { row := srcsetListsUptoRow, standIns := [], harness := (true, "00aefb7c305f1a363dc83ffe2118a79db1fce6ad8eb76f03bdccf27702e1fea5"), looks := false }, kinds := [], alts := [], laidByText := true, laidKinds := [.data, .pinned], laidTests := true, laidLooks := .later }
def SrcsetListsUptoCardSaid : Prop := Claim7.holds Tryd.pinned (.plain (OpenSpec.upto srcsetListsSpec)) srcsetListsUptoCard
end Rows
end Go.Proofs.YtbejimncmfeggaaDoor
