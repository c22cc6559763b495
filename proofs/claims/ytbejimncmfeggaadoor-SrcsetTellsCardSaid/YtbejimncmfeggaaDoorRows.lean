/-
  NARROWER THAN 'FOR EVERY INPUT', by the rows' own cells (each row's printed sentence says how): SrcsetTells: laid · SrcsetBack: laid · SrcsetWords: laid · SrcsetParens: laid · SrcsetLead: laid · SrcsetLists: laid.
  DERIVED. THE GIVEN ROWS OF THIS SEAT. 6 by the template 'for every input the law returns true; each argument reads behind the call as it read before'; 0 by the template 'total and deterministic' (their statements: YtbejimncmfeggaaDoorTotals.lean).
  GIVEN WITH THE SEED: the statements are not yours to turn. If you find one false, say at which input.
  Laid BY PROGRAM, IN A SANDBOX (cutbox-rows.mjs): the forced cells as the released guide's own fill.sh prints them over the translation 26cf265840ad7acd… (all of the seat's roots in one cut). By AI agents, Wed Nov 11 2026. No macro, syntax, notation, axiom, sorry.
-/
import Derived.Test.YtbejimncmfeggaaDoorChecked
import GoSem.PinnedTables
import GoSem.Claim
import GoSem.ClaimJoined
import GoSem.ClaimMapViews
import Derived.JoinedTies
import Derived.KernelRfl
namespace Go.Proofs.YtbejimncmfeggaaDoor
/- THE CELL 'sum', in the pinned program and in every row, IS THE sha256 OF THE DUMP (.gsa) THAT YtbejimncmfeggaaDoorProg.lean LOADS. Nothing in Lean hashes anything: it is a label: what it is worth is what the hold of that sum in a sandbox is worth. -/
noncomputable def Tryd.pinned : Pinned := { name := "ytbejimncmfeggaadoor", sum := "26cf265840ad7acd2b23a0936579c6d434e436e6866c6e0239d6edbeff1df074", checked := Tryd.checked }
namespace Rows
def none {H : Type} : Left H := { results := [], args := [] }

/- WHAT THE LISTED PACKAGE-LEVEL VARIABLES READ AS WHEN THE CALL BEGINS. Each datum BY PROGRAM (the guide's laid-datum.mjs) off the statement by which the dump's own 'gosem.cut.vars' lays the variable. In a bare row this is a premise. The card (YtbejimncmfeggaaDoorCards.lean) ties it to the program's text. -/
def laid_unicode_utf8_acceptRanges {H : Type} : DataW H := .agg [.agg [.lit (.int .u8 128), .lit (.int .u8 191)], .agg [.lit (.int .u8 160), .lit (.int .u8 191)], .agg [.lit (.int .u8 128), .lit (.int .u8 159)], .agg [.lit (.int .u8 144), .lit (.int .u8 191)], .agg [.lit (.int .u8 128), .lit (.int .u8 143)], .agg [.lit (.int .u8 0), .lit (.int .u8 0)], .agg [.lit (.int .u8 0), .lit (.int .u8 0)], .agg [.lit (.int .u8 0), .lit (.int .u8 0)], .agg [.lit (.int .u8 0), .lit (.int .u8 0)], .agg [.lit (.int .u8 0), .lit (.int .u8 0)], .agg [.lit (.int .u8 0), .lit (.int .u8 0)], .agg [.lit (.int .u8 0), .lit (.int .u8 0)], .agg [.lit (.int .u8 0), .lit (.int .u8 0)], .agg [.lit (.int .u8 0), .lit (.int .u8 0)], .agg [.lit (.int .u8 0), .lit (.int .u8 0)], .agg [.lit (.int .u8 0), .lit (.int .u8 0)]]
/-- One of Go's own tables, pinned by name: the form's constant. -/
def laid_unicode_utf8_first : DataW Unit := Go.Pinned.utf8First

/-- 'tamislaw19.SrcsetTells': WHATEVER THE INPUT: true; the input reads as it did. -/
def srcsetTellsSpec : ChangeSpec := { name := "srcsetTells", fn := fun _ => fun
  | [d1, d2] => { results := [.lit (.bool true)], args := [d1, d2] }
  | _ => none }
def srcsetTellsRow : OpenClaim := { program := "ytbejimncmfeggaadoor", sum := "26cf265840ad7acd2b23a0936579c6d434e436e6866c6e0239d6edbeff1df074", func := "tamis/tamislaw19.SrcsetTells", spec := "srcsetTells", inPlace := ["internal/bytealg.IndexByteString", "internal/bytealg.IndexString"], unfollowed := true, recurses := true, named := ["unicode/utf8.first", "unicode/utf8.acceptRanges", "internal/bytealg.MaxLen"], apart := false, laid := [("unicode/utf8.acceptRanges", laid_unicode_utf8_acceptRanges), ("unicode/utf8.first", laid_unicode_utf8_first)] }
def SrcsetTellsSaid : Prop := srcsetTellsRow.holds Tryd.pinned (OpenSpec.ofChange srcsetTellsSpec)

/-- ITS FALSE NEIGHBOUR: 'it returns false'. Refute it at one input. -/
def srcsetTellsWrong : ChangeSpec := { name := "srcsetTells", fn := fun _ => fun
  | [d1, d2] => { results := [.lit (.bool false)], args := [d1, d2] }
  | _ => none }
def SrcsetTellsWrongFalsely : Prop := srcsetTellsRow.holds Tryd.pinned (OpenSpec.ofChange srcsetTellsWrong)

/-- 'tamislaw19.SrcsetBack': WHATEVER THE INPUT: true; the input reads as it did. -/
def srcsetBackSpec : ChangeSpec := { name := "srcsetBack", fn := fun _ => fun
  | [d] => { results := [.lit (.bool true)], args := [d] }
  | _ => none }
def srcsetBackRow : OpenClaim := { program := "ytbejimncmfeggaadoor", sum := "26cf265840ad7acd2b23a0936579c6d434e436e6866c6e0239d6edbeff1df074", func := "tamis/tamislaw19.SrcsetBack", spec := "srcsetBack", inPlace := ["internal/bytealg.IndexByteString", "internal/bytealg.IndexString"], unfollowed := true, recurses := true, named := ["unicode/utf8.first", "unicode/utf8.acceptRanges", "internal/bytealg.MaxLen"], apart := false, laid := [("unicode/utf8.acceptRanges", laid_unicode_utf8_acceptRanges), ("unicode/utf8.first", laid_unicode_utf8_first)] }
def SrcsetBackSaid : Prop := srcsetBackRow.holds Tryd.pinned (OpenSpec.ofChange srcsetBackSpec)

/-- ITS FALSE NEIGHBOUR: 'it returns false'. Refute it at one input. -/
def srcsetBackWrong : ChangeSpec := { name := "srcsetBack", fn := fun _ => fun
  | [d] => { results := [.lit (.bool false)], args := [d] }
  | _ => none }
def SrcsetBackWrongFalsely : Prop := srcsetBackRow.holds Tryd.pinned (OpenSpec.ofChange srcsetBackWrong)

/-- 'tamislaw19.SrcsetWords': WHATEVER THE INPUT: true; the input reads as it did. -/
def srcsetWordsSpec : ChangeSpec := { name := "srcsetWords", fn := fun _ => fun
  | [d1, d2] => { results := [.lit (.bool true)], args := [d1, d2] }
  | _ => none }
def srcsetWordsRow : OpenClaim := { program := "ytbejimncmfeggaadoor", sum := "26cf265840ad7acd2b23a0936579c6d434e436e6866c6e0239d6edbeff1df074", func := "tamis/tamislaw19.SrcsetWords", spec := "srcsetWords", inPlace := ["internal/bytealg.IndexByteString", "internal/bytealg.IndexString"], unfollowed := true, recurses := true, named := ["unicode/utf8.first", "unicode/utf8.acceptRanges", "internal/bytealg.MaxLen"], apart := false, laid := [("unicode/utf8.acceptRanges", laid_unicode_utf8_acceptRanges), ("unicode/utf8.first", laid_unicode_utf8_first)] }
def SrcsetWordsSaid : Prop := srcsetWordsRow.holds Tryd.pinned (OpenSpec.ofChange srcsetWordsSpec)

/-- ITS FALSE NEIGHBOUR: 'it returns false'. Refute it at one input. -/
def srcsetWordsWrong : ChangeSpec := { name := "srcsetWords", fn := fun _ => fun
  | [d1, d2] => { results := [.lit (.bool false)], args := [d1, d2] }
  | _ => none }
def SrcsetWordsWrongFalsely : Prop := srcsetWordsRow.holds Tryd.pinned (OpenSpec.ofChange srcsetWordsWrong)

/-- 'tamislaw19.SrcsetParens': WHATEVER THE INPUT: true; the input reads as it did. -/
def srcsetParensSpec : ChangeSpec := { name := "srcsetParens", fn := fun _ => fun
  | [d1, d2] => { results := [.lit (.bool true)], args := [d1, d2] }
  | _ => none }
def srcsetParensRow : OpenClaim := { program := "ytbejimncmfeggaadoor", sum := "26cf265840ad7acd2b23a0936579c6d434e436e6866c6e0239d6edbeff1df074", func := "tamis/tamislaw19.SrcsetParens", spec := "srcsetParens", inPlace := ["internal/bytealg.IndexByteString", "internal/bytealg.IndexString"], unfollowed := true, recurses := true, named := ["unicode/utf8.first", "unicode/utf8.acceptRanges", "internal/bytealg.MaxLen"], apart := false, laid := [("unicode/utf8.acceptRanges", laid_unicode_utf8_acceptRanges), ("unicode/utf8.first", laid_unicode_utf8_first)] }
def SrcsetParensSaid : Prop := srcsetParensRow.holds Tryd.pinned (OpenSpec.ofChange srcsetParensSpec)

/-- ITS FALSE NEIGHBOUR: 'it returns false'. Refute it at one input. -/
def srcsetParensWrong : ChangeSpec := { name := "srcsetParens", fn := fun _ => fun
  | [d1, d2] => { results := [.lit (.bool false)], args := [d1, d2] }
  | _ => none }
def SrcsetParensWrongFalsely : Prop := srcsetParensRow.holds Tryd.pinned (OpenSpec.ofChange srcsetParensWrong)

/-- 'tamislaw19.SrcsetLead': WHATEVER THE INPUT: true; the input reads as it did. -/
def srcsetLeadSpec : ChangeSpec := { name := "srcsetLead", fn := fun _ => fun
  | [d1, d2] => { results := [.lit (.bool true)], args := [d1, d2] }
  | _ => none }
def srcsetLeadRow : OpenClaim := { program := "ytbejimncmfeggaadoor", sum := "26cf265840ad7acd2b23a0936579c6d434e436e6866c6e0239d6edbeff1df074", func := "tamis/tamislaw19.SrcsetLead", spec := "srcsetLead", inPlace := ["internal/bytealg.IndexByteString", "internal/bytealg.IndexString"], unfollowed := true, recurses := true, named := ["unicode/utf8.first", "unicode/utf8.acceptRanges", "internal/bytealg.MaxLen"], apart := false, laid := [("unicode/utf8.acceptRanges", laid_unicode_utf8_acceptRanges), ("unicode/utf8.first", laid_unicode_utf8_first)] }
def SrcsetLeadSaid : Prop := srcsetLeadRow.holds Tryd.pinned (OpenSpec.ofChange srcsetLeadSpec)

/-- ITS FALSE NEIGHBOUR: 'it returns false'. Refute it at one input. -/
def srcsetLeadWrong : ChangeSpec := { name := "srcsetLead", fn := fun _ => fun
  | [d1, d2] => { results := [.lit (.bool false)], args := [d1, d2] }
  | _ => none }
def SrcsetLeadWrongFalsely : Prop := srcsetLeadRow.holds Tryd.pinned (OpenSpec.ofChange srcsetLeadWrong)

/-- 'tamislaw19.SrcsetLists': WHATEVER THE INPUT: true; the input reads as it did. -/
def srcsetListsSpec : ChangeSpec := { name := "srcsetLists", fn := fun _ => fun
  | [d1, d2, d3] => { results := [.lit (.bool true)], args := [d1, d2, d3] }
  | _ => none }
def srcsetListsRow : OpenClaim := { program := "ytbejimncmfeggaadoor", sum := "26cf265840ad7acd2b23a0936579c6d434e436e6866c6e0239d6edbeff1df074", func := "tamis/tamislaw19.SrcsetLists", spec := "srcsetLists", inPlace := ["internal/bytealg.IndexByteString", "internal/bytealg.IndexString"], unfollowed := true, recurses := true, named := ["unicode/utf8.first", "unicode/utf8.acceptRanges", "internal/bytealg.MaxLen"], apart := false, laid := [("unicode/utf8.acceptRanges", laid_unicode_utf8_acceptRanges), ("unicode/utf8.first", laid_unicode_utf8_first)] }
def SrcsetListsSaid : Prop := srcsetListsRow.holds Tryd.pinned (OpenSpec.ofChange srcsetListsSpec)

/-- ITS FALSE NEIGHBOUR: 'it returns false'. Refute it at one input. -/
def srcsetListsWrong : ChangeSpec := { name := "srcsetLists", fn := fun _ => fun
  | [d1, d2, d3] => { results := [.lit (.bool false)], args := [d1, d2, d3] }
  | _ => none }
def SrcsetListsWrongFalsely : Prop := srcsetListsRow.holds Tryd.pinned (OpenSpec.ofChange srcsetListsWrong)

/- THE SECOND FORM. 'bulk': how many values and letters a reading holds, each counted each time it is reached (what is shared counts as often as it is met; a slice's spare places count too). A statement '..UptoSaid' is the law's where the arguments, and the package variables that the reading takes, are together of bulk at most 1048576: NARROWER than '..Said'. Prove '..Said' where nothing that the law and all that it calls make is longer than what came in: it says more and counts as full. Else prove '..UptoSaid'. A law counts once. -/
mutual
def uptoBulk {H : Type} : DataW H → Nat
  | .lit (.string bytes) => bytes.length + 1
  | .lit _ => 1
  | .nil => 1
  | .ptr d => uptoBulk d + 1
  | .slice elems spare => uptoBulkAll elems + uptoBulkAll spare + 1
  | .agg parts => uptoBulkAll parts + 1
  | .iface _ d => uptoBulk d + 1
  | .map entries => uptoBulkEntries entries + 1
  | .held _ => 1
def uptoBulkAll {H : Type} : List (DataW H) → Nat
  | [] => 0
  | d :: r => uptoBulk d + uptoBulkAll r
def uptoBulkEntries {H : Type} : List (Lit × DataW H) → Nat
  | [] => 0
  | x :: r => uptoBulkEntry x + uptoBulkEntries r
def uptoBulkEntry {H : Type} : Lit × DataW H → Nat
  | (.string bytes, d) => bytes.length + uptoBulk d + 1
  | (_, d) => uptoBulk d + 1
 end
def uptoSmall : (H : Type) → List (DataW H) → Bool := fun _ ds => decide (uptoBulkAll ds ≤ 1048576)
def OpenSpec.upto (s : _root_.Go.ChangeSpec) : _root_.Go.OpenSpec := { _root_.Go.OpenSpec.ofChange s with cond := some uptoSmall }

/-- 'tamislaw19.SrcsetTells', WHERE WHAT IT READS IS OF BULK AT MOST 1048576: true; the input reads as it did. -/
def srcsetTellsUptoRow : OpenClaim := { program := "ytbejimncmfeggaadoor", sum := "26cf265840ad7acd2b23a0936579c6d434e436e6866c6e0239d6edbeff1df074", func := "tamis/tamislaw19.SrcsetTells", spec := "srcsetTells", inPlace := ["internal/bytealg.IndexByteString", "internal/bytealg.IndexString"], unfollowed := true, recurses := true, named := ["unicode/utf8.first", "unicode/utf8.acceptRanges", "internal/bytealg.MaxLen"], apart := false, laid := [("unicode/utf8.acceptRanges", laid_unicode_utf8_acceptRanges), ("unicode/utf8.first", laid_unicode_utf8_first)], narrowed := true }
def SrcsetTellsUptoSaid : Prop := srcsetTellsUptoRow.holds Tryd.pinned (OpenSpec.upto srcsetTellsSpec)

/-- 'tamislaw19.SrcsetBack', WHERE WHAT IT READS IS OF BULK AT MOST 1048576: true; the input reads as it did. -/
def srcsetBackUptoRow : OpenClaim := { program := "ytbejimncmfeggaadoor", sum := "26cf265840ad7acd2b23a0936579c6d434e436e6866c6e0239d6edbeff1df074", func := "tamis/tamislaw19.SrcsetBack", spec := "srcsetBack", inPlace := ["internal/bytealg.IndexByteString", "internal/bytealg.IndexString"], unfollowed := true, recurses := true, named := ["unicode/utf8.first", "unicode/utf8.acceptRanges", "internal/bytealg.MaxLen"], apart := false, laid := [("unicode/utf8.acceptRanges", laid_unicode_utf8_acceptRanges), ("unicode/utf8.first", laid_unicode_utf8_first)], narrowed := true }
def SrcsetBackUptoSaid : Prop := srcsetBackUptoRow.holds Tryd.pinned (OpenSpec.upto srcsetBackSpec)

/-- 'tamislaw19.SrcsetWords', WHERE WHAT IT READS IS OF BULK AT MOST 1048576: true; the input reads as it did. -/
def srcsetWordsUptoRow : OpenClaim := { program := "ytbejimncmfeggaadoor", sum := "26cf265840ad7acd2b23a0936579c6d434e436e6866c6e0239d6edbeff1df074", func := "tamis/tamislaw19.SrcsetWords", spec := "srcsetWords", inPlace := ["internal/bytealg.IndexByteString", "internal/bytealg.IndexString"], unfollowed := true, recurses := true, named := ["unicode/utf8.first", "unicode/utf8.acceptRanges", "internal/bytealg.MaxLen"], apart := false, laid := [("unicode/utf8.acceptRanges", laid_unicode_utf8_acceptRanges), ("unicode/utf8.first", laid_unicode_utf8_first)], narrowed := true }
def SrcsetWordsUptoSaid : Prop := srcsetWordsUptoRow.holds Tryd.pinned (OpenSpec.upto srcsetWordsSpec)

/-- 'tamislaw19.SrcsetParens', WHERE WHAT IT READS IS OF BULK AT MOST 1048576: true; the input reads as it did. -/
def srcsetParensUptoRow : OpenClaim := { program := "ytbejimncmfeggaadoor", sum := "26cf265840ad7acd2b23a0936579c6d434e436e6866c6e0239d6edbeff1df074", func := "tamis/tamislaw19.SrcsetParens", spec := "srcsetParens", inPlace := ["internal/bytealg.IndexByteString", "internal/bytealg.IndexString"], unfollowed := true, recurses := true, named := ["unicode/utf8.first", "unicode/utf8.acceptRanges", "internal/bytealg.MaxLen"], apart := false, laid := [("unicode/utf8.acceptRanges", laid_unicode_utf8_acceptRanges), ("unicode/utf8.first", laid_unicode_utf8_first)], narrowed := true }
def SrcsetParensUptoSaid : Prop := srcsetParensUptoRow.holds Tryd.pinned (OpenSpec.upto srcsetParensSpec)

/-- 'tamislaw19.SrcsetLead', WHERE WHAT IT READS IS OF BULK AT MOST 1048576: true; the input reads as it did. -/
def srcsetLeadUptoRow : OpenClaim := { program := "ytbejimncmfeggaadoor", sum := "26cf265840ad7acd2b23a0936579c6d434e436e6866c6e0239d6edbeff1df074", func := "tamis/tamislaw19.SrcsetLead", spec := "srcsetLead", inPlace := ["internal/bytealg.IndexByteString", "internal/bytealg.IndexString"], unfollowed := true, recurses := true, named := ["unicode/utf8.first", "unicode/utf8.acceptRanges", "internal/bytealg.MaxLen"], apart := false, laid := [("unicode/utf8.acceptRanges", laid_unicode_utf8_acceptRanges), ("unicode/utf8.first", laid_unicode_utf8_first)], narrowed := true }
def SrcsetLeadUptoSaid : Prop := srcsetLeadUptoRow.holds Tryd.pinned (OpenSpec.upto srcsetLeadSpec)

/-- 'tamislaw19.SrcsetLists', WHERE WHAT IT READS IS OF BULK AT MOST 1048576: true; the input reads as it did. -/
def srcsetListsUptoRow : OpenClaim := { program := "ytbejimncmfeggaadoor", sum := "26cf265840ad7acd2b23a0936579c6d434e436e6866c6e0239d6edbeff1df074", func := "tamis/tamislaw19.SrcsetLists", spec := "srcsetLists", inPlace := ["internal/bytealg.IndexByteString", "internal/bytealg.IndexString"], unfollowed := true, recurses := true, named := ["unicode/utf8.first", "unicode/utf8.acceptRanges", "internal/bytealg.MaxLen"], apart := false, laid := [("unicode/utf8.acceptRanges", laid_unicode_utf8_acceptRanges), ("unicode/utf8.first", laid_unicode_utf8_first)], narrowed := true }
def SrcsetListsUptoSaid : Prop := srcsetListsUptoRow.holds Tryd.pinned (OpenSpec.upto srcsetListsSpec)

end Rows
end Go.Proofs.YtbejimncmfeggaaDoor
