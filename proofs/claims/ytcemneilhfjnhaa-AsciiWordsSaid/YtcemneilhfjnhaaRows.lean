/-
  No cell of these rows narrows 'for every input' (looked for: loops, veiled, ifaces, maps, wideKeys, modest, calm, conditions, laid).
  DERIVED. THE GIVEN ROWS OF THIS SEAT. 6 by the template 'for every input the law returns true; each argument reads behind the call as it read before'; 0 by the template 'total and deterministic' (their statements: YtcemneilhfjnhaaTotals.lean).
  GIVEN WITH THE SEED: the statements are not yours to turn. If you find one false, say at which input.
  Laid BY PROGRAM, IN A SANDBOX (cutbox-rows.mjs): the forced cells as the released guide's own fill.sh prints them over the translation 1ec6165bc139db94… (all of the seat's roots in one cut). By AI agents, Wed Nov 11 2026. No macro, syntax, notation, axiom, sorry.
-/
import Derived.Test.YtcemneilhfjnhaaChecked
import GoSem.Claim
import GoSem.ClaimJoined
import GoSem.ClaimMapViews
import Derived.JoinedTies
import Derived.KernelRfl
namespace Go.Proofs.Ytcemneilhfjnhaa
/- THE CELL 'sum', in the pinned program and in every row, IS THE sha256 OF THE DUMP (.gsa) THAT YtcemneilhfjnhaaProg.lean LOADS. Nothing in Lean hashes anything: it is a label: what it is worth is what the hold of that sum in a sandbox is worth. -/
noncomputable def Try.pinned : Pinned := { name := "ytcemneilhfjnhaa", sum := "1ec6165bc139db943d6684fcdccedce05b51833ec0c938038296fb76af200d94", checked := Try.checked }
namespace Rows
def none {H : Type} : Left H := { results := [], args := [] }

/-- 'tamislaw01.AsciiClasses': WHATEVER THE INPUT: true; the input reads as it did. -/
def asciiClassesSpec : ChangeSpec := { name := "asciiClasses", fn := fun _ => fun
  | [d1, d2] => { results := [.lit (.bool true)], args := [d1, d2] }
  | _ => none }
def asciiClassesRow : OpenClaim := { program := "ytcemneilhfjnhaa", sum := "1ec6165bc139db943d6684fcdccedce05b51833ec0c938038296fb76af200d94", func := "tamis/tamislaw01.AsciiClasses", spec := "asciiClasses", unfollowed := true, recurses := true, apart := false }
def AsciiClassesSaid : Prop := asciiClassesRow.holds Try.pinned (OpenSpec.ofChange asciiClassesSpec)

/-- ITS FALSE NEIGHBOUR: 'it returns false'. Refute it at one input. -/
def asciiClassesWrong : ChangeSpec := { name := "asciiClasses", fn := fun _ => fun
  | [d1, d2] => { results := [.lit (.bool false)], args := [d1, d2] }
  | _ => none }
def AsciiClassesWrongFalsely : Prop := asciiClassesRow.holds Try.pinned (OpenSpec.ofChange asciiClassesWrong)

/-- 'tamislaw01.AsciiTexts': WHATEVER THE INPUT: true; the input reads as it did. -/
def asciiTextsSpec : ChangeSpec := { name := "asciiTexts", fn := fun _ => fun
  | [d] => { results := [.lit (.bool true)], args := [d] }
  | _ => none }
def asciiTextsRow : OpenClaim := { program := "ytcemneilhfjnhaa", sum := "1ec6165bc139db943d6684fcdccedce05b51833ec0c938038296fb76af200d94", func := "tamis/tamislaw01.AsciiTexts", spec := "asciiTexts", unfollowed := true, recurses := true, apart := false }
def AsciiTextsSaid : Prop := asciiTextsRow.holds Try.pinned (OpenSpec.ofChange asciiTextsSpec)

/-- ITS FALSE NEIGHBOUR: 'it returns false'. Refute it at one input. -/
def asciiTextsWrong : ChangeSpec := { name := "asciiTexts", fn := fun _ => fun
  | [d] => { results := [.lit (.bool false)], args := [d] }
  | _ => none }
def AsciiTextsWrongFalsely : Prop := asciiTextsRow.holds Try.pinned (OpenSpec.ofChange asciiTextsWrong)

/-- 'tamislaw01.AsciiDigits': WHATEVER THE INPUT: true; the input reads as it did. -/
def asciiDigitsSpec : ChangeSpec := { name := "asciiDigits", fn := fun _ => fun
  | [d1, d2, d3] => { results := [.lit (.bool true)], args := [d1, d2, d3] }
  | _ => none }
def asciiDigitsRow : OpenClaim := { program := "ytcemneilhfjnhaa", sum := "1ec6165bc139db943d6684fcdccedce05b51833ec0c938038296fb76af200d94", func := "tamis/tamislaw01.AsciiDigits", spec := "asciiDigits", unfollowed := true, recurses := true, apart := false }
def AsciiDigitsSaid : Prop := asciiDigitsRow.holds Try.pinned (OpenSpec.ofChange asciiDigitsSpec)

/-- ITS FALSE NEIGHBOUR: 'it returns false'. Refute it at one input. -/
def asciiDigitsWrong : ChangeSpec := { name := "asciiDigits", fn := fun _ => fun
  | [d1, d2, d3] => { results := [.lit (.bool false)], args := [d1, d2, d3] }
  | _ => none }
def AsciiDigitsWrongFalsely : Prop := asciiDigitsRow.holds Try.pinned (OpenSpec.ofChange asciiDigitsWrong)

/-- 'tamislaw01.AsciiEnds': WHATEVER THE INPUT: true; the input reads as it did. -/
def asciiEndsSpec : ChangeSpec := { name := "asciiEnds", fn := fun _ => fun
  | [d] => { results := [.lit (.bool true)], args := [d] }
  | _ => none }
def asciiEndsRow : OpenClaim := { program := "ytcemneilhfjnhaa", sum := "1ec6165bc139db943d6684fcdccedce05b51833ec0c938038296fb76af200d94", func := "tamis/tamislaw01.AsciiEnds", spec := "asciiEnds", unfollowed := true, recurses := true, apart := false }
def AsciiEndsSaid : Prop := asciiEndsRow.holds Try.pinned (OpenSpec.ofChange asciiEndsSpec)

/-- ITS FALSE NEIGHBOUR: 'it returns false'. Refute it at one input. -/
def asciiEndsWrong : ChangeSpec := { name := "asciiEnds", fn := fun _ => fun
  | [d] => { results := [.lit (.bool false)], args := [d] }
  | _ => none }
def AsciiEndsWrongFalsely : Prop := asciiEndsRow.holds Try.pinned (OpenSpec.ofChange asciiEndsWrong)

/-- 'tamislaw01.AsciiWords': WHATEVER THE INPUT: true; the input reads as it did. -/
def asciiWordsSpec : ChangeSpec := { name := "asciiWords", fn := fun _ => fun
  | [d1, d2, d3] => { results := [.lit (.bool true)], args := [d1, d2, d3] }
  | _ => none }
def asciiWordsRow : OpenClaim := { program := "ytcemneilhfjnhaa", sum := "1ec6165bc139db943d6684fcdccedce05b51833ec0c938038296fb76af200d94", func := "tamis/tamislaw01.AsciiWords", spec := "asciiWords", unfollowed := true, recurses := true, apart := false }
def AsciiWordsSaid : Prop := asciiWordsRow.holds Try.pinned (OpenSpec.ofChange asciiWordsSpec)

/-- ITS FALSE NEIGHBOUR: 'it returns false'. Refute it at one input. -/
def asciiWordsWrong : ChangeSpec := { name := "asciiWords", fn := fun _ => fun
  | [d1, d2, d3] => { results := [.lit (.bool false)], args := [d1, d2, d3] }
  | _ => none }
def AsciiWordsWrongFalsely : Prop := asciiWordsRow.holds Try.pinned (OpenSpec.ofChange asciiWordsWrong)

/-- 'tamislaw01.AsciiTight': WHATEVER THE INPUT: true; the input reads as it did. -/
def asciiTightSpec : ChangeSpec := { name := "asciiTight", fn := fun _ => fun
  | [d1, d2] => { results := [.lit (.bool true)], args := [d1, d2] }
  | _ => none }
def asciiTightRow : OpenClaim := { program := "ytcemneilhfjnhaa", sum := "1ec6165bc139db943d6684fcdccedce05b51833ec0c938038296fb76af200d94", func := "tamis/tamislaw01.AsciiTight", spec := "asciiTight", unfollowed := true, recurses := true, apart := false }
def AsciiTightSaid : Prop := asciiTightRow.holds Try.pinned (OpenSpec.ofChange asciiTightSpec)

/-- ITS FALSE NEIGHBOUR: 'it returns false'. Refute it at one input. -/
def asciiTightWrong : ChangeSpec := { name := "asciiTight", fn := fun _ => fun
  | [d1, d2] => { results := [.lit (.bool false)], args := [d1, d2] }
  | _ => none }
def AsciiTightWrongFalsely : Prop := asciiTightRow.holds Try.pinned (OpenSpec.ofChange asciiTightWrong)

/- THE SECOND FORM. 'bulk': how many values and letters a reading holds, each counted each time it is reached (what is shared counts as often as it is met; a slice's spare places count too). A statement '..UptoSaid' is the law's where the arguments, and the package variables that the reading takes, are together of bulk at most 1048576: NARROWER than '..Said'. Prove '..Said' where nothing that the law and all that it calls make is longer than what came in: it says more and counts as full. Else prove '..UptoSaid'. A law counts once. -/
mutual
def uptoBulk {H : Type} : DataW H → Nat
  | .lit (.string bytes) => bytes.length + 1
  | .lit _ => 1
  | .nil => 1
  | .ptr d => uptoBulk d + 1
  | .slice elems spare => uptoBulkAll elems + uptoBulkAll spare + 1
  | .agg parts => uptoBulkAll parts + 1
  | .iface _ d => uptoBulk d + 1
  | .map entries => uptoBulkEntries entries + 1
  | .held _ => 1
def uptoBulkAll {H : Type} : List (DataW H) → Nat
  | [] => 0
  | d :: r => uptoBulk d + uptoBulkAll r
def uptoBulkEntries {H : Type} : List (Lit × DataW H) → Nat
  | [] => 0
  | x :: r => uptoBulkEntry x + uptoBulkEntries r
def uptoBulkEntry {H : Type} : Lit × DataW H → Nat
  | (.string bytes, d) => bytes.length + uptoBulk d + 1
  | (_, d) => uptoBulk d + 1
 end
def uptoSmall : (H : Type) → List (DataW H) → Bool := fun _ ds => decide (uptoBulkAll ds ≤ 1048576)
def OpenSpec.upto (s : _root_.Go.ChangeSpec) : _root_.Go.OpenSpec := { _root_.Go.OpenSpec.ofChange s with cond := some uptoSmall }

/-- 'tamislaw01.AsciiClasses', WHERE WHAT IT READS IS OF BULK AT MOST 1048576: true; the input reads as it did. -/
def asciiClassesUptoRow : OpenClaim := { program := "ytcemneilhfjnhaa", sum := "1ec6165bc139db943d6684fcdccedce05b51833ec0c938038296fb76af200d94", func := "tamis/tamislaw01.AsciiClasses", spec := "asciiClasses", unfollowed := true, recurses := true, apart := false, narrowed := true }
def AsciiClassesUptoSaid : Prop := asciiClassesUptoRow.holds Try.pinned (OpenSpec.upto asciiClassesSpec)

/-- 'tamislaw01.AsciiTexts', WHERE WHAT IT READS IS OF BULK AT MOST 1048576: true; the input reads as it did. -/
def asciiTextsUptoRow : OpenClaim := { program := "ytcemneilhfjnhaa", sum := "1ec6165bc139db943d6684fcdccedce05b51833ec0c938038296fb76af200d94", func := "tamis/tamislaw01.AsciiTexts", spec := "asciiTexts", unfollowed := true, recurses := true, apart := false, narrowed := true }
def AsciiTextsUptoSaid : Prop := asciiTextsUptoRow.holds Try.pinned (OpenSpec.upto asciiTextsSpec)

/-- 'tamislaw01.AsciiDigits', WHERE WHAT IT READS IS OF BULK AT MOST 1048576: true; the input reads as it did. -/
def asciiDigitsUptoRow : OpenClaim := { program := "ytcemneilhfjnhaa", sum := "1ec6165bc139db943d6684fcdccedce05b51833ec0c938038296fb76af200d94", func := "tamis/tamislaw01.AsciiDigits", spec := "asciiDigits", unfollowed := true, recurses := true, apart := false, narrowed := true }
def AsciiDigitsUptoSaid : Prop := asciiDigitsUptoRow.holds Try.pinned (OpenSpec.upto asciiDigitsSpec)

/-- 'tamislaw01.AsciiEnds', WHERE WHAT IT READS IS OF BULK AT MOST 1048576: true; the input reads as it did. -/
def asciiEndsUptoRow : OpenClaim := { program := "ytcemneilhfjnhaa", sum := "1ec6165bc139db943d6684fcdccedce05b51833ec0c938038296fb76af200d94", func := "tamis/tamislaw01.AsciiEnds", spec := "asciiEnds", unfollowed := true, recurses := true, apart := false, narrowed := true }
def AsciiEndsUptoSaid : Prop := asciiEndsUptoRow.holds Try.pinned (OpenSpec.upto asciiEndsSpec)

/-- 'tamislaw01.AsciiWords', WHERE WHAT IT READS IS OF BULK AT MOST 1048576: true; the input reads as it did. -/
def asciiWordsUptoRow : OpenClaim := { program := "ytcemneilhfjnhaa", sum := "1ec6165bc139db943d6684fcdccedce05b51833ec0c938038296fb76af200d94", func := "tamis/tamislaw01.AsciiWords", spec := "asciiWords", unfollowed := true, recurses := true, apart := false, narrowed := true }
def AsciiWordsUptoSaid : Prop := asciiWordsUptoRow.holds Try.pinned (OpenSpec.upto asciiWordsSpec)

/-- 'tamislaw01.AsciiTight', WHERE WHAT IT READS IS OF BULK AT MOST 1048576: true; the input reads as it did. -/
def asciiTightUptoRow : OpenClaim := { program := "ytcemneilhfjnhaa", sum := "1ec6165bc139db943d6684fcdccedce05b51833ec0c938038296fb76af200d94", func := "tamis/tamislaw01.AsciiTight", spec := "asciiTight", unfollowed := true, recurses := true, apart := false, narrowed := true }
def AsciiTightUptoSaid : Prop := asciiTightUptoRow.holds Try.pinned (OpenSpec.upto asciiTightSpec)

end Rows
end Go.Proofs.Ytcemneilhfjnhaa
