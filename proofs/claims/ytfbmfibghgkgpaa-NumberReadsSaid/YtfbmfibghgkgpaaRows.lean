/-
  No cell of these rows narrows 'for every input' (looked for: loops, veiled, ifaces, maps, wideKeys, modest, calm, conditions, laid).
  DERIVED. THE GIVEN ROWS OF THIS SEAT. 5 by the template 'for every input the law returns true; each argument reads behind the call as it read before'; 0 by the template 'total and deterministic' (their statements: YtfbmfibghgkgpaaTotals.lean).
  GIVEN WITH THE SEED: the statements are not yours to turn. If you find one false, say at which input.
  Laid BY PROGRAM, IN A SANDBOX (cutbox-rows.mjs): the forced cells as the released guide's own fill.sh prints them over the translation 969d81066f52e27e… (all of the seat's roots in one cut). By AI agents, Wed Nov 11 2026. No macro, syntax, notation, axiom, sorry.
-/
import Derived.Test.YtfbmfibghgkgpaaChecked
import GoSem.Claim
import GoSem.ClaimJoined
import GoSem.ClaimMapViews
import Derived.JoinedTies
import Derived.KernelRfl
namespace Go.Proofs.Ytfbmfibghgkgpaa
/- THE CELL 'sum', in the pinned program and in every row, IS THE sha256 OF THE DUMP (.gsa) THAT YtfbmfibghgkgpaaProg.lean LOADS. Nothing in Lean hashes anything: it is a label: what it is worth is what the hold of that sum in a sandbox is worth. -/
noncomputable def Try.pinned : Pinned := { name := "ytfbmfibghgkgpaa", sum := "969d81066f52e27e9ae24885ff0805608cd03fc29fa33bdce484d97322463a0d", checked := Try.checked }
namespace Rows
def none {H : Type} : Left H := { results := [], args := [] }

/-- 'tamislaw04.NumberReads': WHATEVER THE INPUT: true; the input reads as it did. -/
def numberReadsSpec : ChangeSpec := { name := "numberReads", fn := fun _ => fun
  | [d] => { results := [.lit (.bool true)], args := [d] }
  | _ => none }
def numberReadsRow : OpenClaim := { program := "ytfbmfibghgkgpaa", sum := "969d81066f52e27e9ae24885ff0805608cd03fc29fa33bdce484d97322463a0d", func := "tamis/tamislaw04.NumberReads", spec := "numberReads", inPlace := ["internal/bytealg.IndexByteString", "internal/bytealg.IndexString"], named := ["internal/bytealg.MaxLen"], apart := false }
def NumberReadsSaid : Prop := numberReadsRow.holds Try.pinned (OpenSpec.ofChange numberReadsSpec)

/-- ITS FALSE NEIGHBOUR: 'it returns false'. Refute it at one input. -/
def numberReadsWrong : ChangeSpec := { name := "numberReads", fn := fun _ => fun
  | [d] => { results := [.lit (.bool false)], args := [d] }
  | _ => none }
def NumberReadsWrongFalsely : Prop := numberReadsRow.holds Try.pinned (OpenSpec.ofChange numberReadsWrong)

/-- 'tamislaw04.NumberWhole': WHATEVER THE INPUT: true; the input reads as it did. -/
def numberWholeSpec : ChangeSpec := { name := "numberWhole", fn := fun _ => fun
  | [d1, d2, d3] => { results := [.lit (.bool true)], args := [d1, d2, d3] }
  | _ => none }
def numberWholeRow : OpenClaim := { program := "ytfbmfibghgkgpaa", sum := "969d81066f52e27e9ae24885ff0805608cd03fc29fa33bdce484d97322463a0d", func := "tamis/tamislaw04.NumberWhole", spec := "numberWhole", inPlace := ["internal/bytealg.IndexByteString", "internal/bytealg.IndexString"], named := ["internal/bytealg.MaxLen"], apart := false }
def NumberWholeSaid : Prop := numberWholeRow.holds Try.pinned (OpenSpec.ofChange numberWholeSpec)

/-- ITS FALSE NEIGHBOUR: 'it returns false'. Refute it at one input. -/
def numberWholeWrong : ChangeSpec := { name := "numberWhole", fn := fun _ => fun
  | [d1, d2, d3] => { results := [.lit (.bool false)], args := [d1, d2, d3] }
  | _ => none }
def NumberWholeWrongFalsely : Prop := numberWholeRow.holds Try.pinned (OpenSpec.ofChange numberWholeWrong)

/-- 'tamislaw04.NumberPoint': WHATEVER THE INPUT: true; the input reads as it did. -/
def numberPointSpec : ChangeSpec := { name := "numberPoint", fn := fun _ => fun
  | [d1, d2, d3, d4] => { results := [.lit (.bool true)], args := [d1, d2, d3, d4] }
  | _ => none }
def numberPointRow : OpenClaim := { program := "ytfbmfibghgkgpaa", sum := "969d81066f52e27e9ae24885ff0805608cd03fc29fa33bdce484d97322463a0d", func := "tamis/tamislaw04.NumberPoint", spec := "numberPoint", inPlace := ["internal/bytealg.IndexByteString", "internal/bytealg.IndexString"], named := ["internal/bytealg.MaxLen"], apart := false }
def NumberPointSaid : Prop := numberPointRow.holds Try.pinned (OpenSpec.ofChange numberPointSpec)

/-- ITS FALSE NEIGHBOUR: 'it returns false'. Refute it at one input. -/
def numberPointWrong : ChangeSpec := { name := "numberPoint", fn := fun _ => fun
  | [d1, d2, d3, d4] => { results := [.lit (.bool false)], args := [d1, d2, d3, d4] }
  | _ => none }
def NumberPointWrongFalsely : Prop := numberPointRow.holds Try.pinned (OpenSpec.ofChange numberPointWrong)

/-- 'tamislaw04.NumberOrder': WHATEVER THE INPUT: true; the input reads as it did. -/
def numberOrderSpec : ChangeSpec := { name := "numberOrder", fn := fun _ => fun
  | [d1, d2, d3] => { results := [.lit (.bool true)], args := [d1, d2, d3] }
  | _ => none }
def numberOrderRow : OpenClaim := { program := "ytfbmfibghgkgpaa", sum := "969d81066f52e27e9ae24885ff0805608cd03fc29fa33bdce484d97322463a0d", func := "tamis/tamislaw04.NumberOrder", spec := "numberOrder", inPlace := ["internal/bytealg.IndexByteString", "internal/bytealg.IndexString"], named := ["internal/bytealg.MaxLen"], apart := false }
def NumberOrderSaid : Prop := numberOrderRow.holds Try.pinned (OpenSpec.ofChange numberOrderSpec)

/-- ITS FALSE NEIGHBOUR: 'it returns false'. Refute it at one input. -/
def numberOrderWrong : ChangeSpec := { name := "numberOrder", fn := fun _ => fun
  | [d1, d2, d3] => { results := [.lit (.bool false)], args := [d1, d2, d3] }
  | _ => none }
def NumberOrderWrongFalsely : Prop := numberOrderRow.holds Try.pinned (OpenSpec.ofChange numberOrderWrong)

/-- 'tamislaw04.NumberForm': WHATEVER THE INPUT: true; the input reads as it did. -/
def numberFormSpec : ChangeSpec := { name := "numberForm", fn := fun _ => fun
  | [d1, d2, d3] => { results := [.lit (.bool true)], args := [d1, d2, d3] }
  | _ => none }
def numberFormRow : OpenClaim := { program := "ytfbmfibghgkgpaa", sum := "969d81066f52e27e9ae24885ff0805608cd03fc29fa33bdce484d97322463a0d", func := "tamis/tamislaw04.NumberForm", spec := "numberForm", inPlace := ["internal/bytealg.IndexByteString", "internal/bytealg.IndexString"], named := ["internal/bytealg.MaxLen"], apart := false }
def NumberFormSaid : Prop := numberFormRow.holds Try.pinned (OpenSpec.ofChange numberFormSpec)

/-- ITS FALSE NEIGHBOUR: 'it returns false'. Refute it at one input. -/
def numberFormWrong : ChangeSpec := { name := "numberForm", fn := fun _ => fun
  | [d1, d2, d3] => { results := [.lit (.bool false)], args := [d1, d2, d3] }
  | _ => none }
def NumberFormWrongFalsely : Prop := numberFormRow.holds Try.pinned (OpenSpec.ofChange numberFormWrong)

/- THE SECOND FORM. 'bulk': how many values and letters a reading holds, each counted each time it is reached (what is shared counts as often as it is met; a slice's spare places count too). A statement '..UptoSaid' is the law's where the arguments, and the package variables that the reading takes, are together of bulk at most 1048576: NARROWER than '..Said'. Prove '..Said' where nothing that the law and all that it calls make is longer than what came in: it says more and counts as full. Else prove '..UptoSaid'. A law counts once. -/
mutual
def uptoBulk {H : Type} : DataW H → Nat
  | .lit (.string bytes) => bytes.length + 1
  | .lit _ => 1
  | .nil => 1
  | .ptr d => uptoBulk d + 1
  | .slice elems spare => uptoBulkAll elems + uptoBulkAll spare + 1
  | .agg parts => uptoBulkAll parts + 1
  | .iface _ d => uptoBulk d + 1
  | .map entries => uptoBulkEntries entries + 1
  | .held _ => 1
def uptoBulkAll {H : Type} : List (DataW H) → Nat
  | [] => 0
  | d :: r => uptoBulk d + uptoBulkAll r
def uptoBulkEntries {H : Type} : List (Lit × DataW H) → Nat
  | [] => 0
  | x :: r => uptoBulkEntry x + uptoBulkEntries r
def uptoBulkEntry {H : Type} : Lit × DataW H → Nat
  | (.string bytes, d) => bytes.length + uptoBulk d + 1
  | (_, d) => uptoBulk d + 1
 end
def uptoSmall : (H : Type) → List (DataW H) → Bool := fun _ ds => decide (uptoBulkAll ds ≤ 1048576)
def OpenSpec.upto (s : _root_.Go.ChangeSpec) : _root_.Go.OpenSpec := { _root_.Go.OpenSpec.ofChange s with cond := some uptoSmall }

/-- 'tamislaw04.NumberReads', WHERE WHAT IT READS IS OF BULK AT MOST 1048576: true; the input reads as it did. -/
def numberReadsUptoRow : OpenClaim := { program := "ytfbmfibghgkgpaa", sum := "969d81066f52e27e9ae24885ff0805608cd03fc29fa33bdce484d97322463a0d", func := "tamis/tamislaw04.NumberReads", spec := "numberReads", inPlace := ["internal/bytealg.IndexByteString", "internal/bytealg.IndexString"], named := ["internal/bytealg.MaxLen"], apart := false, narrowed := true }
def NumberReadsUptoSaid : Prop := numberReadsUptoRow.holds Try.pinned (OpenSpec.upto numberReadsSpec)

/-- 'tamislaw04.NumberWhole', WHERE WHAT IT READS IS OF BULK AT MOST 1048576: true; the input reads as it did. -/
def numberWholeUptoRow : OpenClaim := { program := "ytfbmfibghgkgpaa", sum := "969d81066f52e27e9ae24885ff0805608cd03fc29fa33bdce484d97322463a0d", func := "tamis/tamislaw04.NumberWhole", spec := "numberWhole", inPlace := ["internal/bytealg.IndexByteString", "internal/bytealg.IndexString"], named := ["internal/bytealg.MaxLen"], apart := false, narrowed := true }
def NumberWholeUptoSaid : Prop := numberWholeUptoRow.holds Try.pinned (OpenSpec.upto numberWholeSpec)

/-- 'tamislaw04.NumberPoint', WHERE WHAT IT READS IS OF BULK AT MOST 1048576: true; the input reads as it did. -/
def numberPointUptoRow : OpenClaim := { program := "ytfbmfibghgkgpaa", sum := "969d81066f52e27e9ae24885ff0805608cd03fc29fa33bdce484d97322463a0d", func := "tamis/tamislaw04.NumberPoint", spec := "numberPoint", inPlace := ["internal/bytealg.IndexByteString", "internal/bytealg.IndexString"], named := ["internal/bytealg.MaxLen"], apart := false, narrowed := true }
def NumberPointUptoSaid : Prop := numberPointUptoRow.holds Try.pinned (OpenSpec.upto numberPointSpec)

/-- 'tamislaw04.NumberOrder', WHERE WHAT IT READS IS OF BULK AT MOST 1048576: true; the input reads as it did. -/
def numberOrderUptoRow : OpenClaim := { program := "ytfbmfibghgkgpaa", sum := "969d81066f52e27e9ae24885ff0805608cd03fc29fa33bdce484d97322463a0d", func := "tamis/tamislaw04.NumberOrder", spec := "numberOrder", inPlace := ["internal/bytealg.IndexByteString", "internal/bytealg.IndexString"], named := ["internal/bytealg.MaxLen"], apart := false, narrowed := true }
def NumberOrderUptoSaid : Prop := numberOrderUptoRow.holds Try.pinned (OpenSpec.upto numberOrderSpec)

/-- 'tamislaw04.NumberForm', WHERE WHAT IT READS IS OF BULK AT MOST 1048576: true; the input reads as it did. -/
def numberFormUptoRow : OpenClaim := { program := "ytfbmfibghgkgpaa", sum := "969d81066f52e27e9ae24885ff0805608cd03fc29fa33bdce484d97322463a0d", func := "tamis/tamislaw04.NumberForm", spec := "numberForm", inPlace := ["internal/bytealg.IndexByteString", "internal/bytealg.IndexString"], named := ["internal/bytealg.MaxLen"], apart := false, narrowed := true }
def NumberFormUptoSaid : Prop := numberFormUptoRow.holds Try.pinned (OpenSpec.upto numberFormSpec)

end Rows
end Go.Proofs.Ytfbmfibghgkgpaa
