/-
  No cell of these rows narrows 'for every input' (looked for: loops, veiled, ifaces, maps, wideKeys, modest, calm, conditions, laid).
  DERIVED. THE GIVEN ROWS OF THIS SEAT. 4 by the template 'for every input the law returns true; each argument reads behind the call as it read before'; 0 by the template 'total and deterministic' (their statements: YtlohhmckeanegaaTotals.lean).
  GIVEN WITH THE SEED: the statements are not yours to turn. If you find one false, say at which input.
  Laid BY PROGRAM, IN A SANDBOX (cutbox-rows.mjs): the forced cells as the released guide's own fill.sh prints them over the translation 463e8350b841c054… (all of the seat's roots in one cut). By AI agents, Wed Nov 11 2026. No macro, syntax, notation, axiom, sorry.
-/
import Derived.Test.YtlohhmckeanegaaChecked
import GoSem.Claim
import GoSem.ClaimJoined
import GoSem.ClaimMapViews
import Derived.JoinedTies
import Derived.KernelRfl
namespace Go.Proofs.Ytlohhmckeanegaa
/- THE CELL 'sum', in the pinned program and in every row, IS THE sha256 OF THE DUMP (.gsa) THAT YtlohhmckeanegaaProg.lean LOADS. Nothing in Lean hashes anything: it is a label: what it is worth is what the hold of that sum in a sandbox is worth. -/
noncomputable def Try.pinned : Pinned := { name := "ytlohhmckeanegaa", sum := "463e8350b841c054af5c0ca1819ca5a5ed7069a5936804227ff0751b968a2e7b", checked := Try.checked }
namespace Rows
def none {H : Type} : Left H := { results := [], args := [] }

/-- 'tamislaw14.PartsTells': WHATEVER THE INPUT: true; the input reads as it did. -/
def partsTellsSpec : ChangeSpec := { name := "partsTells", fn := fun _ => fun
  | [d] => { results := [.lit (.bool true)], args := [d] }
  | _ => none }
def partsTellsRow : OpenClaim := { program := "ytlohhmckeanegaa", sum := "463e8350b841c054af5c0ca1819ca5a5ed7069a5936804227ff0751b968a2e7b", func := "tamis/tamislaw14.PartsTells", spec := "partsTells", inPlace := ["internal/bytealg.IndexByteString", "internal/bytealg.IndexString"], unfollowed := true, recurses := true, named := ["internal/bytealg.MaxLen"], apart := false }
def PartsTellsSaid : Prop := partsTellsRow.holds Try.pinned (OpenSpec.ofChange partsTellsSpec)

/-- ITS FALSE NEIGHBOUR: 'it returns false'. Refute it at one input. -/
def partsTellsWrong : ChangeSpec := { name := "partsTells", fn := fun _ => fun
  | [d] => { results := [.lit (.bool false)], args := [d] }
  | _ => none }
def PartsTellsWrongFalsely : Prop := partsTellsRow.holds Try.pinned (OpenSpec.ofChange partsTellsWrong)

/-- 'tamislaw14.PartsJoin': WHATEVER THE INPUT: true; the input reads as it did. -/
def partsJoinSpec : ChangeSpec := { name := "partsJoin", fn := fun _ => fun
  | [d] => { results := [.lit (.bool true)], args := [d] }
  | _ => none }
def partsJoinRow : OpenClaim := { program := "ytlohhmckeanegaa", sum := "463e8350b841c054af5c0ca1819ca5a5ed7069a5936804227ff0751b968a2e7b", func := "tamis/tamislaw14.PartsJoin", spec := "partsJoin", inPlace := ["internal/bytealg.IndexByteString", "internal/bytealg.IndexString"], unfollowed := true, recurses := true, named := ["internal/bytealg.MaxLen"], apart := false }
def PartsJoinSaid : Prop := partsJoinRow.holds Try.pinned (OpenSpec.ofChange partsJoinSpec)

/-- ITS FALSE NEIGHBOUR: 'it returns false'. Refute it at one input. -/
def partsJoinWrong : ChangeSpec := { name := "partsJoin", fn := fun _ => fun
  | [d] => { results := [.lit (.bool false)], args := [d] }
  | _ => none }
def PartsJoinWrongFalsely : Prop := partsJoinRow.holds Try.pinned (OpenSpec.ofChange partsJoinWrong)

/-- 'tamislaw14.PartsScheme': WHATEVER THE INPUT: true; the input reads as it did. -/
def partsSchemeSpec : ChangeSpec := { name := "partsScheme", fn := fun _ => fun
  | [d1, d2, d3] => { results := [.lit (.bool true)], args := [d1, d2, d3] }
  | _ => none }
def partsSchemeRow : OpenClaim := { program := "ytlohhmckeanegaa", sum := "463e8350b841c054af5c0ca1819ca5a5ed7069a5936804227ff0751b968a2e7b", func := "tamis/tamislaw14.PartsScheme", spec := "partsScheme", inPlace := ["internal/bytealg.IndexByteString", "internal/bytealg.IndexString"], unfollowed := true, recurses := true, named := ["internal/bytealg.MaxLen"], apart := false }
def PartsSchemeSaid : Prop := partsSchemeRow.holds Try.pinned (OpenSpec.ofChange partsSchemeSpec)

/-- ITS FALSE NEIGHBOUR: 'it returns false'. Refute it at one input. -/
def partsSchemeWrong : ChangeSpec := { name := "partsScheme", fn := fun _ => fun
  | [d1, d2, d3] => { results := [.lit (.bool false)], args := [d1, d2, d3] }
  | _ => none }
def PartsSchemeWrongFalsely : Prop := partsSchemeRow.holds Try.pinned (OpenSpec.ofChange partsSchemeWrong)

/-- 'tamislaw14.PartsClean': WHATEVER THE INPUT: true; the input reads as it did. -/
def partsCleanSpec : ChangeSpec := { name := "partsClean", fn := fun _ => fun
  | [d] => { results := [.lit (.bool true)], args := [d] }
  | _ => none }
def partsCleanRow : OpenClaim := { program := "ytlohhmckeanegaa", sum := "463e8350b841c054af5c0ca1819ca5a5ed7069a5936804227ff0751b968a2e7b", func := "tamis/tamislaw14.PartsClean", spec := "partsClean", inPlace := ["internal/bytealg.IndexByteString", "internal/bytealg.IndexString"], unfollowed := true, recurses := true, named := ["internal/bytealg.MaxLen"], apart := false }
def PartsCleanSaid : Prop := partsCleanRow.holds Try.pinned (OpenSpec.ofChange partsCleanSpec)

/-- ITS FALSE NEIGHBOUR: 'it returns false'. Refute it at one input. -/
def partsCleanWrong : ChangeSpec := { name := "partsClean", fn := fun _ => fun
  | [d] => { results := [.lit (.bool false)], args := [d] }
  | _ => none }
def PartsCleanWrongFalsely : Prop := partsCleanRow.holds Try.pinned (OpenSpec.ofChange partsCleanWrong)

/- THE SECOND FORM. 'bulk': how many values and letters a reading holds, each counted each time it is reached (what is shared counts as often as it is met; a slice's spare places count too). A statement '..UptoSaid' is the law's where the arguments, and the package variables that the reading takes, are together of bulk at most 1048576: NARROWER than '..Said'. Prove '..Said' where nothing that the law and all that it calls make is longer than what came in: it says more and counts as full. Else prove '..UptoSaid'. A law counts once. -/
mutual
def uptoBulk {H : Type} : DataW H → Nat
  | .lit (.string bytes) => bytes.length + 1
  | .lit _ => 1
  | .nil => 1
  | .ptr d => uptoBulk d + 1
  | .slice elems spare => uptoBulkAll elems + uptoBulkAll spare + 1
  | .agg parts => uptoBulkAll parts + 1
  | .iface _ d => uptoBulk d + 1
  | .map entries => uptoBulkEntries entries + 1
  | .held _ => 1
def uptoBulkAll {H : Type} : List (DataW H) → Nat
  | [] => 0
  | d :: r => uptoBulk d + uptoBulkAll r
def uptoBulkEntries {H : Type} : List (Lit × DataW H) → Nat
  | [] => 0
  | x :: r => uptoBulkEntry x + uptoBulkEntries r
def uptoBulkEntry {H : Type} : Lit × DataW H → Nat
  | (.string bytes, d) => bytes.length + uptoBulk d + 1
  | (_, d) => uptoBulk d + 1
 end
def uptoSmall : (H : Type) → List (DataW H) → Bool := fun _ ds => decide (uptoBulkAll ds ≤ 1048576)
def OpenSpec.upto (s : _root_.Go.ChangeSpec) : _root_.Go.OpenSpec := { _root_.Go.OpenSpec.ofChange s with cond := some uptoSmall }

/-- 'tamislaw14.PartsTells', WHERE WHAT IT READS IS OF BULK AT MOST 1048576: true; the input reads as it did. -/
def partsTellsUptoRow : OpenClaim := { program := "ytlohhmckeanegaa", sum := "463e8350b841c054af5c0ca1819ca5a5ed7069a5936804227ff0751b968a2e7b", func := "tamis/tamislaw14.PartsTells", spec := "partsTells", inPlace := ["internal/bytealg.IndexByteString", "internal/bytealg.IndexString"], unfollowed := true, recurses := true, named := ["internal/bytealg.MaxLen"], apart := false, narrowed := true }
def PartsTellsUptoSaid : Prop := partsTellsUptoRow.holds Try.pinned (OpenSpec.upto partsTellsSpec)

/-- 'tamislaw14.PartsJoin', WHERE WHAT IT READS IS OF BULK AT MOST 1048576: true; the input reads as it did. -/
def partsJoinUptoRow : OpenClaim := { program := "ytlohhmckeanegaa", sum := "463e8350b841c054af5c0ca1819ca5a5ed7069a5936804227ff0751b968a2e7b", func := "tamis/tamislaw14.PartsJoin", spec := "partsJoin", inPlace := ["internal/bytealg.IndexByteString", "internal/bytealg.IndexString"], unfollowed := true, recurses := true, named := ["internal/bytealg.MaxLen"], apart := false, narrowed := true }
def PartsJoinUptoSaid : Prop := partsJoinUptoRow.holds Try.pinned (OpenSpec.upto partsJoinSpec)

/-- 'tamislaw14.PartsScheme', WHERE WHAT IT READS IS OF BULK AT MOST 1048576: true; the input reads as it did. -/
def partsSchemeUptoRow : OpenClaim := { program := "ytlohhmckeanegaa", sum := "463e8350b841c054af5c0ca1819ca5a5ed7069a5936804227ff0751b968a2e7b", func := "tamis/tamislaw14.PartsScheme", spec := "partsScheme", inPlace := ["internal/bytealg.IndexByteString", "internal/bytealg.IndexString"], unfollowed := true, recurses := true, named := ["internal/bytealg.MaxLen"], apart := false, narrowed := true }
def PartsSchemeUptoSaid : Prop := partsSchemeUptoRow.holds Try.pinned (OpenSpec.upto partsSchemeSpec)

/-- 'tamislaw14.PartsClean', WHERE WHAT IT READS IS OF BULK AT MOST 1048576: true; the input reads as it did. -/
def partsCleanUptoRow : OpenClaim := { program := "ytlohhmckeanegaa", sum := "463e8350b841c054af5c0ca1819ca5a5ed7069a5936804227ff0751b968a2e7b", func := "tamis/tamislaw14.PartsClean", spec := "partsClean", inPlace := ["internal/bytealg.IndexByteString", "internal/bytealg.IndexString"], unfollowed := true, recurses := true, named := ["internal/bytealg.MaxLen"], apart := false, narrowed := true }
def PartsCleanUptoSaid : Prop := partsCleanUptoRow.holds Try.pinned (OpenSpec.upto partsCleanSpec)

end Rows
end Go.Proofs.Ytlohhmckeanegaa
