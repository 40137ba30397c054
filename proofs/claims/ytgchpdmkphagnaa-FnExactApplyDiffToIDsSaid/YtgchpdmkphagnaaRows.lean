/-
  No cell of these rows narrows 'for every input' (looked for: loops, veiled, ifaces, maps, wideKeys, modest, calm, conditions, laid).
  DERIVED. THE GIVEN ROWS OF THIS SEAT. 12 by the template 'for every input the law returns true; each argument reads behind the call as it read before'; 0 by the template 'total and deterministic' (their statements: YtgchpdmkphagnaaTotals.lean).
  GIVEN WITH THE SEED: the statements are not yours to turn. If you find one false, say at which input.
  Laid BY PROGRAM, IN A SANDBOX (cutbox-rows.mjs): the forced cells as the released guide's own fill.sh prints them over the translation 18e633486722c1e0… (all of the seat's roots in one cut). By AI agents, Wed Nov 11 2026. No macro, syntax, notation, axiom, sorry.
-/
import Derived.Test.YtgchpdmkphagnaaChecked
import GoSem.Claim
import GoSem.ClaimJoined
import GoSem.ClaimMapViews
import Derived.JoinedTies
import Derived.KernelRfl
namespace Go.Proofs.Ytgchpdmkphagnaa
/- THE CELL 'sum', in the pinned program and in every row, IS THE sha256 OF THE DUMP (.gsa) THAT YtgchpdmkphagnaaProg.lean LOADS. Nothing in Lean hashes anything: it is a label: what it is worth is what the hold of that sum in a sandbox is worth. -/
noncomputable def Try.pinned : Pinned := { name := "ytgchpdmkphagnaa", sum := "18e633486722c1e0e49f91b2b766094fbeb547088e30582de8e9fabd65ed7abe", checked := Try.checked }
namespace Rows
def none {H : Type} : Left H := { results := [], args := [] }

/-- 'laws.FnExactDirNames': WHATEVER THE INPUT: true; the input reads as it did. -/
def fnExactDirNamesSpec : ChangeSpec := { name := "fnExactDirNames", fn := fun _ => fun
  | [d] => { results := [.lit (.bool true)], args := [d] }
  | _ => none }
def fnExactDirNamesRow : OpenClaim := { program := "ytgchpdmkphagnaa", sum := "18e633486722c1e0e49f91b2b766094fbeb547088e30582de8e9fabd65ed7abe", func := "loop.example/g00976/laws.FnExactDirNames", spec := "fnExactDirNames", apart := false }
def FnExactDirNamesSaid : Prop := fnExactDirNamesRow.holds Try.pinned (OpenSpec.ofChange fnExactDirNamesSpec)

/-- ITS FALSE NEIGHBOUR: 'it returns false'. Refute it at one input. -/
def fnExactDirNamesWrong : ChangeSpec := { name := "fnExactDirNames", fn := fun _ => fun
  | [d] => { results := [.lit (.bool false)], args := [d] }
  | _ => none }
def FnExactDirNamesWrongFalsely : Prop := fnExactDirNamesRow.holds Try.pinned (OpenSpec.ofChange fnExactDirNamesWrong)

/-- 'laws.FnInvertTwice': WHATEVER THE INPUT: true; the input reads as it did. -/
def fnInvertTwiceSpec : ChangeSpec := { name := "fnInvertTwice", fn := fun _ => fun
  | [d] => { results := [.lit (.bool true)], args := [d] }
  | _ => none }
def fnInvertTwiceRow : OpenClaim := { program := "ytgchpdmkphagnaa", sum := "18e633486722c1e0e49f91b2b766094fbeb547088e30582de8e9fabd65ed7abe", func := "loop.example/g00976/laws.FnInvertTwice", spec := "fnInvertTwice", inPlace := ["slices.overlaps[loop.example/g00976/impl.Diff]"], apart := false }
def FnInvertTwiceSaid : Prop := fnInvertTwiceRow.holds Try.pinned (OpenSpec.ofChange fnInvertTwiceSpec)

/-- ITS FALSE NEIGHBOUR: 'it returns false'. Refute it at one input. -/
def fnInvertTwiceWrong : ChangeSpec := { name := "fnInvertTwice", fn := fun _ => fun
  | [d] => { results := [.lit (.bool false)], args := [d] }
  | _ => none }
def FnInvertTwiceWrongFalsely : Prop := fnInvertTwiceRow.holds Try.pinned (OpenSpec.ofChange fnInvertTwiceWrong)

/-- 'laws.FnExactDiffResults': WHATEVER THE INPUT: true; the input reads as it did. -/
def fnExactDiffResultsSpec : ChangeSpec := { name := "fnExactDiffResults", fn := fun _ => fun
  | [d1, d2] => { results := [.lit (.bool true)], args := [d1, d2] }
  | _ => none }
def fnExactDiffResultsRow : OpenClaim := { program := "ytgchpdmkphagnaa", sum := "18e633486722c1e0e49f91b2b766094fbeb547088e30582de8e9fabd65ed7abe", func := "loop.example/g00976/laws.FnExactDiffResults", spec := "fnExactDiffResults", unfollowed := true, recurses := true, apart := false }
def FnExactDiffResultsSaid : Prop := fnExactDiffResultsRow.holds Try.pinned (OpenSpec.ofChange fnExactDiffResultsSpec)

/-- ITS FALSE NEIGHBOUR: 'it returns false'. Refute it at one input. -/
def fnExactDiffResultsWrong : ChangeSpec := { name := "fnExactDiffResults", fn := fun _ => fun
  | [d1, d2] => { results := [.lit (.bool false)], args := [d1, d2] }
  | _ => none }
def FnExactDiffResultsWrongFalsely : Prop := fnExactDiffResultsRow.holds Try.pinned (OpenSpec.ofChange fnExactDiffResultsWrong)

/-- 'laws.FnExactFindDir': WHATEVER THE INPUT: true; the input reads as it did. -/
def fnExactFindDirSpec : ChangeSpec := { name := "fnExactFindDir", fn := fun _ => fun
  | [d1, d2] => { results := [.lit (.bool true)], args := [d1, d2] }
  | _ => none }
def fnExactFindDirRow : OpenClaim := { program := "ytgchpdmkphagnaa", sum := "18e633486722c1e0e49f91b2b766094fbeb547088e30582de8e9fabd65ed7abe", func := "loop.example/g00976/laws.FnExactFindDir", spec := "fnExactFindDir", unfollowed := true, recurses := true, apart := false }
def FnExactFindDirSaid : Prop := fnExactFindDirRow.holds Try.pinned (OpenSpec.ofChange fnExactFindDirSpec)

/-- ITS FALSE NEIGHBOUR: 'it returns false'. Refute it at one input. -/
def fnExactFindDirWrong : ChangeSpec := { name := "fnExactFindDir", fn := fun _ => fun
  | [d1, d2] => { results := [.lit (.bool false)], args := [d1, d2] }
  | _ => none }
def FnExactFindDirWrongFalsely : Prop := fnExactFindDirRow.holds Try.pinned (OpenSpec.ofChange fnExactFindDirWrong)

/-- 'laws.FnExactInvertDiffs': WHATEVER THE INPUT: true; the input reads as it did. -/
def fnExactInvertDiffsSpec : ChangeSpec := { name := "fnExactInvertDiffs", fn := fun _ => fun
  | [d] => { results := [.lit (.bool true)], args := [d] }
  | _ => none }
def fnExactInvertDiffsRow : OpenClaim := { program := "ytgchpdmkphagnaa", sum := "18e633486722c1e0e49f91b2b766094fbeb547088e30582de8e9fabd65ed7abe", func := "loop.example/g00976/laws.FnExactInvertDiffs", spec := "fnExactInvertDiffs", inPlace := ["slices.overlaps[loop.example/g00976/impl.Diff]"], apart := false }
def FnExactInvertDiffsSaid : Prop := fnExactInvertDiffsRow.holds Try.pinned (OpenSpec.ofChange fnExactInvertDiffsSpec)

/-- ITS FALSE NEIGHBOUR: 'it returns false'. Refute it at one input. -/
def fnExactInvertDiffsWrong : ChangeSpec := { name := "fnExactInvertDiffs", fn := fun _ => fun
  | [d] => { results := [.lit (.bool false)], args := [d] }
  | _ => none }
def FnExactInvertDiffsWrongFalsely : Prop := fnExactInvertDiffsRow.holds Try.pinned (OpenSpec.ofChange fnExactInvertDiffsWrong)

/-- 'laws.FnExactIsValidDirs': WHATEVER THE INPUT: true; the input reads as it did. -/
def fnExactIsValidDirsSpec : ChangeSpec := { name := "fnExactIsValidDirs", fn := fun _ => fun
  | [d] => { results := [.lit (.bool true)], args := [d] }
  | _ => none }
def fnExactIsValidDirsRow : OpenClaim := { program := "ytgchpdmkphagnaa", sum := "18e633486722c1e0e49f91b2b766094fbeb547088e30582de8e9fabd65ed7abe", func := "loop.example/g00976/laws.FnExactIsValidDirs", spec := "fnExactIsValidDirs", apart := false }
def FnExactIsValidDirsSaid : Prop := fnExactIsValidDirsRow.holds Try.pinned (OpenSpec.ofChange fnExactIsValidDirsSpec)

/-- ITS FALSE NEIGHBOUR: 'it returns false'. Refute it at one input. -/
def fnExactIsValidDirsWrong : ChangeSpec := { name := "fnExactIsValidDirs", fn := fun _ => fun
  | [d] => { results := [.lit (.bool false)], args := [d] }
  | _ => none }
def FnExactIsValidDirsWrongFalsely : Prop := fnExactIsValidDirsRow.holds Try.pinned (OpenSpec.ofChange fnExactIsValidDirsWrong)

/-- 'laws.FnExactNegatedNodes': WHATEVER THE INPUT: true; the input reads as it did. -/
def fnExactNegatedNodesSpec : ChangeSpec := { name := "fnExactNegatedNodes", fn := fun _ => fun
  | [d] => { results := [.lit (.bool true)], args := [d] }
  | _ => none }
def fnExactNegatedNodesRow : OpenClaim := { program := "ytgchpdmkphagnaa", sum := "18e633486722c1e0e49f91b2b766094fbeb547088e30582de8e9fabd65ed7abe", func := "loop.example/g00976/laws.FnExactNegatedNodes", spec := "fnExactNegatedNodes", apart := false }
def FnExactNegatedNodesSaid : Prop := fnExactNegatedNodesRow.holds Try.pinned (OpenSpec.ofChange fnExactNegatedNodesSpec)

/-- ITS FALSE NEIGHBOUR: 'it returns false'. Refute it at one input. -/
def fnExactNegatedNodesWrong : ChangeSpec := { name := "fnExactNegatedNodes", fn := fun _ => fun
  | [d] => { results := [.lit (.bool false)], args := [d] }
  | _ => none }
def FnExactNegatedNodesWrongFalsely : Prop := fnExactNegatedNodesRow.holds Try.pinned (OpenSpec.ofChange fnExactNegatedNodesWrong)

/-- 'laws.FnExactRemoveDir': WHATEVER THE INPUT: true; the input reads as it did. -/
def fnExactRemoveDirSpec : ChangeSpec := { name := "fnExactRemoveDir", fn := fun _ => fun
  | [d1, d2] => { results := [.lit (.bool true)], args := [d1, d2] }
  | _ => none }
def fnExactRemoveDirRow : OpenClaim := { program := "ytgchpdmkphagnaa", sum := "18e633486722c1e0e49f91b2b766094fbeb547088e30582de8e9fabd65ed7abe", func := "loop.example/g00976/laws.FnExactRemoveDir", spec := "fnExactRemoveDir", unfollowed := true, recurses := true, apart := false }
def FnExactRemoveDirSaid : Prop := fnExactRemoveDirRow.holds Try.pinned (OpenSpec.ofChange fnExactRemoveDirSpec)

/-- ITS FALSE NEIGHBOUR: 'it returns false'. Refute it at one input. -/
def fnExactRemoveDirWrong : ChangeSpec := { name := "fnExactRemoveDir", fn := fun _ => fun
  | [d1, d2] => { results := [.lit (.bool false)], args := [d1, d2] }
  | _ => none }
def FnExactRemoveDirWrongFalsely : Prop := fnExactRemoveDirRow.holds Try.pinned (OpenSpec.ofChange fnExactRemoveDirWrong)

/-- 'laws.FnQueryLimits': WHATEVER THE INPUT: true; the input reads as it did. -/
def fnQueryLimitsSpec : ChangeSpec := { name := "fnQueryLimits", fn := fun _ => fun
  | [d] => { results := [.lit (.bool true)], args := [d] }
  | _ => none }
def fnQueryLimitsRow : OpenClaim := { program := "ytgchpdmkphagnaa", sum := "18e633486722c1e0e49f91b2b766094fbeb547088e30582de8e9fabd65ed7abe", func := "loop.example/g00976/laws.FnQueryLimits", spec := "fnQueryLimits", recurses := true, apart := false }
def FnQueryLimitsSaid : Prop := fnQueryLimitsRow.holds Try.pinned (OpenSpec.ofChange fnQueryLimitsSpec)

/-- ITS FALSE NEIGHBOUR: 'it returns false'. Refute it at one input. -/
def fnQueryLimitsWrong : ChangeSpec := { name := "fnQueryLimits", fn := fun _ => fun
  | [d] => { results := [.lit (.bool false)], args := [d] }
  | _ => none }
def FnQueryLimitsWrongFalsely : Prop := fnQueryLimitsRow.holds Try.pinned (OpenSpec.ofChange fnQueryLimitsWrong)

/-- 'laws.FnExactApplyDiffToIDs': WHATEVER THE INPUT: true; the input reads as it did. -/
def fnExactApplyDiffToIDsSpec : ChangeSpec := { name := "fnExactApplyDiffToIDs", fn := fun _ => fun
  | [d1, d2] => { results := [.lit (.bool true)], args := [d1, d2] }
  | _ => none }
def fnExactApplyDiffToIDsRow : OpenClaim := { program := "ytgchpdmkphagnaa", sum := "18e633486722c1e0e49f91b2b766094fbeb547088e30582de8e9fabd65ed7abe", func := "loop.example/g00976/laws.FnExactApplyDiffToIDs", spec := "fnExactApplyDiffToIDs", unfollowed := true, recurses := true, apart := false }
def FnExactApplyDiffToIDsSaid : Prop := fnExactApplyDiffToIDsRow.holds Try.pinned (OpenSpec.ofChange fnExactApplyDiffToIDsSpec)

/-- ITS FALSE NEIGHBOUR: 'it returns false'. Refute it at one input. -/
def fnExactApplyDiffToIDsWrong : ChangeSpec := { name := "fnExactApplyDiffToIDs", fn := fun _ => fun
  | [d1, d2] => { results := [.lit (.bool false)], args := [d1, d2] }
  | _ => none }
def FnExactApplyDiffToIDsWrongFalsely : Prop := fnExactApplyDiffToIDsRow.holds Try.pinned (OpenSpec.ofChange fnExactApplyDiffToIDsWrong)

/-- 'laws.FnExactMatches': WHATEVER THE INPUT: true; the input reads as it did. -/
def fnExactMatchesSpec : ChangeSpec := { name := "fnExactMatches", fn := fun _ => fun
  | [d1, d2, d3] => { results := [.lit (.bool true)], args := [d1, d2, d3] }
  | _ => none }
def fnExactMatchesRow : OpenClaim := { program := "ytgchpdmkphagnaa", sum := "18e633486722c1e0e49f91b2b766094fbeb547088e30582de8e9fabd65ed7abe", func := "loop.example/g00976/laws.FnExactMatches", spec := "fnExactMatches", recurses := true, apart := false }
def FnExactMatchesSaid : Prop := fnExactMatchesRow.holds Try.pinned (OpenSpec.ofChange fnExactMatchesSpec)

/-- ITS FALSE NEIGHBOUR: 'it returns false'. Refute it at one input. -/
def fnExactMatchesWrong : ChangeSpec := { name := "fnExactMatches", fn := fun _ => fun
  | [d1, d2, d3] => { results := [.lit (.bool false)], args := [d1, d2, d3] }
  | _ => none }
def FnExactMatchesWrongFalsely : Prop := fnExactMatchesRow.holds Try.pinned (OpenSpec.ofChange fnExactMatchesWrong)

/-- 'laws.FnExactQueryAttrs': WHATEVER THE INPUT: true; the input reads as it did. -/
def fnExactQueryAttrsSpec : ChangeSpec := { name := "fnExactQueryAttrs", fn := fun _ => fun
  | [d] => { results := [.lit (.bool true)], args := [d] }
  | _ => none }
def fnExactQueryAttrsRow : OpenClaim := { program := "ytgchpdmkphagnaa", sum := "18e633486722c1e0e49f91b2b766094fbeb547088e30582de8e9fabd65ed7abe", func := "loop.example/g00976/laws.FnExactQueryAttrs", spec := "fnExactQueryAttrs", recurses := true, apart := false }
def FnExactQueryAttrsSaid : Prop := fnExactQueryAttrsRow.holds Try.pinned (OpenSpec.ofChange fnExactQueryAttrsSpec)

/-- ITS FALSE NEIGHBOUR: 'it returns false'. Refute it at one input. -/
def fnExactQueryAttrsWrong : ChangeSpec := { name := "fnExactQueryAttrs", fn := fun _ => fun
  | [d] => { results := [.lit (.bool false)], args := [d] }
  | _ => none }
def FnExactQueryAttrsWrongFalsely : Prop := fnExactQueryAttrsRow.holds Try.pinned (OpenSpec.ofChange fnExactQueryAttrsWrong)

/- THE SECOND FORM. 'bulk': how many values and letters a reading holds, each counted each time it is reached (what is shared counts as often as it is met; a slice's spare places count too). A statement '..UptoSaid' is the law's where the arguments, and the package variables that the reading takes, are together of bulk at most 1048576: NARROWER than '..Said'. Prove '..Said' where nothing that the law and all that it calls make is longer than what came in: it says more and counts as full. Else prove '..UptoSaid'. A law counts once. -/
mutual
def uptoBulk {H : Type} : DataW H → Nat
  | .lit (.string bytes) => bytes.length + 1
  | .lit _ => 1
  | .nil => 1
  | .ptr d => uptoBulk d + 1
  | .slice elems spare => uptoBulkAll elems + uptoBulkAll spare + 1
  | .agg parts => uptoBulkAll parts + 1
  | .iface _ d => uptoBulk d + 1
  | .map entries => uptoBulkEntries entries + 1
  | .held _ => 1
def uptoBulkAll {H : Type} : List (DataW H) → Nat
  | [] => 0
  | d :: r => uptoBulk d + uptoBulkAll r
def uptoBulkEntries {H : Type} : List (Lit × DataW H) → Nat
  | [] => 0
  | x :: r => uptoBulkEntry x + uptoBulkEntries r
def uptoBulkEntry {H : Type} : Lit × DataW H → Nat
  | (.string bytes, d) => bytes.length + uptoBulk d + 1
  | (_, d) => uptoBulk d + 1
 end
def uptoSmall : (H : Type) → List (DataW H) → Bool := fun _ ds => decide (uptoBulkAll ds ≤ 1048576)
def OpenSpec.upto (s : _root_.Go.ChangeSpec) : _root_.Go.OpenSpec := { _root_.Go.OpenSpec.ofChange s with cond := some uptoSmall }

/-- 'laws.FnExactDirNames', WHERE WHAT IT READS IS OF BULK AT MOST 1048576: true; the input reads as it did. -/
def fnExactDirNamesUptoRow : OpenClaim := { program := "ytgchpdmkphagnaa", sum := "18e633486722c1e0e49f91b2b766094fbeb547088e30582de8e9fabd65ed7abe", func := "loop.example/g00976/laws.FnExactDirNames", spec := "fnExactDirNames", apart := false, narrowed := true }
def FnExactDirNamesUptoSaid : Prop := fnExactDirNamesUptoRow.holds Try.pinned (OpenSpec.upto fnExactDirNamesSpec)

/-- 'laws.FnInvertTwice', WHERE WHAT IT READS IS OF BULK AT MOST 1048576: true; the input reads as it did. -/
def fnInvertTwiceUptoRow : OpenClaim := { program := "ytgchpdmkphagnaa", sum := "18e633486722c1e0e49f91b2b766094fbeb547088e30582de8e9fabd65ed7abe", func := "loop.example/g00976/laws.FnInvertTwice", spec := "fnInvertTwice", inPlace := ["slices.overlaps[loop.example/g00976/impl.Diff]"], apart := false, narrowed := true }
def FnInvertTwiceUptoSaid : Prop := fnInvertTwiceUptoRow.holds Try.pinned (OpenSpec.upto fnInvertTwiceSpec)

/-- 'laws.FnExactDiffResults', WHERE WHAT IT READS IS OF BULK AT MOST 1048576: true; the input reads as it did. -/
def fnExactDiffResultsUptoRow : OpenClaim := { program := "ytgchpdmkphagnaa", sum := "18e633486722c1e0e49f91b2b766094fbeb547088e30582de8e9fabd65ed7abe", func := "loop.example/g00976/laws.FnExactDiffResults", spec := "fnExactDiffResults", unfollowed := true, recurses := true, apart := false, narrowed := true }
def FnExactDiffResultsUptoSaid : Prop := fnExactDiffResultsUptoRow.holds Try.pinned (OpenSpec.upto fnExactDiffResultsSpec)

/-- 'laws.FnExactFindDir', WHERE WHAT IT READS IS OF BULK AT MOST 1048576: true; the input reads as it did. -/
def fnExactFindDirUptoRow : OpenClaim := { program := "ytgchpdmkphagnaa", sum := "18e633486722c1e0e49f91b2b766094fbeb547088e30582de8e9fabd65ed7abe", func := "loop.example/g00976/laws.FnExactFindDir", spec := "fnExactFindDir", unfollowed := true, recurses := true, apart := false, narrowed := true }
def FnExactFindDirUptoSaid : Prop := fnExactFindDirUptoRow.holds Try.pinned (OpenSpec.upto fnExactFindDirSpec)

/-- 'laws.FnExactInvertDiffs', WHERE WHAT IT READS IS OF BULK AT MOST 1048576: true; the input reads as it did. -/
def fnExactInvertDiffsUptoRow : OpenClaim := { program := "ytgchpdmkphagnaa", sum := "18e633486722c1e0e49f91b2b766094fbeb547088e30582de8e9fabd65ed7abe", func := "loop.example/g00976/laws.FnExactInvertDiffs", spec := "fnExactInvertDiffs", inPlace := ["slices.overlaps[loop.example/g00976/impl.Diff]"], apart := false, narrowed := true }
def FnExactInvertDiffsUptoSaid : Prop := fnExactInvertDiffsUptoRow.holds Try.pinned (OpenSpec.upto fnExactInvertDiffsSpec)

/-- 'laws.FnExactIsValidDirs', WHERE WHAT IT READS IS OF BULK AT MOST 1048576: true; the input reads as it did. -/
def fnExactIsValidDirsUptoRow : OpenClaim := { program := "ytgchpdmkphagnaa", sum := "18e633486722c1e0e49f91b2b766094fbeb547088e30582de8e9fabd65ed7abe", func := "loop.example/g00976/laws.FnExactIsValidDirs", spec := "fnExactIsValidDirs", apart := false, narrowed := true }
def FnExactIsValidDirsUptoSaid : Prop := fnExactIsValidDirsUptoRow.holds Try.pinned (OpenSpec.upto fnExactIsValidDirsSpec)

/-- 'laws.FnExactNegatedNodes', WHERE WHAT IT READS IS OF BULK AT MOST 1048576: true; the input reads as it did. -/
def fnExactNegatedNodesUptoRow : OpenClaim := { program := "ytgchpdmkphagnaa", sum := "18e633486722c1e0e49f91b2b766094fbeb547088e30582de8e9fabd65ed7abe", func := "loop.example/g00976/laws.FnExactNegatedNodes", spec := "fnExactNegatedNodes", apart := false, narrowed := true }
def FnExactNegatedNodesUptoSaid : Prop := fnExactNegatedNodesUptoRow.holds Try.pinned (OpenSpec.upto fnExactNegatedNodesSpec)

/-- 'laws.FnExactRemoveDir', WHERE WHAT IT READS IS OF BULK AT MOST 1048576: true; the input reads as it did. -/
def fnExactRemoveDirUptoRow : OpenClaim := { program := "ytgchpdmkphagnaa", sum := "18e633486722c1e0e49f91b2b766094fbeb547088e30582de8e9fabd65ed7abe", func := "loop.example/g00976/laws.FnExactRemoveDir", spec := "fnExactRemoveDir", unfollowed := true, recurses := true, apart := false, narrowed := true }
def FnExactRemoveDirUptoSaid : Prop := fnExactRemoveDirUptoRow.holds Try.pinned (OpenSpec.upto fnExactRemoveDirSpec)

/-- 'laws.FnQueryLimits', WHERE WHAT IT READS IS OF BULK AT MOST 1048576: true; the input reads as it did. -/
def fnQueryLimitsUptoRow : OpenClaim := { program := "ytgchpdmkphagnaa", sum := "18e633486722c1e0e49f91b2b766094fbeb547088e30582de8e9fabd65ed7abe", func := "loop.example/g00976/laws.FnQueryLimits", spec := "fnQueryLimits", recurses := true, apart := false, narrowed := true }
def FnQueryLimitsUptoSaid : Prop := fnQueryLimitsUptoRow.holds Try.pinned (OpenSpec.upto fnQueryLimitsSpec)

/-- 'laws.FnExactApplyDiffToIDs', WHERE WHAT IT READS IS OF BULK AT MOST 1048576: true; the input reads as it did. -/
def fnExactApplyDiffToIDsUptoRow : OpenClaim := { program := "ytgchpdmkphagnaa", sum := "18e633486722c1e0e49f91b2b766094fbeb547088e30582de8e9fabd65ed7abe", func := "loop.example/g00976/laws.FnExactApplyDiffToIDs", spec := "fnExactApplyDiffToIDs", unfollowed := true, recurses := true, apart := false, narrowed := true }
def FnExactApplyDiffToIDsUptoSaid : Prop := fnExactApplyDiffToIDsUptoRow.holds Try.pinned (OpenSpec.upto fnExactApplyDiffToIDsSpec)

/-- 'laws.FnExactMatches', WHERE WHAT IT READS IS OF BULK AT MOST 1048576: true; the input reads as it did. -/
def fnExactMatchesUptoRow : OpenClaim := { program := "ytgchpdmkphagnaa", sum := "18e633486722c1e0e49f91b2b766094fbeb547088e30582de8e9fabd65ed7abe", func := "loop.example/g00976/laws.FnExactMatches", spec := "fnExactMatches", recurses := true, apart := false, narrowed := true }
def FnExactMatchesUptoSaid : Prop := fnExactMatchesUptoRow.holds Try.pinned (OpenSpec.upto fnExactMatchesSpec)

/-- 'laws.FnExactQueryAttrs', WHERE WHAT IT READS IS OF BULK AT MOST 1048576: true; the input reads as it did. -/
def fnExactQueryAttrsUptoRow : OpenClaim := { program := "ytgchpdmkphagnaa", sum := "18e633486722c1e0e49f91b2b766094fbeb547088e30582de8e9fabd65ed7abe", func := "loop.example/g00976/laws.FnExactQueryAttrs", spec := "fnExactQueryAttrs", recurses := true, apart := false, narrowed := true }
def FnExactQueryAttrsUptoSaid : Prop := fnExactQueryAttrsUptoRow.holds Try.pinned (OpenSpec.upto fnExactQueryAttrsSpec)

end Rows
end Go.Proofs.Ytgchpdmkphagnaa
