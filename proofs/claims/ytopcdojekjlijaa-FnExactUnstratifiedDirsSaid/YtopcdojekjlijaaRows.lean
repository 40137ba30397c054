/-
  No cell of these rows narrows 'for every input' (looked for: loops, veiled, ifaces, maps, wideKeys, modest, calm, conditions, laid).
  DERIVED. THE GIVEN ROWS OF THIS SEAT. 10 by the template 'for every input the law returns true; each argument reads behind the call as it read before'; 0 by the template 'total and deterministic' (their statements: YtopcdojekjlijaaTotals.lean).
  GIVEN WITH THE SEED: the statements are not yours to turn. If you find one false, say at which input.
  Laid BY PROGRAM, IN A SANDBOX (cutbox-rows.mjs): the forced cells as the released guide's own fill.sh prints them over the translation 03ea5b91c65ec816… (all of the seat's roots in one cut). By AI agents, Wed Nov 11 2026. No macro, syntax, notation, axiom, sorry.
-/
import Derived.Test.YtopcdojekjlijaaChecked
import GoSem.Claim
import GoSem.ClaimJoined
import GoSem.ClaimMapViews
import Derived.JoinedTies
import Derived.KernelRfl
namespace Go.Proofs.Ytopcdojekjlijaa
/- THE CELL 'sum', in the pinned program and in every row, IS THE sha256 OF THE DUMP (.gsa) THAT YtopcdojekjlijaaProg.lean LOADS. Nothing in Lean hashes anything: it is a label: what it is worth is what the hold of that sum in a sandbox is worth. -/
noncomputable def Try.pinned : Pinned := { name := "ytopcdojekjlijaa", sum := "03ea5b91c65ec816079fd5e38479956dfddb3543ccac8a2a685afbadf26679c4", checked := Try.checked }
namespace Rows
def none {H : Type} : Left H := { results := [], args := [] }

/-- 'laws.FnExactMatches': WHATEVER THE INPUT: true; the input reads as it did. -/
def fnExactMatchesSpec : ChangeSpec := { name := "fnExactMatches", fn := fun _ => fun
  | [d1, d2, d3] => { results := [.lit (.bool true)], args := [d1, d2, d3] }
  | _ => none }
def fnExactMatchesRow : OpenClaim := { program := "ytopcdojekjlijaa", sum := "03ea5b91c65ec816079fd5e38479956dfddb3543ccac8a2a685afbadf26679c4", func := "loop.example/g00976/laws.FnExactMatches", spec := "fnExactMatches", recurses := true, apart := false }
def FnExactMatchesSaid : Prop := fnExactMatchesRow.holds Try.pinned (OpenSpec.ofChange fnExactMatchesSpec)

/-- ITS FALSE NEIGHBOUR: 'it returns false'. Refute it at one input. -/
def fnExactMatchesWrong : ChangeSpec := { name := "fnExactMatches", fn := fun _ => fun
  | [d1, d2, d3] => { results := [.lit (.bool false)], args := [d1, d2, d3] }
  | _ => none }
def FnExactMatchesWrongFalsely : Prop := fnExactMatchesRow.holds Try.pinned (OpenSpec.ofChange fnExactMatchesWrong)

/-- 'laws.FnExactRemoveDir': WHATEVER THE INPUT: true; the input reads as it did. -/
def fnExactRemoveDirSpec : ChangeSpec := { name := "fnExactRemoveDir", fn := fun _ => fun
  | [d1, d2] => { results := [.lit (.bool true)], args := [d1, d2] }
  | _ => none }
def fnExactRemoveDirRow : OpenClaim := { program := "ytopcdojekjlijaa", sum := "03ea5b91c65ec816079fd5e38479956dfddb3543ccac8a2a685afbadf26679c4", func := "loop.example/g00976/laws.FnExactRemoveDir", spec := "fnExactRemoveDir", unfollowed := true, recurses := true, apart := false }
def FnExactRemoveDirSaid : Prop := fnExactRemoveDirRow.holds Try.pinned (OpenSpec.ofChange fnExactRemoveDirSpec)

/-- ITS FALSE NEIGHBOUR: 'it returns false'. Refute it at one input. -/
def fnExactRemoveDirWrong : ChangeSpec := { name := "fnExactRemoveDir", fn := fun _ => fun
  | [d1, d2] => { results := [.lit (.bool false)], args := [d1, d2] }
  | _ => none }
def FnExactRemoveDirWrongFalsely : Prop := fnExactRemoveDirRow.holds Try.pinned (OpenSpec.ofChange fnExactRemoveDirWrong)

/-- 'laws.FnExactInvertDiffs': WHATEVER THE INPUT: true; the input reads as it did. -/
def fnExactInvertDiffsSpec : ChangeSpec := { name := "fnExactInvertDiffs", fn := fun _ => fun
  | [d] => { results := [.lit (.bool true)], args := [d] }
  | _ => none }
def fnExactInvertDiffsRow : OpenClaim := { program := "ytopcdojekjlijaa", sum := "03ea5b91c65ec816079fd5e38479956dfddb3543ccac8a2a685afbadf26679c4", func := "loop.example/g00976/laws.FnExactInvertDiffs", spec := "fnExactInvertDiffs", inPlace := ["slices.overlaps[loop.example/g00976/impl.Diff]"], apart := false }
def FnExactInvertDiffsSaid : Prop := fnExactInvertDiffsRow.holds Try.pinned (OpenSpec.ofChange fnExactInvertDiffsSpec)

/-- ITS FALSE NEIGHBOUR: 'it returns false'. Refute it at one input. -/
def fnExactInvertDiffsWrong : ChangeSpec := { name := "fnExactInvertDiffs", fn := fun _ => fun
  | [d] => { results := [.lit (.bool false)], args := [d] }
  | _ => none }
def FnExactInvertDiffsWrongFalsely : Prop := fnExactInvertDiffsRow.holds Try.pinned (OpenSpec.ofChange fnExactInvertDiffsWrong)

/-- 'laws.FnExactSetDir': WHATEVER THE INPUT: true; the input reads as it did. -/
def fnExactSetDirSpec : ChangeSpec := { name := "fnExactSetDir", fn := fun _ => fun
  | [d1, d2] => { results := [.lit (.bool true)], args := [d1, d2] }
  | _ => none }
def fnExactSetDirRow : OpenClaim := { program := "ytopcdojekjlijaa", sum := "03ea5b91c65ec816079fd5e38479956dfddb3543ccac8a2a685afbadf26679c4", func := "loop.example/g00976/laws.FnExactSetDir", spec := "fnExactSetDir", inPlace := ["slices.overlaps[loop.example/g00976/impl.Dir]"], unfollowed := true, recurses := true, apart := false }
def FnExactSetDirSaid : Prop := fnExactSetDirRow.holds Try.pinned (OpenSpec.ofChange fnExactSetDirSpec)

/-- ITS FALSE NEIGHBOUR: 'it returns false'. Refute it at one input. -/
def fnExactSetDirWrong : ChangeSpec := { name := "fnExactSetDir", fn := fun _ => fun
  | [d1, d2] => { results := [.lit (.bool false)], args := [d1, d2] }
  | _ => none }
def FnExactSetDirWrongFalsely : Prop := fnExactSetDirRow.holds Try.pinned (OpenSpec.ofChange fnExactSetDirWrong)

/-- 'laws.FnExactSelectFiles': WHATEVER THE INPUT: true; the input reads as it did. -/
def fnExactSelectFilesSpec : ChangeSpec := { name := "fnExactSelectFiles", fn := fun _ => fun
  | [d1, d2, d3] => { results := [.lit (.bool true)], args := [d1, d2, d3] }
  | _ => none }
def fnExactSelectFilesRow : OpenClaim := { program := "ytopcdojekjlijaa", sum := "03ea5b91c65ec816079fd5e38479956dfddb3543ccac8a2a685afbadf26679c4", func := "loop.example/g00976/laws.FnExactSelectFiles", spec := "fnExactSelectFiles", recurses := true, apart := false }
def FnExactSelectFilesSaid : Prop := fnExactSelectFilesRow.holds Try.pinned (OpenSpec.ofChange fnExactSelectFilesSpec)

/-- ITS FALSE NEIGHBOUR: 'it returns false'. Refute it at one input. -/
def fnExactSelectFilesWrong : ChangeSpec := { name := "fnExactSelectFiles", fn := fun _ => fun
  | [d1, d2, d3] => { results := [.lit (.bool false)], args := [d1, d2, d3] }
  | _ => none }
def FnExactSelectFilesWrongFalsely : Prop := fnExactSelectFilesRow.holds Try.pinned (OpenSpec.ofChange fnExactSelectFilesWrong)

/-- 'laws.FnExactIsStratified': WHATEVER THE INPUT: true; the input reads as it did. -/
def fnExactIsStratifiedSpec : ChangeSpec := { name := "fnExactIsStratified", fn := fun _ => fun
  | [d] => { results := [.lit (.bool true)], args := [d] }
  | _ => none }
def fnExactIsStratifiedRow : OpenClaim := { program := "ytopcdojekjlijaa", sum := "03ea5b91c65ec816079fd5e38479956dfddb3543ccac8a2a685afbadf26679c4", func := "loop.example/g00976/laws.FnExactIsStratified", spec := "fnExactIsStratified", unfollowed := true, recurses := true, apart := false }
def FnExactIsStratifiedSaid : Prop := fnExactIsStratifiedRow.holds Try.pinned (OpenSpec.ofChange fnExactIsStratifiedSpec)

/-- ITS FALSE NEIGHBOUR: 'it returns false'. Refute it at one input. -/
def fnExactIsStratifiedWrong : ChangeSpec := { name := "fnExactIsStratified", fn := fun _ => fun
  | [d] => { results := [.lit (.bool false)], args := [d] }
  | _ => none }
def FnExactIsStratifiedWrongFalsely : Prop := fnExactIsStratifiedRow.holds Try.pinned (OpenSpec.ofChange fnExactIsStratifiedWrong)

/-- 'laws.FnExactStratumOf': WHATEVER THE INPUT: true; the input reads as it did. -/
def fnExactStratumOfSpec : ChangeSpec := { name := "fnExactStratumOf", fn := fun _ => fun
  | [d1, d2] => { results := [.lit (.bool true)], args := [d1, d2] }
  | _ => none }
def fnExactStratumOfRow : OpenClaim := { program := "ytopcdojekjlijaa", sum := "03ea5b91c65ec816079fd5e38479956dfddb3543ccac8a2a685afbadf26679c4", func := "loop.example/g00976/laws.FnExactStratumOf", spec := "fnExactStratumOf", unfollowed := true, recurses := true, apart := false }
def FnExactStratumOfSaid : Prop := fnExactStratumOfRow.holds Try.pinned (OpenSpec.ofChange fnExactStratumOfSpec)

/-- ITS FALSE NEIGHBOUR: 'it returns false'. Refute it at one input. -/
def fnExactStratumOfWrong : ChangeSpec := { name := "fnExactStratumOf", fn := fun _ => fun
  | [d1, d2] => { results := [.lit (.bool false)], args := [d1, d2] }
  | _ => none }
def FnExactStratumOfWrongFalsely : Prop := fnExactStratumOfRow.holds Try.pinned (OpenSpec.ofChange fnExactStratumOfWrong)

/-- 'laws.FnExactMaxStratum': WHATEVER THE INPUT: true; the input reads as it did. -/
def fnExactMaxStratumSpec : ChangeSpec := { name := "fnExactMaxStratum", fn := fun _ => fun
  | [d] => { results := [.lit (.bool true)], args := [d] }
  | _ => none }
def fnExactMaxStratumRow : OpenClaim := { program := "ytopcdojekjlijaa", sum := "03ea5b91c65ec816079fd5e38479956dfddb3543ccac8a2a685afbadf26679c4", func := "loop.example/g00976/laws.FnExactMaxStratum", spec := "fnExactMaxStratum", unfollowed := true, recurses := true, apart := false }
def FnExactMaxStratumSaid : Prop := fnExactMaxStratumRow.holds Try.pinned (OpenSpec.ofChange fnExactMaxStratumSpec)

/-- ITS FALSE NEIGHBOUR: 'it returns false'. Refute it at one input. -/
def fnExactMaxStratumWrong : ChangeSpec := { name := "fnExactMaxStratum", fn := fun _ => fun
  | [d] => { results := [.lit (.bool false)], args := [d] }
  | _ => none }
def FnExactMaxStratumWrongFalsely : Prop := fnExactMaxStratumRow.holds Try.pinned (OpenSpec.ofChange fnExactMaxStratumWrong)

/-- 'laws.FnExactStrata': WHATEVER THE INPUT: true; the input reads as it did. -/
def fnExactStrataSpec : ChangeSpec := { name := "fnExactStrata", fn := fun _ => fun
  | [d] => { results := [.lit (.bool true)], args := [d] }
  | _ => none }
def fnExactStrataRow : OpenClaim := { program := "ytopcdojekjlijaa", sum := "03ea5b91c65ec816079fd5e38479956dfddb3543ccac8a2a685afbadf26679c4", func := "loop.example/g00976/laws.FnExactStrata", spec := "fnExactStrata", unfollowed := true, recurses := true, apart := false }
def FnExactStrataSaid : Prop := fnExactStrataRow.holds Try.pinned (OpenSpec.ofChange fnExactStrataSpec)

/-- ITS FALSE NEIGHBOUR: 'it returns false'. Refute it at one input. -/
def fnExactStrataWrong : ChangeSpec := { name := "fnExactStrata", fn := fun _ => fun
  | [d] => { results := [.lit (.bool false)], args := [d] }
  | _ => none }
def FnExactStrataWrongFalsely : Prop := fnExactStrataRow.holds Try.pinned (OpenSpec.ofChange fnExactStrataWrong)

/-- 'laws.FnExactUnstratifiedDirs': WHATEVER THE INPUT: true; the input reads as it did. -/
def fnExactUnstratifiedDirsSpec : ChangeSpec := { name := "fnExactUnstratifiedDirs", fn := fun _ => fun
  | [d] => { results := [.lit (.bool true)], args := [d] }
  | _ => none }
def fnExactUnstratifiedDirsRow : OpenClaim := { program := "ytopcdojekjlijaa", sum := "03ea5b91c65ec816079fd5e38479956dfddb3543ccac8a2a685afbadf26679c4", func := "loop.example/g00976/laws.FnExactUnstratifiedDirs", spec := "fnExactUnstratifiedDirs", recurses := true, apart := false }
def FnExactUnstratifiedDirsSaid : Prop := fnExactUnstratifiedDirsRow.holds Try.pinned (OpenSpec.ofChange fnExactUnstratifiedDirsSpec)

/-- ITS FALSE NEIGHBOUR: 'it returns false'. Refute it at one input. -/
def fnExactUnstratifiedDirsWrong : ChangeSpec := { name := "fnExactUnstratifiedDirs", fn := fun _ => fun
  | [d] => { results := [.lit (.bool false)], args := [d] }
  | _ => none }
def FnExactUnstratifiedDirsWrongFalsely : Prop := fnExactUnstratifiedDirsRow.holds Try.pinned (OpenSpec.ofChange fnExactUnstratifiedDirsWrong)

/- THE SECOND FORM. 'bulk': how many values and letters a reading holds, each counted each time it is reached (what is shared counts as often as it is met; a slice's spare places count too). A statement '..UptoSaid' is the law's where the arguments, and the package variables that the reading takes, are together of bulk at most 1048576: NARROWER than '..Said'. Prove '..Said' where nothing that the law and all that it calls make is longer than what came in: it says more and counts as full. Else prove '..UptoSaid'. A law counts once. -/
mutual
def uptoBulk {H : Type} : DataW H → Nat
  | .lit (.string bytes) => bytes.length + 1
  | .lit _ => 1
  | .nil => 1
  | .ptr d => uptoBulk d + 1
  | .slice elems spare => uptoBulkAll elems + uptoBulkAll spare + 1
  | .agg parts => uptoBulkAll parts + 1
  | .iface _ d => uptoBulk d + 1
  | .map entries => uptoBulkEntries entries + 1
  | .held _ => 1
def uptoBulkAll {H : Type} : List (DataW H) → Nat
  | [] => 0
  | d :: r => uptoBulk d + uptoBulkAll r
def uptoBulkEntries {H : Type} : List (Lit × DataW H) → Nat
  | [] => 0
  | x :: r => uptoBulkEntry x + uptoBulkEntries r
def uptoBulkEntry {H : Type} : Lit × DataW H → Nat
  | (.string bytes, d) => bytes.length + uptoBulk d + 1
  | (_, d) => uptoBulk d + 1
 end
def uptoSmall : (H : Type) → List (DataW H) → Bool := fun _ ds => decide (uptoBulkAll ds ≤ 1048576)
def OpenSpec.upto (s : _root_.Go.ChangeSpec) : _root_.Go.OpenSpec := { _root_.Go.OpenSpec.ofChange s with cond := some uptoSmall }

/-- 'laws.FnExactMatches', WHERE WHAT IT READS IS OF BULK AT MOST 1048576: true; the input reads as it did. -/
def fnExactMatchesUptoRow : OpenClaim := { program := "ytopcdojekjlijaa", sum := "03ea5b91c65ec816079fd5e38479956dfddb3543ccac8a2a685afbadf26679c4", func := "loop.example/g00976/laws.FnExactMatches", spec := "fnExactMatches", recurses := true, apart := false, narrowed := true }
def FnExactMatchesUptoSaid : Prop := fnExactMatchesUptoRow.holds Try.pinned (OpenSpec.upto fnExactMatchesSpec)

/-- 'laws.FnExactRemoveDir', WHERE WHAT IT READS IS OF BULK AT MOST 1048576: true; the input reads as it did. -/
def fnExactRemoveDirUptoRow : OpenClaim := { program := "ytopcdojekjlijaa", sum := "03ea5b91c65ec816079fd5e38479956dfddb3543ccac8a2a685afbadf26679c4", func := "loop.example/g00976/laws.FnExactRemoveDir", spec := "fnExactRemoveDir", unfollowed := true, recurses := true, apart := false, narrowed := true }
def FnExactRemoveDirUptoSaid : Prop := fnExactRemoveDirUptoRow.holds Try.pinned (OpenSpec.upto fnExactRemoveDirSpec)

/-- 'laws.FnExactInvertDiffs', WHERE WHAT IT READS IS OF BULK AT MOST 1048576: true; the input reads as it did. -/
def fnExactInvertDiffsUptoRow : OpenClaim := { program := "ytopcdojekjlijaa", sum := "03ea5b91c65ec816079fd5e38479956dfddb3543ccac8a2a685afbadf26679c4", func := "loop.example/g00976/laws.FnExactInvertDiffs", spec := "fnExactInvertDiffs", inPlace := ["slices.overlaps[loop.example/g00976/impl.Diff]"], apart := false, narrowed := true }
def FnExactInvertDiffsUptoSaid : Prop := fnExactInvertDiffsUptoRow.holds Try.pinned (OpenSpec.upto fnExactInvertDiffsSpec)

/-- 'laws.FnExactSetDir', WHERE WHAT IT READS IS OF BULK AT MOST 1048576: true; the input reads as it did. -/
def fnExactSetDirUptoRow : OpenClaim := { program := "ytopcdojekjlijaa", sum := "03ea5b91c65ec816079fd5e38479956dfddb3543ccac8a2a685afbadf26679c4", func := "loop.example/g00976/laws.FnExactSetDir", spec := "fnExactSetDir", inPlace := ["slices.overlaps[loop.example/g00976/impl.Dir]"], unfollowed := true, recurses := true, apart := false, narrowed := true }
def FnExactSetDirUptoSaid : Prop := fnExactSetDirUptoRow.holds Try.pinned (OpenSpec.upto fnExactSetDirSpec)

/-- 'laws.FnExactSelectFiles', WHERE WHAT IT READS IS OF BULK AT MOST 1048576: true; the input reads as it did. -/
def fnExactSelectFilesUptoRow : OpenClaim := { program := "ytopcdojekjlijaa", sum := "03ea5b91c65ec816079fd5e38479956dfddb3543ccac8a2a685afbadf26679c4", func := "loop.example/g00976/laws.FnExactSelectFiles", spec := "fnExactSelectFiles", recurses := true, apart := false, narrowed := true }
def FnExactSelectFilesUptoSaid : Prop := fnExactSelectFilesUptoRow.holds Try.pinned (OpenSpec.upto fnExactSelectFilesSpec)

/-- 'laws.FnExactIsStratified', WHERE WHAT IT READS IS OF BULK AT MOST 1048576: true; the input reads as it did. -/
def fnExactIsStratifiedUptoRow : OpenClaim := { program := "ytopcdojekjlijaa", sum := "03ea5b91c65ec816079fd5e38479956dfddb3543ccac8a2a685afbadf26679c4", func := "loop.example/g00976/laws.FnExactIsStratified", spec := "fnExactIsStratified", unfollowed := true, recurses := true, apart := false, narrowed := true }
def FnExactIsStratifiedUptoSaid : Prop := fnExactIsStratifiedUptoRow.holds Try.pinned (OpenSpec.upto fnExactIsStratifiedSpec)

/-- 'laws.FnExactStratumOf', WHERE WHAT IT READS IS OF BULK AT MOST 1048576: true; the input reads as it did. -/
def fnExactStratumOfUptoRow : OpenClaim := { program := "ytopcdojekjlijaa", sum := "03ea5b91c65ec816079fd5e38479956dfddb3543ccac8a2a685afbadf26679c4", func := "loop.example/g00976/laws.FnExactStratumOf", spec := "fnExactStratumOf", unfollowed := true, recurses := true, apart := false, narrowed := true }
def FnExactStratumOfUptoSaid : Prop := fnExactStratumOfUptoRow.holds Try.pinned (OpenSpec.upto fnExactStratumOfSpec)

/-- 'laws.FnExactMaxStratum', WHERE WHAT IT READS IS OF BULK AT MOST 1048576: true; the input reads as it did. -/
def fnExactMaxStratumUptoRow : OpenClaim := { program := "ytopcdojekjlijaa", sum := "03ea5b91c65ec816079fd5e38479956dfddb3543ccac8a2a685afbadf26679c4", func := "loop.example/g00976/laws.FnExactMaxStratum", spec := "fnExactMaxStratum", unfollowed := true, recurses := true, apart := false, narrowed := true }
def FnExactMaxStratumUptoSaid : Prop := fnExactMaxStratumUptoRow.holds Try.pinned (OpenSpec.upto fnExactMaxStratumSpec)

/-- 'laws.FnExactStrata', WHERE WHAT IT READS IS OF BULK AT MOST 1048576: true; the input reads as it did. -/
def fnExactStrataUptoRow : OpenClaim := { program := "ytopcdojekjlijaa", sum := "03ea5b91c65ec816079fd5e38479956dfddb3543ccac8a2a685afbadf26679c4", func := "loop.example/g00976/laws.FnExactStrata", spec := "fnExactStrata", unfollowed := true, recurses := true, apart := false, narrowed := true }
def FnExactStrataUptoSaid : Prop := fnExactStrataUptoRow.holds Try.pinned (OpenSpec.upto fnExactStrataSpec)

/-- 'laws.FnExactUnstratifiedDirs', WHERE WHAT IT READS IS OF BULK AT MOST 1048576: true; the input reads as it did. -/
def fnExactUnstratifiedDirsUptoRow : OpenClaim := { program := "ytopcdojekjlijaa", sum := "03ea5b91c65ec816079fd5e38479956dfddb3543ccac8a2a685afbadf26679c4", func := "loop.example/g00976/laws.FnExactUnstratifiedDirs", spec := "fnExactUnstratifiedDirs", recurses := true, apart := false, narrowed := true }
def FnExactUnstratifiedDirsUptoSaid : Prop := fnExactUnstratifiedDirsUptoRow.holds Try.pinned (OpenSpec.upto fnExactUnstratifiedDirsSpec)

end Rows
end Go.Proofs.Ytopcdojekjlijaa
