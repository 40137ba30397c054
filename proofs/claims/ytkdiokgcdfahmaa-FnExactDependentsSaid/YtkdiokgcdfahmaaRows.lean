/-
  No cell of these rows narrows 'for every input' (looked for: loops, veiled, ifaces, maps, wideKeys, modest, calm, conditions, laid).
  DERIVED. THE GIVEN ROWS OF THIS SEAT. 11 by the template 'for every input the law returns true; each argument reads behind the call as it read before'; 0 by the template 'total and deterministic' (their statements: YtkdiokgcdfahmaaTotals.lean).
  GIVEN WITH THE SEED: the statements are not yours to turn. If you find one false, say at which input.
  Laid BY PROGRAM, IN A SANDBOX (cutbox-rows.mjs): the forced cells as the released guide's own fill.sh prints them over the translation 1e4ace0e199267a4… (all of the seat's roots in one cut). By AI agents, Wed Nov 11 2026. No macro, syntax, notation, axiom, sorry.
-/
import Derived.Test.YtkdiokgcdfahmaaChecked
import GoSem.Claim
import GoSem.ClaimJoined
import GoSem.ClaimMapViews
import Derived.JoinedTies
import Derived.KernelRfl
namespace Go.Proofs.Ytkdiokgcdfahmaa
/- THE CELL 'sum', in the pinned program and in every row, IS THE sha256 OF THE DUMP (.gsa) THAT YtkdiokgcdfahmaaProg.lean LOADS. Nothing in Lean hashes anything: it is a label: what it is worth is what the hold of that sum in a sandbox is worth. -/
noncomputable def Try.pinned : Pinned := { name := "ytkdiokgcdfahmaa", sum := "1e4ace0e199267a45af3d1c3e959bd9f96f38a7a6fbc989122e4f0a665e14ab3", checked := Try.checked }
namespace Rows
def none {H : Type} : Left H := { results := [], args := [] }

/-- 'laws.FnExactQueryDirs': WHATEVER THE INPUT: true; the input reads as it did. -/
def fnExactQueryDirsSpec : ChangeSpec := { name := "fnExactQueryDirs", fn := fun _ => fun
  | [d] => { results := [.lit (.bool true)], args := [d] }
  | _ => none }
def fnExactQueryDirsRow : OpenClaim := { program := "ytkdiokgcdfahmaa", sum := "1e4ace0e199267a45af3d1c3e959bd9f96f38a7a6fbc989122e4f0a665e14ab3", func := "loop.example/g00976/laws.FnExactQueryDirs", spec := "fnExactQueryDirs", recurses := true, apart := false }
def FnExactQueryDirsSaid : Prop := fnExactQueryDirsRow.holds Try.pinned (OpenSpec.ofChange fnExactQueryDirsSpec)

/-- ITS FALSE NEIGHBOUR: 'it returns false'. Refute it at one input. -/
def fnExactQueryDirsWrong : ChangeSpec := { name := "fnExactQueryDirs", fn := fun _ => fun
  | [d] => { results := [.lit (.bool false)], args := [d] }
  | _ => none }
def FnExactQueryDirsWrongFalsely : Prop := fnExactQueryDirsRow.holds Try.pinned (OpenSpec.ofChange fnExactQueryDirsWrong)

/-- 'laws.FnExactSetDir': WHATEVER THE INPUT: true; the input reads as it did. -/
def fnExactSetDirSpec : ChangeSpec := { name := "fnExactSetDir", fn := fun _ => fun
  | [d1, d2] => { results := [.lit (.bool true)], args := [d1, d2] }
  | _ => none }
def fnExactSetDirRow : OpenClaim := { program := "ytkdiokgcdfahmaa", sum := "1e4ace0e199267a45af3d1c3e959bd9f96f38a7a6fbc989122e4f0a665e14ab3", func := "loop.example/g00976/laws.FnExactSetDir", spec := "fnExactSetDir", inPlace := ["slices.overlaps[loop.example/g00976/impl.Dir]"], unfollowed := true, recurses := true, apart := false }
def FnExactSetDirSaid : Prop := fnExactSetDirRow.holds Try.pinned (OpenSpec.ofChange fnExactSetDirSpec)

/-- ITS FALSE NEIGHBOUR: 'it returns false'. Refute it at one input. -/
def fnExactSetDirWrong : ChangeSpec := { name := "fnExactSetDir", fn := fun _ => fun
  | [d1, d2] => { results := [.lit (.bool false)], args := [d1, d2] }
  | _ => none }
def FnExactSetDirWrongFalsely : Prop := fnExactSetDirRow.holds Try.pinned (OpenSpec.ofChange fnExactSetDirWrong)

/-- 'laws.FnDiffIDs': WHATEVER THE INPUT: true; the input reads as it did. -/
def fnDiffIDsSpec : ChangeSpec := { name := "fnDiffIDs", fn := fun _ => fun
  | [d] => { results := [.lit (.bool true)], args := [d] }
  | _ => none }
def fnDiffIDsRow : OpenClaim := { program := "ytkdiokgcdfahmaa", sum := "1e4ace0e199267a45af3d1c3e959bd9f96f38a7a6fbc989122e4f0a665e14ab3", func := "loop.example/g00976/laws.FnDiffIDs", spec := "fnDiffIDs", unfollowed := true, recurses := true, apart := false }
def FnDiffIDsSaid : Prop := fnDiffIDsRow.holds Try.pinned (OpenSpec.ofChange fnDiffIDsSpec)

/-- ITS FALSE NEIGHBOUR: 'it returns false'. Refute it at one input. -/
def fnDiffIDsWrong : ChangeSpec := { name := "fnDiffIDs", fn := fun _ => fun
  | [d] => { results := [.lit (.bool false)], args := [d] }
  | _ => none }
def FnDiffIDsWrongFalsely : Prop := fnDiffIDsRow.holds Try.pinned (OpenSpec.ofChange fnDiffIDsWrong)

/-- 'laws.FnMatchBoolean': WHATEVER THE INPUT: true; the input reads as it did. -/
def fnMatchBooleanSpec : ChangeSpec := { name := "fnMatchBoolean", fn := fun _ => fun
  | [d] => { results := [.lit (.bool true)], args := [d] }
  | _ => none }
def fnMatchBooleanRow : OpenClaim := { program := "ytkdiokgcdfahmaa", sum := "1e4ace0e199267a45af3d1c3e959bd9f96f38a7a6fbc989122e4f0a665e14ab3", func := "loop.example/g00976/laws.FnMatchBoolean", spec := "fnMatchBoolean", recurses := true, apart := false }
def FnMatchBooleanSaid : Prop := fnMatchBooleanRow.holds Try.pinned (OpenSpec.ofChange fnMatchBooleanSpec)

/-- ITS FALSE NEIGHBOUR: 'it returns false'. Refute it at one input. -/
def fnMatchBooleanWrong : ChangeSpec := { name := "fnMatchBoolean", fn := fun _ => fun
  | [d] => { results := [.lit (.bool false)], args := [d] }
  | _ => none }
def FnMatchBooleanWrongFalsely : Prop := fnMatchBooleanRow.holds Try.pinned (OpenSpec.ofChange fnMatchBooleanWrong)

/-- 'laws.FnDirSet': WHATEVER THE INPUT: true; the input reads as it did. -/
def fnDirSetSpec : ChangeSpec := { name := "fnDirSet", fn := fun _ => fun
  | [d] => { results := [.lit (.bool true)], args := [d] }
  | _ => none }
def fnDirSetRow : OpenClaim := { program := "ytkdiokgcdfahmaa", sum := "1e4ace0e199267a45af3d1c3e959bd9f96f38a7a6fbc989122e4f0a665e14ab3", func := "loop.example/g00976/laws.FnDirSet", spec := "fnDirSet", inPlace := ["slices.overlaps[loop.example/g00976/impl.Dir]"], unfollowed := true, recurses := true, apart := false }
def FnDirSetSaid : Prop := fnDirSetRow.holds Try.pinned (OpenSpec.ofChange fnDirSetSpec)

/-- ITS FALSE NEIGHBOUR: 'it returns false'. Refute it at one input. -/
def fnDirSetWrong : ChangeSpec := { name := "fnDirSet", fn := fun _ => fun
  | [d] => { results := [.lit (.bool false)], args := [d] }
  | _ => none }
def FnDirSetWrongFalsely : Prop := fnDirSetRow.holds Try.pinned (OpenSpec.ofChange fnDirSetWrong)

/-- 'laws.FnTransitive': WHATEVER THE INPUT: true; the input reads as it did. -/
def fnTransitiveSpec : ChangeSpec := { name := "fnTransitive", fn := fun _ => fun
  | [d] => { results := [.lit (.bool true)], args := [d] }
  | _ => none }
def fnTransitiveRow : OpenClaim := { program := "ytkdiokgcdfahmaa", sum := "1e4ace0e199267a45af3d1c3e959bd9f96f38a7a6fbc989122e4f0a665e14ab3", func := "loop.example/g00976/laws.FnTransitive", spec := "fnTransitive", recurses := true, apart := false }
def FnTransitiveSaid : Prop := fnTransitiveRow.holds Try.pinned (OpenSpec.ofChange fnTransitiveSpec)

/-- ITS FALSE NEIGHBOUR: 'it returns false'. Refute it at one input. -/
def fnTransitiveWrong : ChangeSpec := { name := "fnTransitive", fn := fun _ => fun
  | [d] => { results := [.lit (.bool false)], args := [d] }
  | _ => none }
def FnTransitiveWrongFalsely : Prop := fnTransitiveRow.holds Try.pinned (OpenSpec.ofChange fnTransitiveWrong)

/-- 'laws.FnExactDependents': WHATEVER THE INPUT: true; the input reads as it did. -/
def fnExactDependentsSpec : ChangeSpec := { name := "fnExactDependents", fn := fun _ => fun
  | [d1, d2] => { results := [.lit (.bool true)], args := [d1, d2] }
  | _ => none }
def fnExactDependentsRow : OpenClaim := { program := "ytkdiokgcdfahmaa", sum := "1e4ace0e199267a45af3d1c3e959bd9f96f38a7a6fbc989122e4f0a665e14ab3", func := "loop.example/g00976/laws.FnExactDependents", spec := "fnExactDependents", recurses := true, apart := false }
def FnExactDependentsSaid : Prop := fnExactDependentsRow.holds Try.pinned (OpenSpec.ofChange fnExactDependentsSpec)

/-- ITS FALSE NEIGHBOUR: 'it returns false'. Refute it at one input. -/
def fnExactDependentsWrong : ChangeSpec := { name := "fnExactDependents", fn := fun _ => fun
  | [d1, d2] => { results := [.lit (.bool false)], args := [d1, d2] }
  | _ => none }
def FnExactDependentsWrongFalsely : Prop := fnExactDependentsRow.holds Try.pinned (OpenSpec.ofChange fnExactDependentsWrong)

/-- 'laws.FnNegationStratum': WHATEVER THE INPUT: true; the input reads as it did. -/
def fnNegationStratumSpec : ChangeSpec := { name := "fnNegationStratum", fn := fun _ => fun
  | [d] => { results := [.lit (.bool true)], args := [d] }
  | _ => none }
def fnNegationStratumRow : OpenClaim := { program := "ytkdiokgcdfahmaa", sum := "1e4ace0e199267a45af3d1c3e959bd9f96f38a7a6fbc989122e4f0a665e14ab3", func := "loop.example/g00976/laws.FnNegationStratum", spec := "fnNegationStratum", unfollowed := true, recurses := true, apart := false }
def FnNegationStratumSaid : Prop := fnNegationStratumRow.holds Try.pinned (OpenSpec.ofChange fnNegationStratumSpec)

/-- ITS FALSE NEIGHBOUR: 'it returns false'. Refute it at one input. -/
def fnNegationStratumWrong : ChangeSpec := { name := "fnNegationStratum", fn := fun _ => fun
  | [d] => { results := [.lit (.bool false)], args := [d] }
  | _ => none }
def FnNegationStratumWrongFalsely : Prop := fnNegationStratumRow.holds Try.pinned (OpenSpec.ofChange fnNegationStratumWrong)

/-- 'laws.FnExactTransitiveDependents': WHATEVER THE INPUT: true; the input reads as it did. -/
def fnExactTransitiveDependentsSpec : ChangeSpec := { name := "fnExactTransitiveDependents", fn := fun _ => fun
  | [d1, d2] => { results := [.lit (.bool true)], args := [d1, d2] }
  | _ => none }
def fnExactTransitiveDependentsRow : OpenClaim := { program := "ytkdiokgcdfahmaa", sum := "1e4ace0e199267a45af3d1c3e959bd9f96f38a7a6fbc989122e4f0a665e14ab3", func := "loop.example/g00976/laws.FnExactTransitiveDependents", spec := "fnExactTransitiveDependents", recurses := true, apart := false }
def FnExactTransitiveDependentsSaid : Prop := fnExactTransitiveDependentsRow.holds Try.pinned (OpenSpec.ofChange fnExactTransitiveDependentsSpec)

/-- ITS FALSE NEIGHBOUR: 'it returns false'. Refute it at one input. -/
def fnExactTransitiveDependentsWrong : ChangeSpec := { name := "fnExactTransitiveDependents", fn := fun _ => fun
  | [d1, d2] => { results := [.lit (.bool false)], args := [d1, d2] }
  | _ => none }
def FnExactTransitiveDependentsWrongFalsely : Prop := fnExactTransitiveDependentsRow.holds Try.pinned (OpenSpec.ofChange fnExactTransitiveDependentsWrong)

/-- 'laws.FnExactRecursiveDirs': WHATEVER THE INPUT: true; the input reads as it did. -/
def fnExactRecursiveDirsSpec : ChangeSpec := { name := "fnExactRecursiveDirs", fn := fun _ => fun
  | [d] => { results := [.lit (.bool true)], args := [d] }
  | _ => none }
def fnExactRecursiveDirsRow : OpenClaim := { program := "ytkdiokgcdfahmaa", sum := "1e4ace0e199267a45af3d1c3e959bd9f96f38a7a6fbc989122e4f0a665e14ab3", func := "loop.example/g00976/laws.FnExactRecursiveDirs", spec := "fnExactRecursiveDirs", recurses := true, apart := false }
def FnExactRecursiveDirsSaid : Prop := fnExactRecursiveDirsRow.holds Try.pinned (OpenSpec.ofChange fnExactRecursiveDirsSpec)

/-- ITS FALSE NEIGHBOUR: 'it returns false'. Refute it at one input. -/
def fnExactRecursiveDirsWrong : ChangeSpec := { name := "fnExactRecursiveDirs", fn := fun _ => fun
  | [d] => { results := [.lit (.bool false)], args := [d] }
  | _ => none }
def FnExactRecursiveDirsWrongFalsely : Prop := fnExactRecursiveDirsRow.holds Try.pinned (OpenSpec.ofChange fnExactRecursiveDirsWrong)

/-- 'laws.FnDependencies': WHATEVER THE INPUT: true; the input reads as it did. -/
def fnDependenciesSpec : ChangeSpec := { name := "fnDependencies", fn := fun _ => fun
  | [d] => { results := [.lit (.bool true)], args := [d] }
  | _ => none }
def fnDependenciesRow : OpenClaim := { program := "ytkdiokgcdfahmaa", sum := "1e4ace0e199267a45af3d1c3e959bd9f96f38a7a6fbc989122e4f0a665e14ab3", func := "loop.example/g00976/laws.FnDependencies", spec := "fnDependencies", recurses := true, apart := false }
def FnDependenciesSaid : Prop := fnDependenciesRow.holds Try.pinned (OpenSpec.ofChange fnDependenciesSpec)

/-- ITS FALSE NEIGHBOUR: 'it returns false'. Refute it at one input. -/
def fnDependenciesWrong : ChangeSpec := { name := "fnDependencies", fn := fun _ => fun
  | [d] => { results := [.lit (.bool false)], args := [d] }
  | _ => none }
def FnDependenciesWrongFalsely : Prop := fnDependenciesRow.holds Try.pinned (OpenSpec.ofChange fnDependenciesWrong)

/- THE SECOND FORM. 'bulk': how many values and letters a reading holds, each counted each time it is reached (what is shared counts as often as it is met; a slice's spare places count too). A statement '..UptoSaid' is the law's where the arguments, and the package variables that the reading takes, are together of bulk at most 1048576: NARROWER than '..Said'. Prove '..Said' where nothing that the law and all that it calls make is longer than what came in: it says more and counts as full. Else prove '..UptoSaid'. A law counts once. -/
mutual
def uptoBulk {H : Type} : DataW H → Nat
  | .lit (.string bytes) => bytes.length + 1
  | .lit _ => 1
  | .nil => 1
  | .ptr d => uptoBulk d + 1
  | .slice elems spare => uptoBulkAll elems + uptoBulkAll spare + 1
  | .agg parts => uptoBulkAll parts + 1
  | .iface _ d => uptoBulk d + 1
  | .map entries => uptoBulkEntries entries + 1
  | .held _ => 1
def uptoBulkAll {H : Type} : List (DataW H) → Nat
  | [] => 0
  | d :: r => uptoBulk d + uptoBulkAll r
def uptoBulkEntries {H : Type} : List (Lit × DataW H) → Nat
  | [] => 0
  | x :: r => uptoBulkEntry x + uptoBulkEntries r
def uptoBulkEntry {H : Type} : Lit × DataW H → Nat
  | (.string bytes, d) => bytes.length + uptoBulk d + 1
  | (_, d) => uptoBulk d + 1
 end
def uptoSmall : (H : Type) → List (DataW H) → Bool := fun _ ds => decide (uptoBulkAll ds ≤ 1048576)
def OpenSpec.upto (s : _root_.Go.ChangeSpec) : _root_.Go.OpenSpec := { _root_.Go.OpenSpec.ofChange s with cond := some uptoSmall }

/-- 'laws.FnExactQueryDirs', WHERE WHAT IT READS IS OF BULK AT MOST 1048576: true; the input reads as it did. -/
def fnExactQueryDirsUptoRow : OpenClaim := { program := "ytkdiokgcdfahmaa", sum := "1e4ace0e199267a45af3d1c3e959bd9f96f38a7a6fbc989122e4f0a665e14ab3", func := "loop.example/g00976/laws.FnExactQueryDirs", spec := "fnExactQueryDirs", recurses := true, apart := false, narrowed := true }
def FnExactQueryDirsUptoSaid : Prop := fnExactQueryDirsUptoRow.holds Try.pinned (OpenSpec.upto fnExactQueryDirsSpec)

/-- 'laws.FnExactSetDir', WHERE WHAT IT READS IS OF BULK AT MOST 1048576: true; the input reads as it did. -/
def fnExactSetDirUptoRow : OpenClaim := { program := "ytkdiokgcdfahmaa", sum := "1e4ace0e199267a45af3d1c3e959bd9f96f38a7a6fbc989122e4f0a665e14ab3", func := "loop.example/g00976/laws.FnExactSetDir", spec := "fnExactSetDir", inPlace := ["slices.overlaps[loop.example/g00976/impl.Dir]"], unfollowed := true, recurses := true, apart := false, narrowed := true }
def FnExactSetDirUptoSaid : Prop := fnExactSetDirUptoRow.holds Try.pinned (OpenSpec.upto fnExactSetDirSpec)

/-- 'laws.FnDiffIDs', WHERE WHAT IT READS IS OF BULK AT MOST 1048576: true; the input reads as it did. -/
def fnDiffIDsUptoRow : OpenClaim := { program := "ytkdiokgcdfahmaa", sum := "1e4ace0e199267a45af3d1c3e959bd9f96f38a7a6fbc989122e4f0a665e14ab3", func := "loop.example/g00976/laws.FnDiffIDs", spec := "fnDiffIDs", unfollowed := true, recurses := true, apart := false, narrowed := true }
def FnDiffIDsUptoSaid : Prop := fnDiffIDsUptoRow.holds Try.pinned (OpenSpec.upto fnDiffIDsSpec)

/-- 'laws.FnMatchBoolean', WHERE WHAT IT READS IS OF BULK AT MOST 1048576: true; the input reads as it did. -/
def fnMatchBooleanUptoRow : OpenClaim := { program := "ytkdiokgcdfahmaa", sum := "1e4ace0e199267a45af3d1c3e959bd9f96f38a7a6fbc989122e4f0a665e14ab3", func := "loop.example/g00976/laws.FnMatchBoolean", spec := "fnMatchBoolean", recurses := true, apart := false, narrowed := true }
def FnMatchBooleanUptoSaid : Prop := fnMatchBooleanUptoRow.holds Try.pinned (OpenSpec.upto fnMatchBooleanSpec)

/-- 'laws.FnDirSet', WHERE WHAT IT READS IS OF BULK AT MOST 1048576: true; the input reads as it did. -/
def fnDirSetUptoRow : OpenClaim := { program := "ytkdiokgcdfahmaa", sum := "1e4ace0e199267a45af3d1c3e959bd9f96f38a7a6fbc989122e4f0a665e14ab3", func := "loop.example/g00976/laws.FnDirSet", spec := "fnDirSet", inPlace := ["slices.overlaps[loop.example/g00976/impl.Dir]"], unfollowed := true, recurses := true, apart := false, narrowed := true }
def FnDirSetUptoSaid : Prop := fnDirSetUptoRow.holds Try.pinned (OpenSpec.upto fnDirSetSpec)

/-- 'laws.FnTransitive', WHERE WHAT IT READS IS OF BULK AT MOST 1048576: true; the input reads as it did. -/
def fnTransitiveUptoRow : OpenClaim := { program := "ytkdiokgcdfahmaa", sum := "1e4ace0e199267a45af3d1c3e959bd9f96f38a7a6fbc989122e4f0a665e14ab3", func := "loop.example/g00976/laws.FnTransitive", spec := "fnTransitive", recurses := true, apart := false, narrowed := true }
def FnTransitiveUptoSaid : Prop := fnTransitiveUptoRow.holds Try.pinned (OpenSpec.upto fnTransitiveSpec)

/-- 'laws.FnExactDependents', WHERE WHAT IT READS IS OF BULK AT MOST 1048576: true; the input reads as it did. -/
def fnExactDependentsUptoRow : OpenClaim := { program := "ytkdiokgcdfahmaa", sum := "1e4ace0e199267a45af3d1c3e959bd9f96f38a7a6fbc989122e4f0a665e14ab3", func := "loop.example/g00976/laws.FnExactDependents", spec := "fnExactDependents", recurses := true, apart := false, narrowed := true }
def FnExactDependentsUptoSaid : Prop := fnExactDependentsUptoRow.holds Try.pinned (OpenSpec.upto fnExactDependentsSpec)

/-- 'laws.FnNegationStratum', WHERE WHAT IT READS IS OF BULK AT MOST 1048576: true; the input reads as it did. -/
def fnNegationStratumUptoRow : OpenClaim := { program := "ytkdiokgcdfahmaa", sum := "1e4ace0e199267a45af3d1c3e959bd9f96f38a7a6fbc989122e4f0a665e14ab3", func := "loop.example/g00976/laws.FnNegationStratum", spec := "fnNegationStratum", unfollowed := true, recurses := true, apart := false, narrowed := true }
def FnNegationStratumUptoSaid : Prop := fnNegationStratumUptoRow.holds Try.pinned (OpenSpec.upto fnNegationStratumSpec)

/-- 'laws.FnExactTransitiveDependents', WHERE WHAT IT READS IS OF BULK AT MOST 1048576: true; the input reads as it did. -/
def fnExactTransitiveDependentsUptoRow : OpenClaim := { program := "ytkdiokgcdfahmaa", sum := "1e4ace0e199267a45af3d1c3e959bd9f96f38a7a6fbc989122e4f0a665e14ab3", func := "loop.example/g00976/laws.FnExactTransitiveDependents", spec := "fnExactTransitiveDependents", recurses := true, apart := false, narrowed := true }
def FnExactTransitiveDependentsUptoSaid : Prop := fnExactTransitiveDependentsUptoRow.holds Try.pinned (OpenSpec.upto fnExactTransitiveDependentsSpec)

/-- 'laws.FnExactRecursiveDirs', WHERE WHAT IT READS IS OF BULK AT MOST 1048576: true; the input reads as it did. -/
def fnExactRecursiveDirsUptoRow : OpenClaim := { program := "ytkdiokgcdfahmaa", sum := "1e4ace0e199267a45af3d1c3e959bd9f96f38a7a6fbc989122e4f0a665e14ab3", func := "loop.example/g00976/laws.FnExactRecursiveDirs", spec := "fnExactRecursiveDirs", recurses := true, apart := false, narrowed := true }
def FnExactRecursiveDirsUptoSaid : Prop := fnExactRecursiveDirsUptoRow.holds Try.pinned (OpenSpec.upto fnExactRecursiveDirsSpec)

/-- 'laws.FnDependencies', WHERE WHAT IT READS IS OF BULK AT MOST 1048576: true; the input reads as it did. -/
def fnDependenciesUptoRow : OpenClaim := { program := "ytkdiokgcdfahmaa", sum := "1e4ace0e199267a45af3d1c3e959bd9f96f38a7a6fbc989122e4f0a665e14ab3", func := "loop.example/g00976/laws.FnDependencies", spec := "fnDependencies", recurses := true, apart := false, narrowed := true }
def FnDependenciesUptoSaid : Prop := fnDependenciesUptoRow.holds Try.pinned (OpenSpec.upto fnDependenciesSpec)

end Rows
end Go.Proofs.Ytkdiokgcdfahmaa
