/-
  No cell of these rows narrows 'for every input' (looked for: loops, veiled, ifaces, maps, wideKeys, modest, calm, conditions, laid).
  DERIVED. THE GIVEN ROWS OF THIS SEAT. 11 by the template 'for every input the law returns true; each argument reads behind the call as it read before'; 0 by the template 'total and deterministic' (their statements: YtbbdeajfjconcaaTotals.lean).
  GIVEN WITH THE SEED: the statements are not yours to turn. If you find one false, say at which input.
  Laid BY PROGRAM, IN A SANDBOX (cutbox-rows.mjs): the forced cells as the released guide's own fill.sh prints them over the translation 83bb18dd52609165… (all of the seat's roots in one cut). By AI agents, Wed Nov 11 2026. No macro, syntax, notation, axiom, sorry.
-/
import Derived.Test.YtbbdeajfjconcaaChecked
import GoSem.Claim
import GoSem.ClaimJoined
import GoSem.ClaimMapViews
import Derived.JoinedTies
import Derived.KernelRfl
namespace Go.Proofs.Ytbbdeajfjconcaa
/- THE CELL 'sum', in the pinned program and in every row, IS THE sha256 OF THE DUMP (.gsa) THAT YtbbdeajfjconcaaProg.lean LOADS. Nothing in Lean hashes anything: it is a label: what it is worth is what the hold of that sum in a sandbox is worth. -/
noncomputable def Try.pinned : Pinned := { name := "ytbbdeajfjconcaa", sum := "83bb18dd526091657ea79757263a3b6b9f2e8fdc7b0b740b1fd2c089ceec14e9", checked := Try.checked }
namespace Rows
def none {H : Type} : Left H := { results := [], args := [] }

/-- 'laws.FnExactOpKeyword': WHATEVER THE INPUT: true; the input reads as it did. -/
def fnExactOpKeywordSpec : ChangeSpec := { name := "fnExactOpKeyword", fn := fun _ => fun
  | [d] => { results := [.lit (.bool true)], args := [d] }
  | _ => none }
def fnExactOpKeywordRow : OpenClaim := { program := "ytbbdeajfjconcaa", sum := "83bb18dd526091657ea79757263a3b6b9f2e8fdc7b0b740b1fd2c089ceec14e9", func := "loop.example/g00976/laws.FnExactOpKeyword", spec := "fnExactOpKeyword", apart := false }
def FnExactOpKeywordSaid : Prop := fnExactOpKeywordRow.holds Try.pinned (OpenSpec.ofChange fnExactOpKeywordSpec)

/-- ITS FALSE NEIGHBOUR: 'it returns false'. Refute it at one input. -/
def fnExactOpKeywordWrong : ChangeSpec := { name := "fnExactOpKeyword", fn := fun _ => fun
  | [d] => { results := [.lit (.bool false)], args := [d] }
  | _ => none }
def FnExactOpKeywordWrongFalsely : Prop := fnExactOpKeywordRow.holds Try.pinned (OpenSpec.ofChange fnExactOpKeywordWrong)

/-- 'laws.FnExactContainsID': WHATEVER THE INPUT: true; the input reads as it did. -/
def fnExactContainsIDSpec : ChangeSpec := { name := "fnExactContainsID", fn := fun _ => fun
  | [d1, d2] => { results := [.lit (.bool true)], args := [d1, d2] }
  | _ => none }
def fnExactContainsIDRow : OpenClaim := { program := "ytbbdeajfjconcaa", sum := "83bb18dd526091657ea79757263a3b6b9f2e8fdc7b0b740b1fd2c089ceec14e9", func := "loop.example/g00976/laws.FnExactContainsID", spec := "fnExactContainsID", apart := false }
def FnExactContainsIDSaid : Prop := fnExactContainsIDRow.holds Try.pinned (OpenSpec.ofChange fnExactContainsIDSpec)

/-- ITS FALSE NEIGHBOUR: 'it returns false'. Refute it at one input. -/
def fnExactContainsIDWrong : ChangeSpec := { name := "fnExactContainsID", fn := fun _ => fun
  | [d1, d2] => { results := [.lit (.bool false)], args := [d1, d2] }
  | _ => none }
def FnExactContainsIDWrongFalsely : Prop := fnExactContainsIDRow.holds Try.pinned (OpenSpec.ofChange fnExactContainsIDWrong)

/-- 'laws.FnExactDiffIDs': WHATEVER THE INPUT: true; the input reads as it did. -/
def fnExactDiffIDsSpec : ChangeSpec := { name := "fnExactDiffIDs", fn := fun _ => fun
  | [d1, d2] => { results := [.lit (.bool true)], args := [d1, d2] }
  | _ => none }
def fnExactDiffIDsRow : OpenClaim := { program := "ytbbdeajfjconcaa", sum := "83bb18dd526091657ea79757263a3b6b9f2e8fdc7b0b740b1fd2c089ceec14e9", func := "loop.example/g00976/laws.FnExactDiffIDs", spec := "fnExactDiffIDs", unfollowed := true, recurses := true, apart := false }
def FnExactDiffIDsSaid : Prop := fnExactDiffIDsRow.holds Try.pinned (OpenSpec.ofChange fnExactDiffIDsSpec)

/-- ITS FALSE NEIGHBOUR: 'it returns false'. Refute it at one input. -/
def fnExactDiffIDsWrong : ChangeSpec := { name := "fnExactDiffIDs", fn := fun _ => fun
  | [d1, d2] => { results := [.lit (.bool false)], args := [d1, d2] }
  | _ => none }
def FnExactDiffIDsWrongFalsely : Prop := fnExactDiffIDsRow.holds Try.pinned (OpenSpec.ofChange fnExactDiffIDsWrong)

/-- 'laws.FnExactCountReferences': WHATEVER THE INPUT: true; the input reads as it did. -/
def fnExactCountReferencesSpec : ChangeSpec := { name := "fnExactCountReferences", fn := fun _ => fun
  | [d1, d2] => { results := [.lit (.bool true)], args := [d1, d2] }
  | _ => none }
def fnExactCountReferencesRow : OpenClaim := { program := "ytbbdeajfjconcaa", sum := "83bb18dd526091657ea79757263a3b6b9f2e8fdc7b0b740b1fd2c089ceec14e9", func := "loop.example/g00976/laws.FnExactCountReferences", spec := "fnExactCountReferences", apart := false }
def FnExactCountReferencesSaid : Prop := fnExactCountReferencesRow.holds Try.pinned (OpenSpec.ofChange fnExactCountReferencesSpec)

/-- ITS FALSE NEIGHBOUR: 'it returns false'. Refute it at one input. -/
def fnExactCountReferencesWrong : ChangeSpec := { name := "fnExactCountReferences", fn := fun _ => fun
  | [d1, d2] => { results := [.lit (.bool false)], args := [d1, d2] }
  | _ => none }
def FnExactCountReferencesWrongFalsely : Prop := fnExactCountReferencesRow.holds Try.pinned (OpenSpec.ofChange fnExactCountReferencesWrong)

/-- 'laws.FnExactIsValidNode': WHATEVER THE INPUT: true; the input reads as it did. -/
def fnExactIsValidNodeSpec : ChangeSpec := { name := "fnExactIsValidNode", fn := fun _ => fun
  | [d1, d2] => { results := [.lit (.bool true)], args := [d1, d2] }
  | _ => none }
def fnExactIsValidNodeRow : OpenClaim := { program := "ytbbdeajfjconcaa", sum := "83bb18dd526091657ea79757263a3b6b9f2e8fdc7b0b740b1fd2c089ceec14e9", func := "loop.example/g00976/laws.FnExactIsValidNode", spec := "fnExactIsValidNode", apart := false }
def FnExactIsValidNodeSaid : Prop := fnExactIsValidNodeRow.holds Try.pinned (OpenSpec.ofChange fnExactIsValidNodeSpec)

/-- ITS FALSE NEIGHBOUR: 'it returns false'. Refute it at one input. -/
def fnExactIsValidNodeWrong : ChangeSpec := { name := "fnExactIsValidNode", fn := fun _ => fun
  | [d1, d2] => { results := [.lit (.bool false)], args := [d1, d2] }
  | _ => none }
def FnExactIsValidNodeWrongFalsely : Prop := fnExactIsValidNodeRow.holds Try.pinned (OpenSpec.ofChange fnExactIsValidNodeWrong)

/-- 'laws.FnExactEqualResults': WHATEVER THE INPUT: true; the input reads as it did. -/
def fnExactEqualResultsSpec : ChangeSpec := { name := "fnExactEqualResults", fn := fun _ => fun
  | [d1, d2] => { results := [.lit (.bool true)], args := [d1, d2] }
  | _ => none }
def fnExactEqualResultsRow : OpenClaim := { program := "ytbbdeajfjconcaa", sum := "83bb18dd526091657ea79757263a3b6b9f2e8fdc7b0b740b1fd2c089ceec14e9", func := "loop.example/g00976/laws.FnExactEqualResults", spec := "fnExactEqualResults", unfollowed := true, recurses := true, apart := false }
def FnExactEqualResultsSaid : Prop := fnExactEqualResultsRow.holds Try.pinned (OpenSpec.ofChange fnExactEqualResultsSpec)

/-- ITS FALSE NEIGHBOUR: 'it returns false'. Refute it at one input. -/
def fnExactEqualResultsWrong : ChangeSpec := { name := "fnExactEqualResults", fn := fun _ => fun
  | [d1, d2] => { results := [.lit (.bool false)], args := [d1, d2] }
  | _ => none }
def FnExactEqualResultsWrongFalsely : Prop := fnExactEqualResultsRow.holds Try.pinned (OpenSpec.ofChange fnExactEqualResultsWrong)

/-- 'laws.FnExactResultIDs': WHATEVER THE INPUT: true; the input reads as it did. -/
def fnExactResultIDsSpec : ChangeSpec := { name := "fnExactResultIDs", fn := fun _ => fun
  | [d1, d2] => { results := [.lit (.bool true)], args := [d1, d2] }
  | _ => none }
def fnExactResultIDsRow : OpenClaim := { program := "ytbbdeajfjconcaa", sum := "83bb18dd526091657ea79757263a3b6b9f2e8fdc7b0b740b1fd2c089ceec14e9", func := "loop.example/g00976/laws.FnExactResultIDs", spec := "fnExactResultIDs", apart := false }
def FnExactResultIDsSaid : Prop := fnExactResultIDsRow.holds Try.pinned (OpenSpec.ofChange fnExactResultIDsSpec)

/-- ITS FALSE NEIGHBOUR: 'it returns false'. Refute it at one input. -/
def fnExactResultIDsWrong : ChangeSpec := { name := "fnExactResultIDs", fn := fun _ => fun
  | [d1, d2] => { results := [.lit (.bool false)], args := [d1, d2] }
  | _ => none }
def FnExactResultIDsWrongFalsely : Prop := fnExactResultIDsRow.holds Try.pinned (OpenSpec.ofChange fnExactResultIDsWrong)

/-- 'laws.FnExactIsValidDiff': WHATEVER THE INPUT: true; the input reads as it did. -/
def fnExactIsValidDiffSpec : ChangeSpec := { name := "fnExactIsValidDiff", fn := fun _ => fun
  | [d] => { results := [.lit (.bool true)], args := [d] }
  | _ => none }
def fnExactIsValidDiffRow : OpenClaim := { program := "ytbbdeajfjconcaa", sum := "83bb18dd526091657ea79757263a3b6b9f2e8fdc7b0b740b1fd2c089ceec14e9", func := "loop.example/g00976/laws.FnExactIsValidDiff", spec := "fnExactIsValidDiff", unfollowed := true, recurses := true, apart := false }
def FnExactIsValidDiffSaid : Prop := fnExactIsValidDiffRow.holds Try.pinned (OpenSpec.ofChange fnExactIsValidDiffSpec)

/-- ITS FALSE NEIGHBOUR: 'it returns false'. Refute it at one input. -/
def fnExactIsValidDiffWrong : ChangeSpec := { name := "fnExactIsValidDiff", fn := fun _ => fun
  | [d] => { results := [.lit (.bool false)], args := [d] }
  | _ => none }
def FnExactIsValidDiffWrongFalsely : Prop := fnExactIsValidDiffRow.holds Try.pinned (OpenSpec.ofChange fnExactIsValidDiffWrong)

/-- 'laws.FnResults': WHATEVER THE INPUT: true; the input reads as it did. -/
def fnResultsSpec : ChangeSpec := { name := "fnResults", fn := fun _ => fun
  | [d] => { results := [.lit (.bool true)], args := [d] }
  | _ => none }
def fnResultsRow : OpenClaim := { program := "ytbbdeajfjconcaa", sum := "83bb18dd526091657ea79757263a3b6b9f2e8fdc7b0b740b1fd2c089ceec14e9", func := "loop.example/g00976/laws.FnResults", spec := "fnResults", unfollowed := true, recurses := true, apart := false }
def FnResultsSaid : Prop := fnResultsRow.holds Try.pinned (OpenSpec.ofChange fnResultsSpec)

/-- ITS FALSE NEIGHBOUR: 'it returns false'. Refute it at one input. -/
def fnResultsWrong : ChangeSpec := { name := "fnResults", fn := fun _ => fun
  | [d] => { results := [.lit (.bool false)], args := [d] }
  | _ => none }
def FnResultsWrongFalsely : Prop := fnResultsRow.holds Try.pinned (OpenSpec.ofChange fnResultsWrong)

/-- 'laws.FnExactEqualDirs': WHATEVER THE INPUT: true; the input reads as it did. -/
def fnExactEqualDirsSpec : ChangeSpec := { name := "fnExactEqualDirs", fn := fun _ => fun
  | [d1, d2] => { results := [.lit (.bool true)], args := [d1, d2] }
  | _ => none }
def fnExactEqualDirsRow : OpenClaim := { program := "ytbbdeajfjconcaa", sum := "83bb18dd526091657ea79757263a3b6b9f2e8fdc7b0b740b1fd2c089ceec14e9", func := "loop.example/g00976/laws.FnExactEqualDirs", spec := "fnExactEqualDirs", unfollowed := true, recurses := true, apart := false }
def FnExactEqualDirsSaid : Prop := fnExactEqualDirsRow.holds Try.pinned (OpenSpec.ofChange fnExactEqualDirsSpec)

/-- ITS FALSE NEIGHBOUR: 'it returns false'. Refute it at one input. -/
def fnExactEqualDirsWrong : ChangeSpec := { name := "fnExactEqualDirs", fn := fun _ => fun
  | [d1, d2] => { results := [.lit (.bool false)], args := [d1, d2] }
  | _ => none }
def FnExactEqualDirsWrongFalsely : Prop := fnExactEqualDirsRow.holds Try.pinned (OpenSpec.ofChange fnExactEqualDirsWrong)

/-- 'laws.FnExactIsValidQuery': WHATEVER THE INPUT: true; the input reads as it did. -/
def fnExactIsValidQuerySpec : ChangeSpec := { name := "fnExactIsValidQuery", fn := fun _ => fun
  | [d] => { results := [.lit (.bool true)], args := [d] }
  | _ => none }
def fnExactIsValidQueryRow : OpenClaim := { program := "ytbbdeajfjconcaa", sum := "83bb18dd526091657ea79757263a3b6b9f2e8fdc7b0b740b1fd2c089ceec14e9", func := "loop.example/g00976/laws.FnExactIsValidQuery", spec := "fnExactIsValidQuery", apart := false }
def FnExactIsValidQuerySaid : Prop := fnExactIsValidQueryRow.holds Try.pinned (OpenSpec.ofChange fnExactIsValidQuerySpec)

/-- ITS FALSE NEIGHBOUR: 'it returns false'. Refute it at one input. -/
def fnExactIsValidQueryWrong : ChangeSpec := { name := "fnExactIsValidQuery", fn := fun _ => fun
  | [d] => { results := [.lit (.bool false)], args := [d] }
  | _ => none }
def FnExactIsValidQueryWrongFalsely : Prop := fnExactIsValidQueryRow.holds Try.pinned (OpenSpec.ofChange fnExactIsValidQueryWrong)

/- THE SECOND FORM. 'bulk': how many values and letters a reading holds, each counted each time it is reached (what is shared counts as often as it is met; a slice's spare places count too). A statement '..UptoSaid' is the law's where the arguments, and the package variables that the reading takes, are together of bulk at most 1048576: NARROWER than '..Said'. Prove '..Said' where nothing that the law and all that it calls make is longer than what came in: it says more and counts as full. Else prove '..UptoSaid'. A law counts once. -/
mutual
def uptoBulk {H : Type} : DataW H → Nat
  | .lit (.string bytes) => bytes.length + 1
  | .lit _ => 1
  | .nil => 1
  | .ptr d => uptoBulk d + 1
  | .slice elems spare => uptoBulkAll elems + uptoBulkAll spare + 1
  | .agg parts => uptoBulkAll parts + 1
  | .iface _ d => uptoBulk d + 1
  | .map entries => uptoBulkEntries entries + 1
  | .held _ => 1
def uptoBulkAll {H : Type} : List (DataW H) → Nat
  | [] => 0
  | d :: r => uptoBulk d + uptoBulkAll r
def uptoBulkEntries {H : Type} : List (Lit × DataW H) → Nat
  | [] => 0
  | x :: r => uptoBulkEntry x + uptoBulkEntries r
def uptoBulkEntry {H : Type} : Lit × DataW H → Nat
  | (.string bytes, d) => bytes.length + uptoBulk d + 1
  | (_, d) => uptoBulk d + 1
 end
def uptoSmall : (H : Type) → List (DataW H) → Bool := fun _ ds => decide (uptoBulkAll ds ≤ 1048576)
def OpenSpec.upto (s : _root_.Go.ChangeSpec) : _root_.Go.OpenSpec := { _root_.Go.OpenSpec.ofChange s with cond := some uptoSmall }

/-- 'laws.FnExactOpKeyword', WHERE WHAT IT READS IS OF BULK AT MOST 1048576: true; the input reads as it did. -/
def fnExactOpKeywordUptoRow : OpenClaim := { program := "ytbbdeajfjconcaa", sum := "83bb18dd526091657ea79757263a3b6b9f2e8fdc7b0b740b1fd2c089ceec14e9", func := "loop.example/g00976/laws.FnExactOpKeyword", spec := "fnExactOpKeyword", apart := false, narrowed := true }
def FnExactOpKeywordUptoSaid : Prop := fnExactOpKeywordUptoRow.holds Try.pinned (OpenSpec.upto fnExactOpKeywordSpec)

/-- 'laws.FnExactContainsID', WHERE WHAT IT READS IS OF BULK AT MOST 1048576: true; the input reads as it did. -/
def fnExactContainsIDUptoRow : OpenClaim := { program := "ytbbdeajfjconcaa", sum := "83bb18dd526091657ea79757263a3b6b9f2e8fdc7b0b740b1fd2c089ceec14e9", func := "loop.example/g00976/laws.FnExactContainsID", spec := "fnExactContainsID", apart := false, narrowed := true }
def FnExactContainsIDUptoSaid : Prop := fnExactContainsIDUptoRow.holds Try.pinned (OpenSpec.upto fnExactContainsIDSpec)

/-- 'laws.FnExactDiffIDs', WHERE WHAT IT READS IS OF BULK AT MOST 1048576: true; the input reads as it did. -/
def fnExactDiffIDsUptoRow : OpenClaim := { program := "ytbbdeajfjconcaa", sum := "83bb18dd526091657ea79757263a3b6b9f2e8fdc7b0b740b1fd2c089ceec14e9", func := "loop.example/g00976/laws.FnExactDiffIDs", spec := "fnExactDiffIDs", unfollowed := true, recurses := true, apart := false, narrowed := true }
def FnExactDiffIDsUptoSaid : Prop := fnExactDiffIDsUptoRow.holds Try.pinned (OpenSpec.upto fnExactDiffIDsSpec)

/-- 'laws.FnExactCountReferences', WHERE WHAT IT READS IS OF BULK AT MOST 1048576: true; the input reads as it did. -/
def fnExactCountReferencesUptoRow : OpenClaim := { program := "ytbbdeajfjconcaa", sum := "83bb18dd526091657ea79757263a3b6b9f2e8fdc7b0b740b1fd2c089ceec14e9", func := "loop.example/g00976/laws.FnExactCountReferences", spec := "fnExactCountReferences", apart := false, narrowed := true }
def FnExactCountReferencesUptoSaid : Prop := fnExactCountReferencesUptoRow.holds Try.pinned (OpenSpec.upto fnExactCountReferencesSpec)

/-- 'laws.FnExactIsValidNode', WHERE WHAT IT READS IS OF BULK AT MOST 1048576: true; the input reads as it did. -/
def fnExactIsValidNodeUptoRow : OpenClaim := { program := "ytbbdeajfjconcaa", sum := "83bb18dd526091657ea79757263a3b6b9f2e8fdc7b0b740b1fd2c089ceec14e9", func := "loop.example/g00976/laws.FnExactIsValidNode", spec := "fnExactIsValidNode", apart := false, narrowed := true }
def FnExactIsValidNodeUptoSaid : Prop := fnExactIsValidNodeUptoRow.holds Try.pinned (OpenSpec.upto fnExactIsValidNodeSpec)

/-- 'laws.FnExactEqualResults', WHERE WHAT IT READS IS OF BULK AT MOST 1048576: true; the input reads as it did. -/
def fnExactEqualResultsUptoRow : OpenClaim := { program := "ytbbdeajfjconcaa", sum := "83bb18dd526091657ea79757263a3b6b9f2e8fdc7b0b740b1fd2c089ceec14e9", func := "loop.example/g00976/laws.FnExactEqualResults", spec := "fnExactEqualResults", unfollowed := true, recurses := true, apart := false, narrowed := true }
def FnExactEqualResultsUptoSaid : Prop := fnExactEqualResultsUptoRow.holds Try.pinned (OpenSpec.upto fnExactEqualResultsSpec)

/-- 'laws.FnExactResultIDs', WHERE WHAT IT READS IS OF BULK AT MOST 1048576: true; the input reads as it did. -/
def fnExactResultIDsUptoRow : OpenClaim := { program := "ytbbdeajfjconcaa", sum := "83bb18dd526091657ea79757263a3b6b9f2e8fdc7b0b740b1fd2c089ceec14e9", func := "loop.example/g00976/laws.FnExactResultIDs", spec := "fnExactResultIDs", apart := false, narrowed := true }
def FnExactResultIDsUptoSaid : Prop := fnExactResultIDsUptoRow.holds Try.pinned (OpenSpec.upto fnExactResultIDsSpec)

/-- 'laws.FnExactIsValidDiff', WHERE WHAT IT READS IS OF BULK AT MOST 1048576: true; the input reads as it did. -/
def fnExactIsValidDiffUptoRow : OpenClaim := { program := "ytbbdeajfjconcaa", sum := "83bb18dd526091657ea79757263a3b6b9f2e8fdc7b0b740b1fd2c089ceec14e9", func := "loop.example/g00976/laws.FnExactIsValidDiff", spec := "fnExactIsValidDiff", unfollowed := true, recurses := true, apart := false, narrowed := true }
def FnExactIsValidDiffUptoSaid : Prop := fnExactIsValidDiffUptoRow.holds Try.pinned (OpenSpec.upto fnExactIsValidDiffSpec)

/-- 'laws.FnResults', WHERE WHAT IT READS IS OF BULK AT MOST 1048576: true; the input reads as it did. -/
def fnResultsUptoRow : OpenClaim := { program := "ytbbdeajfjconcaa", sum := "83bb18dd526091657ea79757263a3b6b9f2e8fdc7b0b740b1fd2c089ceec14e9", func := "loop.example/g00976/laws.FnResults", spec := "fnResults", unfollowed := true, recurses := true, apart := false, narrowed := true }
def FnResultsUptoSaid : Prop := fnResultsUptoRow.holds Try.pinned (OpenSpec.upto fnResultsSpec)

/-- 'laws.FnExactEqualDirs', WHERE WHAT IT READS IS OF BULK AT MOST 1048576: true; the input reads as it did. -/
def fnExactEqualDirsUptoRow : OpenClaim := { program := "ytbbdeajfjconcaa", sum := "83bb18dd526091657ea79757263a3b6b9f2e8fdc7b0b740b1fd2c089ceec14e9", func := "loop.example/g00976/laws.FnExactEqualDirs", spec := "fnExactEqualDirs", unfollowed := true, recurses := true, apart := false, narrowed := true }
def FnExactEqualDirsUptoSaid : Prop := fnExactEqualDirsUptoRow.holds Try.pinned (OpenSpec.upto fnExactEqualDirsSpec)

/-- 'laws.FnExactIsValidQuery', WHERE WHAT IT READS IS OF BULK AT MOST 1048576: true; the input reads as it did. -/
def fnExactIsValidQueryUptoRow : OpenClaim := { program := "ytbbdeajfjconcaa", sum := "83bb18dd526091657ea79757263a3b6b9f2e8fdc7b0b740b1fd2c089ceec14e9", func := "loop.example/g00976/laws.FnExactIsValidQuery", spec := "fnExactIsValidQuery", apart := false, narrowed := true }
def FnExactIsValidQueryUptoSaid : Prop := fnExactIsValidQueryUptoRow.holds Try.pinned (OpenSpec.upto fnExactIsValidQuerySpec)

end Rows
end Go.Proofs.Ytbbdeajfjconcaa
