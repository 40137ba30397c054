/-
  No cell of these rows narrows 'for every input' (looked for: loops, veiled, ifaces, maps, wideKeys, modest, calm, conditions, laid).
  DERIVED. THE GIVEN ROWS OF THIS SEAT. 6 by the template 'for every input the law returns true; each argument reads behind the call as it read before'; 0 by the template 'total and deterministic' (their statements: YtgekgokkbakcmaaTotals.lean).
  GIVEN WITH THE SEED: the statements are not yours to turn. If you find one false, say at which input.
  Laid BY PROGRAM, IN A SANDBOX (cutbox-rows.mjs): the forced cells as the released guide's own fill.sh prints them over the translation c0e7c50c720ca487… (all of the seat's roots in one cut). By AI agents, Wed Nov 11 2026. No macro, syntax, notation, axiom, sorry.
-/
import Derived.Test.YtgekgokkbakcmaaChecked
import GoSem.Claim
import GoSem.ClaimJoined
import GoSem.ClaimMapViews
import Derived.JoinedTies
import Derived.KernelRfl
namespace Go.Proofs.Ytgekgokkbakcmaa
/- THE CELL 'sum', in the pinned program and in every row, IS THE sha256 OF THE DUMP (.gsa) THAT YtgekgokkbakcmaaProg.lean LOADS. Nothing in Lean hashes anything: it is a label: what it is worth is what the hold of that sum in a sandbox is worth. -/
noncomputable def Try.pinned : Pinned := { name := "ytgekgokkbakcmaa", sum := "c0e7c50c720ca4872a39a8f2af436b17ecc656463ad5d87eb9ed4390e749201d", checked := Try.checked }
namespace Rows
def none {H : Type} : Left H := { results := [], args := [] }

/-- 'laws.FnInvertTwice': WHATEVER THE INPUT: true; the input reads as it did. -/
def fnInvertTwiceSpec : ChangeSpec := { name := "fnInvertTwice", fn := fun _ => fun
  | [d] => { results := [.lit (.bool true)], args := [d] }
  | _ => none }
def fnInvertTwiceRow : OpenClaim := { program := "ytgekgokkbakcmaa", sum := "c0e7c50c720ca4872a39a8f2af436b17ecc656463ad5d87eb9ed4390e749201d", func := "loop.example/g00976/laws.FnInvertTwice", spec := "fnInvertTwice", inPlace := ["slices.overlaps[loop.example/g00976/impl.Diff]"], apart := false }
def FnInvertTwiceSaid : Prop := fnInvertTwiceRow.holds Try.pinned (OpenSpec.ofChange fnInvertTwiceSpec)

/-- ITS FALSE NEIGHBOUR: 'it returns false'. Refute it at one input. -/
def fnInvertTwiceWrong : ChangeSpec := { name := "fnInvertTwice", fn := fun _ => fun
  | [d] => { results := [.lit (.bool false)], args := [d] }
  | _ => none }
def FnInvertTwiceWrongFalsely : Prop := fnInvertTwiceRow.holds Try.pinned (OpenSpec.ofChange fnInvertTwiceWrong)

/-- 'laws.FnExactInvertDiffs': WHATEVER THE INPUT: true; the input reads as it did. -/
def fnExactInvertDiffsSpec : ChangeSpec := { name := "fnExactInvertDiffs", fn := fun _ => fun
  | [d] => { results := [.lit (.bool true)], args := [d] }
  | _ => none }
def fnExactInvertDiffsRow : OpenClaim := { program := "ytgekgokkbakcmaa", sum := "c0e7c50c720ca4872a39a8f2af436b17ecc656463ad5d87eb9ed4390e749201d", func := "loop.example/g00976/laws.FnExactInvertDiffs", spec := "fnExactInvertDiffs", inPlace := ["slices.overlaps[loop.example/g00976/impl.Diff]"], apart := false }
def FnExactInvertDiffsSaid : Prop := fnExactInvertDiffsRow.holds Try.pinned (OpenSpec.ofChange fnExactInvertDiffsSpec)

/-- ITS FALSE NEIGHBOUR: 'it returns false'. Refute it at one input. -/
def fnExactInvertDiffsWrong : ChangeSpec := { name := "fnExactInvertDiffs", fn := fun _ => fun
  | [d] => { results := [.lit (.bool false)], args := [d] }
  | _ => none }
def FnExactInvertDiffsWrongFalsely : Prop := fnExactInvertDiffsRow.holds Try.pinned (OpenSpec.ofChange fnExactInvertDiffsWrong)

/-- 'laws.FnExactRemoveDir': WHATEVER THE INPUT: true; the input reads as it did. -/
def fnExactRemoveDirSpec : ChangeSpec := { name := "fnExactRemoveDir", fn := fun _ => fun
  | [d1, d2] => { results := [.lit (.bool true)], args := [d1, d2] }
  | _ => none }
def fnExactRemoveDirRow : OpenClaim := { program := "ytgekgokkbakcmaa", sum := "c0e7c50c720ca4872a39a8f2af436b17ecc656463ad5d87eb9ed4390e749201d", func := "loop.example/g00976/laws.FnExactRemoveDir", spec := "fnExactRemoveDir", unfollowed := true, recurses := true, apart := false }
def FnExactRemoveDirSaid : Prop := fnExactRemoveDirRow.holds Try.pinned (OpenSpec.ofChange fnExactRemoveDirSpec)

/-- ITS FALSE NEIGHBOUR: 'it returns false'. Refute it at one input. -/
def fnExactRemoveDirWrong : ChangeSpec := { name := "fnExactRemoveDir", fn := fun _ => fun
  | [d1, d2] => { results := [.lit (.bool false)], args := [d1, d2] }
  | _ => none }
def FnExactRemoveDirWrongFalsely : Prop := fnExactRemoveDirRow.holds Try.pinned (OpenSpec.ofChange fnExactRemoveDirWrong)

/-- 'laws.FnExactSetDir': WHATEVER THE INPUT: true; the input reads as it did. -/
def fnExactSetDirSpec : ChangeSpec := { name := "fnExactSetDir", fn := fun _ => fun
  | [d1, d2] => { results := [.lit (.bool true)], args := [d1, d2] }
  | _ => none }
def fnExactSetDirRow : OpenClaim := { program := "ytgekgokkbakcmaa", sum := "c0e7c50c720ca4872a39a8f2af436b17ecc656463ad5d87eb9ed4390e749201d", func := "loop.example/g00976/laws.FnExactSetDir", spec := "fnExactSetDir", inPlace := ["slices.overlaps[loop.example/g00976/impl.Dir]"], unfollowed := true, recurses := true, apart := false }
def FnExactSetDirSaid : Prop := fnExactSetDirRow.holds Try.pinned (OpenSpec.ofChange fnExactSetDirSpec)

/-- ITS FALSE NEIGHBOUR: 'it returns false'. Refute it at one input. -/
def fnExactSetDirWrong : ChangeSpec := { name := "fnExactSetDir", fn := fun _ => fun
  | [d1, d2] => { results := [.lit (.bool false)], args := [d1, d2] }
  | _ => none }
def FnExactSetDirWrongFalsely : Prop := fnExactSetDirRow.holds Try.pinned (OpenSpec.ofChange fnExactSetDirWrong)

/-- 'laws.FnMatchBoolean': WHATEVER THE INPUT: true; the input reads as it did. -/
def fnMatchBooleanSpec : ChangeSpec := { name := "fnMatchBoolean", fn := fun _ => fun
  | [d] => { results := [.lit (.bool true)], args := [d] }
  | _ => none }
def fnMatchBooleanRow : OpenClaim := { program := "ytgekgokkbakcmaa", sum := "c0e7c50c720ca4872a39a8f2af436b17ecc656463ad5d87eb9ed4390e749201d", func := "loop.example/g00976/laws.FnMatchBoolean", spec := "fnMatchBoolean", recurses := true, apart := false }
def FnMatchBooleanSaid : Prop := fnMatchBooleanRow.holds Try.pinned (OpenSpec.ofChange fnMatchBooleanSpec)

/-- ITS FALSE NEIGHBOUR: 'it returns false'. Refute it at one input. -/
def fnMatchBooleanWrong : ChangeSpec := { name := "fnMatchBoolean", fn := fun _ => fun
  | [d] => { results := [.lit (.bool false)], args := [d] }
  | _ => none }
def FnMatchBooleanWrongFalsely : Prop := fnMatchBooleanRow.holds Try.pinned (OpenSpec.ofChange fnMatchBooleanWrong)

/-- 'laws.FnDirSet': WHATEVER THE INPUT: true; the input reads as it did. -/
def fnDirSetSpec : ChangeSpec := { name := "fnDirSet", fn := fun _ => fun
  | [d] => { results := [.lit (.bool true)], args := [d] }
  | _ => none }
def fnDirSetRow : OpenClaim := { program := "ytgekgokkbakcmaa", sum := "c0e7c50c720ca4872a39a8f2af436b17ecc656463ad5d87eb9ed4390e749201d", func := "loop.example/g00976/laws.FnDirSet", spec := "fnDirSet", inPlace := ["slices.overlaps[loop.example/g00976/impl.Dir]"], unfollowed := true, recurses := true, apart := false }
def FnDirSetSaid : Prop := fnDirSetRow.holds Try.pinned (OpenSpec.ofChange fnDirSetSpec)

/-- ITS FALSE NEIGHBOUR: 'it returns false'. Refute it at one input. -/
def fnDirSetWrong : ChangeSpec := { name := "fnDirSet", fn := fun _ => fun
  | [d] => { results := [.lit (.bool false)], args := [d] }
  | _ => none }
def FnDirSetWrongFalsely : Prop := fnDirSetRow.holds Try.pinned (OpenSpec.ofChange fnDirSetWrong)

/- THE SECOND FORM. 'bulk': how many values and letters a reading holds, each counted each time it is reached (what is shared counts as often as it is met; a slice's spare places count too). A statement '..UptoSaid' is the law's where the arguments, and the package variables that the reading takes, are together of bulk at most 1048576: NARROWER than '..Said'. Prove '..Said' where nothing that the law and all that it calls make is longer than what came in: it says more and counts as full. Else prove '..UptoSaid'. A law counts once. -/
mutual
def uptoBulk {H : Type} : DataW H → Nat
  | .lit (.string bytes) => bytes.length + 1
  | .lit _ => 1
  | .nil => 1
  | .ptr d => uptoBulk d + 1
  | .slice elems spare => uptoBulkAll elems + uptoBulkAll spare + 1
  | .agg parts => uptoBulkAll parts + 1
  | .iface _ d => uptoBulk d + 1
  | .map entries => uptoBulkEntries entries + 1
  | .held _ => 1
def uptoBulkAll {H : Type} : List (DataW H) → Nat
  | [] => 0
  | d :: r => uptoBulk d + uptoBulkAll r
def uptoBulkEntries {H : Type} : List (Lit × DataW H) → Nat
  | [] => 0
  | x :: r => uptoBulkEntry x + uptoBulkEntries r
def uptoBulkEntry {H : Type} : Lit × DataW H → Nat
  | (.string bytes, d) => bytes.length + uptoBulk d + 1
  | (_, d) => uptoBulk d + 1
 end
def uptoSmall : (H : Type) → List (DataW H) → Bool := fun _ ds => decide (uptoBulkAll ds ≤ 1048576)
def OpenSpec.upto (s : _root_.Go.ChangeSpec) : _root_.Go.OpenSpec := { _root_.Go.OpenSpec.ofChange s with cond := some uptoSmall }

/-- 'laws.FnInvertTwice', WHERE WHAT IT READS IS OF BULK AT MOST 1048576: true; the input reads as it did. -/
def fnInvertTwiceUptoRow : OpenClaim := { program := "ytgekgokkbakcmaa", sum := "c0e7c50c720ca4872a39a8f2af436b17ecc656463ad5d87eb9ed4390e749201d", func := "loop.example/g00976/laws.FnInvertTwice", spec := "fnInvertTwice", inPlace := ["slices.overlaps[loop.example/g00976/impl.Diff]"], apart := false, narrowed := true }
def FnInvertTwiceUptoSaid : Prop := fnInvertTwiceUptoRow.holds Try.pinned (OpenSpec.upto fnInvertTwiceSpec)

/-- 'laws.FnExactInvertDiffs', WHERE WHAT IT READS IS OF BULK AT MOST 1048576: true; the input reads as it did. -/
def fnExactInvertDiffsUptoRow : OpenClaim := { program := "ytgekgokkbakcmaa", sum := "c0e7c50c720ca4872a39a8f2af436b17ecc656463ad5d87eb9ed4390e749201d", func := "loop.example/g00976/laws.FnExactInvertDiffs", spec := "fnExactInvertDiffs", inPlace := ["slices.overlaps[loop.example/g00976/impl.Diff]"], apart := false, narrowed := true }
def FnExactInvertDiffsUptoSaid : Prop := fnExactInvertDiffsUptoRow.holds Try.pinned (OpenSpec.upto fnExactInvertDiffsSpec)

/-- 'laws.FnExactRemoveDir', WHERE WHAT IT READS IS OF BULK AT MOST 1048576: true; the input reads as it did. -/
def fnExactRemoveDirUptoRow : OpenClaim := { program := "ytgekgokkbakcmaa", sum := "c0e7c50c720ca4872a39a8f2af436b17ecc656463ad5d87eb9ed4390e749201d", func := "loop.example/g00976/laws.FnExactRemoveDir", spec := "fnExactRemoveDir", unfollowed := true, recurses := true, apart := false, narrowed := true }
def FnExactRemoveDirUptoSaid : Prop := fnExactRemoveDirUptoRow.holds Try.pinned (OpenSpec.upto fnExactRemoveDirSpec)

/-- 'laws.FnExactSetDir', WHERE WHAT IT READS IS OF BULK AT MOST 1048576: true; the input reads as it did. -/
def fnExactSetDirUptoRow : OpenClaim := { program := "ytgekgokkbakcmaa", sum := "c0e7c50c720ca4872a39a8f2af436b17ecc656463ad5d87eb9ed4390e749201d", func := "loop.example/g00976/laws.FnExactSetDir", spec := "fnExactSetDir", inPlace := ["slices.overlaps[loop.example/g00976/impl.Dir]"], unfollowed := true, recurses := true, apart := false, narrowed := true }
def FnExactSetDirUptoSaid : Prop := fnExactSetDirUptoRow.holds Try.pinned (OpenSpec.upto fnExactSetDirSpec)

/-- 'laws.FnMatchBoolean', WHERE WHAT IT READS IS OF BULK AT MOST 1048576: true; the input reads as it did. -/
def fnMatchBooleanUptoRow : OpenClaim := { program := "ytgekgokkbakcmaa", sum := "c0e7c50c720ca4872a39a8f2af436b17ecc656463ad5d87eb9ed4390e749201d", func := "loop.example/g00976/laws.FnMatchBoolean", spec := "fnMatchBoolean", recurses := true, apart := false, narrowed := true }
def FnMatchBooleanUptoSaid : Prop := fnMatchBooleanUptoRow.holds Try.pinned (OpenSpec.upto fnMatchBooleanSpec)

/-- 'laws.FnDirSet', WHERE WHAT IT READS IS OF BULK AT MOST 1048576: true; the input reads as it did. -/
def fnDirSetUptoRow : OpenClaim := { program := "ytgekgokkbakcmaa", sum := "c0e7c50c720ca4872a39a8f2af436b17ecc656463ad5d87eb9ed4390e749201d", func := "loop.example/g00976/laws.FnDirSet", spec := "fnDirSet", inPlace := ["slices.overlaps[loop.example/g00976/impl.Dir]"], unfollowed := true, recurses := true, apart := false, narrowed := true }
def FnDirSetUptoSaid : Prop := fnDirSetUptoRow.holds Try.pinned (OpenSpec.upto fnDirSetSpec)

end Rows
end Go.Proofs.Ytgekgokkbakcmaa
