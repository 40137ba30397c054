/-
  No cell of these rows narrows 'for every input' (looked for: loops, veiled, ifaces, maps, wideKeys, modest, calm, conditions, laid).
  DERIVED. THE GIVEN ROWS OF THIS SEAT. 4 by the template 'for every input the law returns true; each argument reads behind the call as it read before'; 0 by the template 'total and deterministic' (their statements: YtopcdojekjlijaaGreatTotals.lean).
  GIVEN WITH THE SEED: the statements are not yours to turn. If you find one false, say at which input.
  Laid BY PROGRAM, IN A SANDBOX (cutbox-rows.mjs): the forced cells as the released guide's own fill.sh prints them over the translation 4422022e7eafd788… (all of the seat's roots in one cut). By AI agents, Wed Nov 11 2026. No macro, syntax, notation, axiom, sorry.
-/
import Derived.Test.YtopcdojekjlijaaGreatChecked
import GoSem.Claim
import GoSem.ClaimJoined
import GoSem.ClaimMapViews
import Derived.JoinedTies
import Derived.KernelRfl
namespace Go.Proofs.YtopcdojekjlijaaGreat
/- THE CELL 'sum', in the pinned program and in every row, IS THE sha256 OF THE DUMP (.gsa) THAT YtopcdojekjlijaaGreatProg.lean LOADS. Nothing in Lean hashes anything: it is a label: what it is worth is what the hold of that sum in a sandbox is worth. -/
noncomputable def Tryz.pinned : Pinned := { name := "ytopcdojekjlijaagreat", sum := "4422022e7eafd7886ca6aaf0f49d9790cd58570f25b5b2ed0e4fbadcefaeaf40", checked := Tryz.checked }
namespace Rows
def none {H : Type} : Left H := { results := [], args := [] }

/-- 'laws.FnExactEvaluationPasses': WHATEVER THE INPUT: true; the input reads as it did. -/
def fnExactEvaluationPassesSpec : ChangeSpec := { name := "fnExactEvaluationPasses", fn := fun _ => fun
  | [d1, d2] => { results := [.lit (.bool true)], args := [d1, d2] }
  | _ => none }
def fnExactEvaluationPassesRow : OpenClaim := { program := "ytopcdojekjlijaagreat", sum := "4422022e7eafd7886ca6aaf0f49d9790cd58570f25b5b2ed0e4fbadcefaeaf40", func := "loop.example/g00976/laws.FnExactEvaluationPasses", spec := "fnExactEvaluationPasses", unfollowed := true, recurses := true, apart := false }
def FnExactEvaluationPassesSaid : Prop := fnExactEvaluationPassesRow.holds Tryz.pinned (OpenSpec.ofChange fnExactEvaluationPassesSpec)

/-- ITS FALSE NEIGHBOUR: 'it returns false'. Refute it at one input. -/
def fnExactEvaluationPassesWrong : ChangeSpec := { name := "fnExactEvaluationPasses", fn := fun _ => fun
  | [d1, d2] => { results := [.lit (.bool false)], args := [d1, d2] }
  | _ => none }
def FnExactEvaluationPassesWrongFalsely : Prop := fnExactEvaluationPassesRow.holds Tryz.pinned (OpenSpec.ofChange fnExactEvaluationPassesWrong)

/-- 'laws.FnExactIsFixpoint': WHATEVER THE INPUT: true; the input reads as it did. -/
def fnExactIsFixpointSpec : ChangeSpec := { name := "fnExactIsFixpoint", fn := fun _ => fun
  | [d1, d2, d3] => { results := [.lit (.bool true)], args := [d1, d2, d3] }
  | _ => none }
def fnExactIsFixpointRow : OpenClaim := { program := "ytopcdojekjlijaagreat", sum := "4422022e7eafd7886ca6aaf0f49d9790cd58570f25b5b2ed0e4fbadcefaeaf40", func := "loop.example/g00976/laws.FnExactIsFixpoint", spec := "fnExactIsFixpoint", unfollowed := true, recurses := true, apart := false }
def FnExactIsFixpointSaid : Prop := fnExactIsFixpointRow.holds Tryz.pinned (OpenSpec.ofChange fnExactIsFixpointSpec)

/-- ITS FALSE NEIGHBOUR: 'it returns false'. Refute it at one input. -/
def fnExactIsFixpointWrong : ChangeSpec := { name := "fnExactIsFixpoint", fn := fun _ => fun
  | [d1, d2, d3] => { results := [.lit (.bool false)], args := [d1, d2, d3] }
  | _ => none }
def FnExactIsFixpointWrongFalsely : Prop := fnExactIsFixpointRow.holds Tryz.pinned (OpenSpec.ofChange fnExactIsFixpointWrong)

/-- 'laws.FnExactEvaluate': WHATEVER THE INPUT: true; the input reads as it did. -/
def fnExactEvaluateSpec : ChangeSpec := { name := "fnExactEvaluate", fn := fun _ => fun
  | [d1, d2] => { results := [.lit (.bool true)], args := [d1, d2] }
  | _ => none }
def fnExactEvaluateRow : OpenClaim := { program := "ytopcdojekjlijaagreat", sum := "4422022e7eafd7886ca6aaf0f49d9790cd58570f25b5b2ed0e4fbadcefaeaf40", func := "loop.example/g00976/laws.FnExactEvaluate", spec := "fnExactEvaluate", unfollowed := true, recurses := true, apart := false }
def FnExactEvaluateSaid : Prop := fnExactEvaluateRow.holds Tryz.pinned (OpenSpec.ofChange fnExactEvaluateSpec)

/-- ITS FALSE NEIGHBOUR: 'it returns false'. Refute it at one input. -/
def fnExactEvaluateWrong : ChangeSpec := { name := "fnExactEvaluate", fn := fun _ => fun
  | [d1, d2] => { results := [.lit (.bool false)], args := [d1, d2] }
  | _ => none }
def FnExactEvaluateWrongFalsely : Prop := fnExactEvaluateRow.holds Tryz.pinned (OpenSpec.ofChange fnExactEvaluateWrong)

/-- 'laws.FnExactDirContents': WHATEVER THE INPUT: true; the input reads as it did. -/
def fnExactDirContentsSpec : ChangeSpec := { name := "fnExactDirContents", fn := fun _ => fun
  | [d1, d2, d3] => { results := [.lit (.bool true)], args := [d1, d2, d3] }
  | _ => none }
def fnExactDirContentsRow : OpenClaim := { program := "ytopcdojekjlijaagreat", sum := "4422022e7eafd7886ca6aaf0f49d9790cd58570f25b5b2ed0e4fbadcefaeaf40", func := "loop.example/g00976/laws.FnExactDirContents", spec := "fnExactDirContents", unfollowed := true, recurses := true, apart := false }
def FnExactDirContentsSaid : Prop := fnExactDirContentsRow.holds Tryz.pinned (OpenSpec.ofChange fnExactDirContentsSpec)

/-- ITS FALSE NEIGHBOUR: 'it returns false'. Refute it at one input. -/
def fnExactDirContentsWrong : ChangeSpec := { name := "fnExactDirContents", fn := fun _ => fun
  | [d1, d2, d3] => { results := [.lit (.bool false)], args := [d1, d2, d3] }
  | _ => none }
def FnExactDirContentsWrongFalsely : Prop := fnExactDirContentsRow.holds Tryz.pinned (OpenSpec.ofChange fnExactDirContentsWrong)

/- THE SECOND FORM. 'bulk': how many values and letters a reading holds, each counted each time it is reached (what is shared counts as often as it is met; a slice's spare places count too). A statement '..UptoSaid' is the law's where the arguments, and the package variables that the reading takes, are together of bulk at most 1048576: NARROWER than '..Said'. Prove '..Said' where nothing that the law and all that it calls make is longer than what came in: it says more and counts as full. Else prove '..UptoSaid'. A law counts once. -/
mutual
def uptoBulk {H : Type} : DataW H → Nat
  | .lit (.string bytes) => bytes.length + 1
  | .lit _ => 1
  | .nil => 1
  | .ptr d => uptoBulk d + 1
  | .slice elems spare => uptoBulkAll elems + uptoBulkAll spare + 1
  | .agg parts => uptoBulkAll parts + 1
  | .iface _ d => uptoBulk d + 1
  | .map entries => uptoBulkEntries entries + 1
  | .held _ => 1
def uptoBulkAll {H : Type} : List (DataW H) → Nat
  | [] => 0
  | d :: r => uptoBulk d + uptoBulkAll r
def uptoBulkEntries {H : Type} : List (Lit × DataW H) → Nat
  | [] => 0
  | x :: r => uptoBulkEntry x + uptoBulkEntries r
def uptoBulkEntry {H : Type} : Lit × DataW H → Nat
  | (.string bytes, d) => bytes.length + uptoBulk d + 1
  | (_, d) => uptoBulk d + 1
 end
def uptoSmall : (H : Type) → List (DataW H) → Bool := fun _ ds => decide (uptoBulkAll ds ≤ 1048576)
def OpenSpec.upto (s : _root_.Go.ChangeSpec) : _root_.Go.OpenSpec := { _root_.Go.OpenSpec.ofChange s with cond := some uptoSmall }

/-- 'laws.FnExactEvaluationPasses', WHERE WHAT IT READS IS OF BULK AT MOST 1048576: true; the input reads as it did. -/
def fnExactEvaluationPassesUptoRow : OpenClaim := { program := "ytopcdojekjlijaagreat", sum := "4422022e7eafd7886ca6aaf0f49d9790cd58570f25b5b2ed0e4fbadcefaeaf40", func := "loop.example/g00976/laws.FnExactEvaluationPasses", spec := "fnExactEvaluationPasses", unfollowed := true, recurses := true, apart := false, narrowed := true }
def FnExactEvaluationPassesUptoSaid : Prop := fnExactEvaluationPassesUptoRow.holds Tryz.pinned (OpenSpec.upto fnExactEvaluationPassesSpec)

/-- 'laws.FnExactIsFixpoint', WHERE WHAT IT READS IS OF BULK AT MOST 1048576: true; the input reads as it did. -/
def fnExactIsFixpointUptoRow : OpenClaim := { program := "ytopcdojekjlijaagreat", sum := "4422022e7eafd7886ca6aaf0f49d9790cd58570f25b5b2ed0e4fbadcefaeaf40", func := "loop.example/g00976/laws.FnExactIsFixpoint", spec := "fnExactIsFixpoint", unfollowed := true, recurses := true, apart := false, narrowed := true }
def FnExactIsFixpointUptoSaid : Prop := fnExactIsFixpointUptoRow.holds Tryz.pinned (OpenSpec.upto fnExactIsFixpointSpec)

/-- 'laws.FnExactEvaluate', WHERE WHAT IT READS IS OF BULK AT MOST 1048576: true; the input reads as it did. -/
def fnExactEvaluateUptoRow : OpenClaim := { program := "ytopcdojekjlijaagreat", sum := "4422022e7eafd7886ca6aaf0f49d9790cd58570f25b5b2ed0e4fbadcefaeaf40", func := "loop.example/g00976/laws.FnExactEvaluate", spec := "fnExactEvaluate", unfollowed := true, recurses := true, apart := false, narrowed := true }
def FnExactEvaluateUptoSaid : Prop := fnExactEvaluateUptoRow.holds Tryz.pinned (OpenSpec.upto fnExactEvaluateSpec)

/-- 'laws.FnExactDirContents', WHERE WHAT IT READS IS OF BULK AT MOST 1048576: true; the input reads as it did. -/
def fnExactDirContentsUptoRow : OpenClaim := { program := "ytopcdojekjlijaagreat", sum := "4422022e7eafd7886ca6aaf0f49d9790cd58570f25b5b2ed0e4fbadcefaeaf40", func := "loop.example/g00976/laws.FnExactDirContents", spec := "fnExactDirContents", unfollowed := true, recurses := true, apart := false, narrowed := true }
def FnExactDirContentsUptoSaid : Prop := fnExactDirContentsUptoRow.holds Tryz.pinned (OpenSpec.upto fnExactDirContentsSpec)

end Rows
end Go.Proofs.YtopcdojekjlijaaGreat
