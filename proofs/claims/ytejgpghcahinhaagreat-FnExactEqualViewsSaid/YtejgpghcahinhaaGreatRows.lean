/-
  No cell of these rows narrows 'for every input' (looked for: loops, veiled, ifaces, maps, wideKeys, modest, calm, conditions, laid).
  DERIVED. THE GIVEN ROWS OF THIS SEAT. 10 by the template 'for every input the law returns true; each argument reads behind the call as it read before'; 0 by the template 'total and deterministic' (their statements: YtejgpghcahinhaaGreatTotals.lean).
  GIVEN WITH THE SEED: the statements are not yours to turn. If you find one false, say at which input.
  Laid BY PROGRAM, IN A SANDBOX (cutbox-rows.mjs): the forced cells as the released guide's own fill.sh prints them over the translation e1775cf9078d91ba… (all of the seat's roots in one cut). By AI agents, Wed Nov 11 2026. No macro, syntax, notation, axiom, sorry.
-/
import Derived.Test.YtejgpghcahinhaaGreatChecked
import GoSem.Claim
import GoSem.ClaimJoined
import GoSem.ClaimMapViews
import Derived.JoinedTies
import Derived.KernelRfl
namespace Go.Proofs.YtejgpghcahinhaaGreat
/- THE CELL 'sum', in the pinned program and in every row, IS THE sha256 OF THE DUMP (.gsa) THAT YtejgpghcahinhaaGreatProg.lean LOADS. Nothing in Lean hashes anything: it is a label: what it is worth is what the hold of that sum in a sandbox is worth. -/
noncomputable def Tryz.pinned : Pinned := { name := "ytejgpghcahinhaagreat", sum := "e1775cf9078d91bae07877972c61b82e1979d43789937d9f8fd1fdb74efe7233", checked := Tryz.checked }
namespace Rows
def none {H : Type} : Left H := { results := [], args := [] }

/-- 'laws.FnNoninterference': WHATEVER THE INPUT: true; the input reads as it did. -/
def fnNoninterferenceSpec : ChangeSpec := { name := "fnNoninterference", fn := fun _ => fun
  | [d] => { results := [.lit (.bool true)], args := [d] }
  | _ => none }
def fnNoninterferenceRow : OpenClaim := { program := "ytejgpghcahinhaagreat", sum := "e1775cf9078d91bae07877972c61b82e1979d43789937d9f8fd1fdb74efe7233", func := "loop.example/g00976/laws.FnNoninterference", spec := "fnNoninterference", unfollowed := true, recurses := true, apart := false }
def FnNoninterferenceSaid : Prop := fnNoninterferenceRow.holds Tryz.pinned (OpenSpec.ofChange fnNoninterferenceSpec)

/-- ITS FALSE NEIGHBOUR: 'it returns false'. Refute it at one input. -/
def fnNoninterferenceWrong : ChangeSpec := { name := "fnNoninterference", fn := fun _ => fun
  | [d] => { results := [.lit (.bool false)], args := [d] }
  | _ => none }
def FnNoninterferenceWrongFalsely : Prop := fnNoninterferenceRow.holds Tryz.pinned (OpenSpec.ofChange fnNoninterferenceWrong)

/-- 'laws.FnStrata': WHATEVER THE INPUT: true; the input reads as it did. -/
def fnStrataSpec : ChangeSpec := { name := "fnStrata", fn := fun _ => fun
  | [d] => { results := [.lit (.bool true)], args := [d] }
  | _ => none }
def fnStrataRow : OpenClaim := { program := "ytejgpghcahinhaagreat", sum := "e1775cf9078d91bae07877972c61b82e1979d43789937d9f8fd1fdb74efe7233", func := "loop.example/g00976/laws.FnStrata", spec := "fnStrata", unfollowed := true, recurses := true, apart := false }
def FnStrataSaid : Prop := fnStrataRow.holds Tryz.pinned (OpenSpec.ofChange fnStrataSpec)

/-- ITS FALSE NEIGHBOUR: 'it returns false'. Refute it at one input. -/
def fnStrataWrong : ChangeSpec := { name := "fnStrata", fn := fun _ => fun
  | [d] => { results := [.lit (.bool false)], args := [d] }
  | _ => none }
def FnStrataWrongFalsely : Prop := fnStrataRow.holds Tryz.pinned (OpenSpec.ofChange fnStrataWrong)

/-- 'laws.FnLeastFixpoint': WHATEVER THE INPUT: true; the input reads as it did. -/
def fnLeastFixpointSpec : ChangeSpec := { name := "fnLeastFixpoint", fn := fun _ => fun
  | [d] => { results := [.lit (.bool true)], args := [d] }
  | _ => none }
def fnLeastFixpointRow : OpenClaim := { program := "ytejgpghcahinhaagreat", sum := "e1775cf9078d91bae07877972c61b82e1979d43789937d9f8fd1fdb74efe7233", func := "loop.example/g00976/laws.FnLeastFixpoint", spec := "fnLeastFixpoint", unfollowed := true, recurses := true, apart := false }
def FnLeastFixpointSaid : Prop := fnLeastFixpointRow.holds Tryz.pinned (OpenSpec.ofChange fnLeastFixpointSpec)

/-- ITS FALSE NEIGHBOUR: 'it returns false'. Refute it at one input. -/
def fnLeastFixpointWrong : ChangeSpec := { name := "fnLeastFixpoint", fn := fun _ => fun
  | [d] => { results := [.lit (.bool false)], args := [d] }
  | _ => none }
def FnLeastFixpointWrongFalsely : Prop := fnLeastFixpointRow.holds Tryz.pinned (OpenSpec.ofChange fnLeastFixpointWrong)

/-- 'laws.FnFixpoint': WHATEVER THE INPUT: true; the input reads as it did. -/
def fnFixpointSpec : ChangeSpec := { name := "fnFixpoint", fn := fun _ => fun
  | [d] => { results := [.lit (.bool true)], args := [d] }
  | _ => none }
def fnFixpointRow : OpenClaim := { program := "ytejgpghcahinhaagreat", sum := "e1775cf9078d91bae07877972c61b82e1979d43789937d9f8fd1fdb74efe7233", func := "loop.example/g00976/laws.FnFixpoint", spec := "fnFixpoint", unfollowed := true, recurses := true, apart := false }
def FnFixpointSaid : Prop := fnFixpointRow.holds Tryz.pinned (OpenSpec.ofChange fnFixpointSpec)

/-- ITS FALSE NEIGHBOUR: 'it returns false'. Refute it at one input. -/
def fnFixpointWrong : ChangeSpec := { name := "fnFixpoint", fn := fun _ => fun
  | [d] => { results := [.lit (.bool false)], args := [d] }
  | _ => none }
def FnFixpointWrongFalsely : Prop := fnFixpointRow.holds Tryz.pinned (OpenSpec.ofChange fnFixpointWrong)

/-- 'laws.FnListings': WHATEVER THE INPUT: true; the input reads as it did. -/
def fnListingsSpec : ChangeSpec := { name := "fnListings", fn := fun _ => fun
  | [d] => { results := [.lit (.bool true)], args := [d] }
  | _ => none }
def fnListingsRow : OpenClaim := { program := "ytejgpghcahinhaagreat", sum := "e1775cf9078d91bae07877972c61b82e1979d43789937d9f8fd1fdb74efe7233", func := "loop.example/g00976/laws.FnListings", spec := "fnListings", unfollowed := true, recurses := true, apart := false }
def FnListingsSaid : Prop := fnListingsRow.holds Tryz.pinned (OpenSpec.ofChange fnListingsSpec)

/-- ITS FALSE NEIGHBOUR: 'it returns false'. Refute it at one input. -/
def fnListingsWrong : ChangeSpec := { name := "fnListings", fn := fun _ => fun
  | [d] => { results := [.lit (.bool false)], args := [d] }
  | _ => none }
def FnListingsWrongFalsely : Prop := fnListingsRow.holds Tryz.pinned (OpenSpec.ofChange fnListingsWrong)

/-- 'laws.FnExactCountListed': WHATEVER THE INPUT: true; the input reads as it did. -/
def fnExactCountListedSpec : ChangeSpec := { name := "fnExactCountListed", fn := fun _ => fun
  | [d1, d2, d3, d4] => { results := [.lit (.bool true)], args := [d1, d2, d3, d4] }
  | _ => none }
def fnExactCountListedRow : OpenClaim := { program := "ytejgpghcahinhaagreat", sum := "e1775cf9078d91bae07877972c61b82e1979d43789937d9f8fd1fdb74efe7233", func := "loop.example/g00976/laws.FnExactCountListed", spec := "fnExactCountListed", unfollowed := true, recurses := true, apart := false }
def FnExactCountListedSaid : Prop := fnExactCountListedRow.holds Tryz.pinned (OpenSpec.ofChange fnExactCountListedSpec)

/-- ITS FALSE NEIGHBOUR: 'it returns false'. Refute it at one input. -/
def fnExactCountListedWrong : ChangeSpec := { name := "fnExactCountListed", fn := fun _ => fun
  | [d1, d2, d3, d4] => { results := [.lit (.bool false)], args := [d1, d2, d3, d4] }
  | _ => none }
def FnExactCountListedWrongFalsely : Prop := fnExactCountListedRow.holds Tryz.pinned (OpenSpec.ofChange fnExactCountListedWrong)

/-- 'laws.FnExactIsListed': WHATEVER THE INPUT: true; the input reads as it did. -/
def fnExactIsListedSpec : ChangeSpec := { name := "fnExactIsListed", fn := fun _ => fun
  | [d1, d2, d3, d4, d5] => { results := [.lit (.bool true)], args := [d1, d2, d3, d4, d5] }
  | _ => none }
def fnExactIsListedRow : OpenClaim := { program := "ytejgpghcahinhaagreat", sum := "e1775cf9078d91bae07877972c61b82e1979d43789937d9f8fd1fdb74efe7233", func := "loop.example/g00976/laws.FnExactIsListed", spec := "fnExactIsListed", unfollowed := true, recurses := true, apart := false }
def FnExactIsListedSaid : Prop := fnExactIsListedRow.holds Tryz.pinned (OpenSpec.ofChange fnExactIsListedSpec)

/-- ITS FALSE NEIGHBOUR: 'it returns false'. Refute it at one input. -/
def fnExactIsListedWrong : ChangeSpec := { name := "fnExactIsListed", fn := fun _ => fun
  | [d1, d2, d3, d4, d5] => { results := [.lit (.bool false)], args := [d1, d2, d3, d4, d5] }
  | _ => none }
def FnExactIsListedWrongFalsely : Prop := fnExactIsListedRow.holds Tryz.pinned (OpenSpec.ofChange fnExactIsListedWrong)

/-- 'laws.FnExactEqualViews': WHATEVER THE INPUT: true; the input reads as it did. -/
def fnExactEqualViewsSpec : ChangeSpec := { name := "fnExactEqualViews", fn := fun _ => fun
  | [d1, d2, d3, d4] => { results := [.lit (.bool true)], args := [d1, d2, d3, d4] }
  | _ => none }
def fnExactEqualViewsRow : OpenClaim := { program := "ytejgpghcahinhaagreat", sum := "e1775cf9078d91bae07877972c61b82e1979d43789937d9f8fd1fdb74efe7233", func := "loop.example/g00976/laws.FnExactEqualViews", spec := "fnExactEqualViews", unfollowed := true, recurses := true, apart := false }
def FnExactEqualViewsSaid : Prop := fnExactEqualViewsRow.holds Tryz.pinned (OpenSpec.ofChange fnExactEqualViewsSpec)

/-- ITS FALSE NEIGHBOUR: 'it returns false'. Refute it at one input. -/
def fnExactEqualViewsWrong : ChangeSpec := { name := "fnExactEqualViews", fn := fun _ => fun
  | [d1, d2, d3, d4] => { results := [.lit (.bool false)], args := [d1, d2, d3, d4] }
  | _ => none }
def FnExactEqualViewsWrongFalsely : Prop := fnExactEqualViewsRow.holds Tryz.pinned (OpenSpec.ofChange fnExactEqualViewsWrong)

/-- 'laws.FnExactListDir': WHATEVER THE INPUT: true; the input reads as it did. -/
def fnExactListDirSpec : ChangeSpec := { name := "fnExactListDir", fn := fun _ => fun
  | [d1, d2, d3, d4] => { results := [.lit (.bool true)], args := [d1, d2, d3, d4] }
  | _ => none }
def fnExactListDirRow : OpenClaim := { program := "ytejgpghcahinhaagreat", sum := "e1775cf9078d91bae07877972c61b82e1979d43789937d9f8fd1fdb74efe7233", func := "loop.example/g00976/laws.FnExactListDir", spec := "fnExactListDir", unfollowed := true, recurses := true, apart := false }
def FnExactListDirSaid : Prop := fnExactListDirRow.holds Tryz.pinned (OpenSpec.ofChange fnExactListDirSpec)

/-- ITS FALSE NEIGHBOUR: 'it returns false'. Refute it at one input. -/
def fnExactListDirWrong : ChangeSpec := { name := "fnExactListDir", fn := fun _ => fun
  | [d1, d2, d3, d4] => { results := [.lit (.bool false)], args := [d1, d2, d3, d4] }
  | _ => none }
def FnExactListDirWrongFalsely : Prop := fnExactListDirRow.holds Tryz.pinned (OpenSpec.ofChange fnExactListDirWrong)

/-- 'laws.FnExactEvaluateForUser': WHATEVER THE INPUT: true; the input reads as it did. -/
def fnExactEvaluateForUserSpec : ChangeSpec := { name := "fnExactEvaluateForUser", fn := fun _ => fun
  | [d1, d2, d3] => { results := [.lit (.bool true)], args := [d1, d2, d3] }
  | _ => none }
def fnExactEvaluateForUserRow : OpenClaim := { program := "ytejgpghcahinhaagreat", sum := "e1775cf9078d91bae07877972c61b82e1979d43789937d9f8fd1fdb74efe7233", func := "loop.example/g00976/laws.FnExactEvaluateForUser", spec := "fnExactEvaluateForUser", unfollowed := true, recurses := true, apart := false }
def FnExactEvaluateForUserSaid : Prop := fnExactEvaluateForUserRow.holds Tryz.pinned (OpenSpec.ofChange fnExactEvaluateForUserSpec)

/-- ITS FALSE NEIGHBOUR: 'it returns false'. Refute it at one input. -/
def fnExactEvaluateForUserWrong : ChangeSpec := { name := "fnExactEvaluateForUser", fn := fun _ => fun
  | [d1, d2, d3] => { results := [.lit (.bool false)], args := [d1, d2, d3] }
  | _ => none }
def FnExactEvaluateForUserWrongFalsely : Prop := fnExactEvaluateForUserRow.holds Tryz.pinned (OpenSpec.ofChange fnExactEvaluateForUserWrong)

/- THE SECOND FORM. 'bulk': how many values and letters a reading holds, each counted each time it is reached (what is shared counts as often as it is met; a slice's spare places count too). A statement '..UptoSaid' is the law's where the arguments, and the package variables that the reading takes, are together of bulk at most 1048576: NARROWER than '..Said'. Prove '..Said' where nothing that the law and all that it calls make is longer than what came in: it says more and counts as full. Else prove '..UptoSaid'. A law counts once. -/
mutual
def uptoBulk {H : Type} : DataW H → Nat
  | .lit (.string bytes) => bytes.length + 1
  | .lit _ => 1
  | .nil => 1
  | .ptr d => uptoBulk d + 1
  | .slice elems spare => uptoBulkAll elems + uptoBulkAll spare + 1
  | .agg parts => uptoBulkAll parts + 1
  | .iface _ d => uptoBulk d + 1
  | .map entries => uptoBulkEntries entries + 1
  | .held _ => 1
def uptoBulkAll {H : Type} : List (DataW H) → Nat
  | [] => 0
  | d :: r => uptoBulk d + uptoBulkAll r
def uptoBulkEntries {H : Type} : List (Lit × DataW H) → Nat
  | [] => 0
  | x :: r => uptoBulkEntry x + uptoBulkEntries r
def uptoBulkEntry {H : Type} : Lit × DataW H → Nat
  | (.string bytes, d) => bytes.length + uptoBulk d + 1
  | (_, d) => uptoBulk d + 1
 end
def uptoSmall : (H : Type) → List (DataW H) → Bool := fun _ ds => decide (uptoBulkAll ds ≤ 1048576)
def OpenSpec.upto (s : _root_.Go.ChangeSpec) : _root_.Go.OpenSpec := { _root_.Go.OpenSpec.ofChange s with cond := some uptoSmall }

/-- 'laws.FnNoninterference', WHERE WHAT IT READS IS OF BULK AT MOST 1048576: true; the input reads as it did. -/
def fnNoninterferenceUptoRow : OpenClaim := { program := "ytejgpghcahinhaagreat", sum := "e1775cf9078d91bae07877972c61b82e1979d43789937d9f8fd1fdb74efe7233", func := "loop.example/g00976/laws.FnNoninterference", spec := "fnNoninterference", unfollowed := true, recurses := true, apart := false, narrowed := true }
def FnNoninterferenceUptoSaid : Prop := fnNoninterferenceUptoRow.holds Tryz.pinned (OpenSpec.upto fnNoninterferenceSpec)

/-- 'laws.FnStrata', WHERE WHAT IT READS IS OF BULK AT MOST 1048576: true; the input reads as it did. -/
def fnStrataUptoRow : OpenClaim := { program := "ytejgpghcahinhaagreat", sum := "e1775cf9078d91bae07877972c61b82e1979d43789937d9f8fd1fdb74efe7233", func := "loop.example/g00976/laws.FnStrata", spec := "fnStrata", unfollowed := true, recurses := true, apart := false, narrowed := true }
def FnStrataUptoSaid : Prop := fnStrataUptoRow.holds Tryz.pinned (OpenSpec.upto fnStrataSpec)

/-- 'laws.FnLeastFixpoint', WHERE WHAT IT READS IS OF BULK AT MOST 1048576: true; the input reads as it did. -/
def fnLeastFixpointUptoRow : OpenClaim := { program := "ytejgpghcahinhaagreat", sum := "e1775cf9078d91bae07877972c61b82e1979d43789937d9f8fd1fdb74efe7233", func := "loop.example/g00976/laws.FnLeastFixpoint", spec := "fnLeastFixpoint", unfollowed := true, recurses := true, apart := false, narrowed := true }
def FnLeastFixpointUptoSaid : Prop := fnLeastFixpointUptoRow.holds Tryz.pinned (OpenSpec.upto fnLeastFixpointSpec)

/-- 'laws.FnFixpoint', WHERE WHAT IT READS IS OF BULK AT MOST 1048576: true; the input reads as it did. -/
def fnFixpointUptoRow : OpenClaim := { program := "ytejgpghcahinhaagreat", sum := "e1775cf9078d91bae07877972c61b82e1979d43789937d9f8fd1fdb74efe7233", func := "loop.example/g00976/laws.FnFixpoint", spec := "fnFixpoint", unfollowed := true, recurses := true, apart := false, narrowed := true }
def FnFixpointUptoSaid : Prop := fnFixpointUptoRow.holds Tryz.pinned (OpenSpec.upto fnFixpointSpec)

/-- 'laws.FnListings', WHERE WHAT IT READS IS OF BULK AT MOST 1048576: true; the input reads as it did. -/
def fnListingsUptoRow : OpenClaim := { program := "ytejgpghcahinhaagreat", sum := "e1775cf9078d91bae07877972c61b82e1979d43789937d9f8fd1fdb74efe7233", func := "loop.example/g00976/laws.FnListings", spec := "fnListings", unfollowed := true, recurses := true, apart := false, narrowed := true }
def FnListingsUptoSaid : Prop := fnListingsUptoRow.holds Tryz.pinned (OpenSpec.upto fnListingsSpec)

/-- 'laws.FnExactCountListed', WHERE WHAT IT READS IS OF BULK AT MOST 1048576: true; the input reads as it did. -/
def fnExactCountListedUptoRow : OpenClaim := { program := "ytejgpghcahinhaagreat", sum := "e1775cf9078d91bae07877972c61b82e1979d43789937d9f8fd1fdb74efe7233", func := "loop.example/g00976/laws.FnExactCountListed", spec := "fnExactCountListed", unfollowed := true, recurses := true, apart := false, narrowed := true }
def FnExactCountListedUptoSaid : Prop := fnExactCountListedUptoRow.holds Tryz.pinned (OpenSpec.upto fnExactCountListedSpec)

/-- 'laws.FnExactIsListed', WHERE WHAT IT READS IS OF BULK AT MOST 1048576: true; the input reads as it did. -/
def fnExactIsListedUptoRow : OpenClaim := { program := "ytejgpghcahinhaagreat", sum := "e1775cf9078d91bae07877972c61b82e1979d43789937d9f8fd1fdb74efe7233", func := "loop.example/g00976/laws.FnExactIsListed", spec := "fnExactIsListed", unfollowed := true, recurses := true, apart := false, narrowed := true }
def FnExactIsListedUptoSaid : Prop := fnExactIsListedUptoRow.holds Tryz.pinned (OpenSpec.upto fnExactIsListedSpec)

/-- 'laws.FnExactEqualViews', WHERE WHAT IT READS IS OF BULK AT MOST 1048576: true; the input reads as it did. -/
def fnExactEqualViewsUptoRow : OpenClaim := { program := "ytejgpghcahinhaagreat", sum := "e1775cf9078d91bae07877972c61b82e1979d43789937d9f8fd1fdb74efe7233", func := "loop.example/g00976/laws.FnExactEqualViews", spec := "fnExactEqualViews", unfollowed := true, recurses := true, apart := false, narrowed := true }
def FnExactEqualViewsUptoSaid : Prop := fnExactEqualViewsUptoRow.holds Tryz.pinned (OpenSpec.upto fnExactEqualViewsSpec)

/-- 'laws.FnExactListDir', WHERE WHAT IT READS IS OF BULK AT MOST 1048576: true; the input reads as it did. -/
def fnExactListDirUptoRow : OpenClaim := { program := "ytejgpghcahinhaagreat", sum := "e1775cf9078d91bae07877972c61b82e1979d43789937d9f8fd1fdb74efe7233", func := "loop.example/g00976/laws.FnExactListDir", spec := "fnExactListDir", unfollowed := true, recurses := true, apart := false, narrowed := true }
def FnExactListDirUptoSaid : Prop := fnExactListDirUptoRow.holds Tryz.pinned (OpenSpec.upto fnExactListDirSpec)

/-- 'laws.FnExactEvaluateForUser', WHERE WHAT IT READS IS OF BULK AT MOST 1048576: true; the input reads as it did. -/
def fnExactEvaluateForUserUptoRow : OpenClaim := { program := "ytejgpghcahinhaagreat", sum := "e1775cf9078d91bae07877972c61b82e1979d43789937d9f8fd1fdb74efe7233", func := "loop.example/g00976/laws.FnExactEvaluateForUser", spec := "fnExactEvaluateForUser", unfollowed := true, recurses := true, apart := false, narrowed := true }
def FnExactEvaluateForUserUptoSaid : Prop := fnExactEvaluateForUserUptoRow.holds Tryz.pinned (OpenSpec.upto fnExactEvaluateForUserSpec)

end Rows
end Go.Proofs.YtejgpghcahinhaaGreat
