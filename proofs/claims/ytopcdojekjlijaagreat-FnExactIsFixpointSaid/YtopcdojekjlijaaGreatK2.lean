/- Contracts of Dependents. -/
import Derived.Test.YtopcdojekjlijaaGreatK1
import Derived.Test.YtopcdojekjlijaaGreatQ4
import Derived.Test.YtopcdojekjlijaaGreatH5
import Derived.Test.YtopcdojekjlijaaGreatN1
namespace Go.Proofs.YtopcdojekjlijaaGreat
open Go.RowKit
set_option linter.unusedVariables false
/-- The names of the directories whose query names this one. -/
def dep (xs : List Dr) (s : ByteArray) : List ByteArray := (xs.filter fun x => hasB (qDirs x.query) s).map Dr.name
theorem dep_yes {xs : List Dr} {s : ByteArray} {k : Nat} {x : Dr} (h : xs[k]? = some x) (hh : hasB (qDirs x.query) s = true) : dep (xs.take (k + 1)) s = dep (xs.take k) s ++ [x.name] := by
  rw [take_snoc h]; unfold dep; rw [List.filter_append, List.map_append]; simp [hh]
theorem dep_no {xs : List Dr} {s : ByteArray} {k : Nat} {x : Dr} (h : xs[k]? = some x) (hh : hasB (qDirs x.query) s = false) : dep (xs.take (k + 1)) s = dep (xs.take k) s := by
  rw [take_snoc h]; unfold dep; rw [List.filter_append, List.map_append]; simp [hh]
theorem dep_le (xs : List Dr) (s : ByteArray) : (dep xs s).length ≤ xs.length := by
  unfold dep; rw [List.length_map]; exact List.length_filter_le _ _
theorem dep_tk (xs : List Dr) (s : ByteArray) (k : Nat) : (dep (xs.take k) s).length ≤ k := Nat.le_trans (dep_le _ _) (by rw [List.length_take]; omega)
end Go.Proofs.YtopcdojekjlijaaGreat
