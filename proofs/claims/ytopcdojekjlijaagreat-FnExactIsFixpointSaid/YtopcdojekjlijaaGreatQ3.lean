/- Contracts of QueryAttrs. -/
import Derived.Test.YtopcdojekjlijaaGreatQ2
import Derived.Test.YtopcdojekjlijaaGreatC4
namespace Go.Proofs.YtopcdojekjlijaaGreat
open Go.RowKit Go.Sort
set_option linter.unusedVariables false
theorem so_snoc (xs : List ByteArray) (s : ByteArray) : so (xs ++ [s]) = putB (so xs) s := by
  unfold so putB putAll
  rw [List.map_append, List.foldl_append, List.map_map]
  simp [Function.comp_def]
theorem so_len (xs : List ByteArray) : (so xs).length ≤ xs.length := by
  unfold so
  rw [List.length_map, ← sort_put]
  have := Lib.compact_length_le ((xs.map dl).mergeSort fun x y => decide (x ≤ y))
  rw [List.length_mergeSort, List.length_map] at this
  exact this
/-- The names that nodes of these kinds bear. -/
def qAttrsN (xs : List N) : List ByteArray := (xs.filter fun x => inB x.op 2 4).map N.name
theorem qAttrsN_yes {xs : List N} {k : Nat} {x : N} (h : xs[k]? = some x) (hh : inB x.op 2 4 = true) : qAttrsN (xs.take (k + 1)) = qAttrsN (xs.take k) ++ [x.name] := by
  rw [take_snoc h]; unfold qAttrsN; rw [List.filter_append, List.map_append]; simp [hh]
theorem qAttrsN_no {xs : List N} {k : Nat} {x : N} (h : xs[k]? = some x) (hh : inB x.op 2 4 = false) : qAttrsN (xs.take (k + 1)) = qAttrsN (xs.take k) := by
  rw [take_snoc h]; unfold qAttrsN; rw [List.filter_append, List.map_append]; simp [hh]
theorem qAttrsN_le (xs : List N) : (qAttrsN xs).length ≤ xs.length := by
  unfold qAttrsN; rw [List.length_map]; exact List.length_filter_le _ _
theorem qAttrsN_tk (xs : List N) (k : Nat) : (qAttrsN (xs.take k)).length ≤ k := Nat.le_trans (qAttrsN_le _) (by rw [List.length_take]; omega)
def qAttrs (xs : List N) : List ByteArray := so (qAttrsN xs)
theorem qAttrs_le (xs : List N) : (qAttrs xs).length ≤ xs.length := Nat.le_trans (so_len _) (qAttrsN_le xs)
end Go.Proofs.YtopcdojekjlijaaGreat
