/- Contracts of DirNames. -/
import Derived.Test.YtopcdojekjlijaaH4
import Derived.Test.YtopcdojekjlijaaC6
namespace Go.Proofs.Ytopcdojekjlijaa
open Go.RowKit
set_option linter.unusedVariables false
theorem news_one {w : World} {v : Value} {e : TypeId} {g : Nat} (hg : g = w.heap.size) : ∀ j u, [v][j]? = some u → (w.alloc (.cells #[v] e)).cell? ((⟨g, 0, none⟩ : Addr).add j) = some u := by
  subst hg; exact cell_one_new _ _ _
theorem strs_snoc {xs : List Dr} {k : Nat} {x : Dr} (h : xs[k]? = some x) : strs ((xs.take (k + 1)).map Dr.name) = strs ((xs.take k).map Dr.name) ++ [.string x.name] := by
  rw [take_snoc h]; simp
end Go.Proofs.Ytopcdojekjlijaa
