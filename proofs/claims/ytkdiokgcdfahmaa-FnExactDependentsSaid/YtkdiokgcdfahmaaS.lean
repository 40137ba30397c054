/- What is small by its size. -/
import Derived.Test.YtkdiokgcdfahmaaH5
namespace Go.Proofs.Ytkdiokgcdfahmaa
theorem cntL_bound {α : Type} {cnt : α → Int} {f : α → Nat} (h : ∀ x, 0 ≤ cnt x ∧ cnt x ≤ 7 * (1 + (f x : Int))) : ∀ xs : List α, 0 ≤ cntL cnt xs ∧ cntL cnt xs ≤ 7 * ((xs.length : Int) + (szAll f xs : Int))
  | [] => by simp [cntL, szAll]
  | x :: xs => by
    have h1 := h x
    have h2 := cntL_bound h xs
    simp only [cntL, szAll, List.map_cons, List.sum_cons, List.length_cons] at h2 ⊢
    omega
theorem Dr.cnt_ok {xs : List Dr} (h1 : xs.length ≤ 4000000) (h2 : szAll Dr.sz xs ≤ 4000000) : 0 ≤ cntL cntDr xs ∧ cntL cntDr xs ≤ 56000000 := by
  have := cntL_bound (cnt := cntDr) (f := Dr.sz) (fun x => by unfold cntDr Dr.sz; omega) xs
  omega
theorem Dr.small_of {x : Dr} (h : x.sz ≤ 4000000) : x.small := by unfold Dr.sz at h; unfold Dr.small; omega
end Go.Proofs.Ytkdiokgcdfahmaa
