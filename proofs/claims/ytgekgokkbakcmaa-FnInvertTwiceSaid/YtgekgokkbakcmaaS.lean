/- What is small by its size. -/
import Derived.Test.YtgekgokkbakcmaaH5
namespace Go.Proofs.Ytgekgokkbakcmaa
theorem cntL_bound {α : Type} {cnt : α → Int} {f : α → Nat} (h : ∀ x, 0 ≤ cnt x ∧ cnt x ≤ 7 * (1 + (f x : Int))) : ∀ xs : List α, 0 ≤ cntL cnt xs ∧ cntL cnt xs ≤ 7 * ((xs.length : Int) + (szAll f xs : Int))
  | [] => by simp [cntL, szAll]
  | x :: xs => by
    have h1 := h x
    have h2 := cntL_bound h xs
    simp only [cntL, szAll, List.map_cons, List.sum_cons, List.length_cons] at h2 ⊢
    omega
theorem Dr.cnt_ok {xs : List Dr} (h1 : xs.length ≤ 4000000) (h2 : szAll Dr.sz xs ≤ 4000000) : 0 ≤ cntL cntDr xs ∧ cntL cntDr xs ≤ 56000000 := by
  have := cntL_bound (cnt := cntDr) (f := Dr.sz) (fun x => by unfold cntDr Dr.sz; omega) xs
  omega
theorem Dr.small_of {x : Dr} (h : x.sz ≤ 4000000) : x.small := by unfold Dr.sz at h; unfold Dr.small; omega
theorem Df.cnt_ok {xs : List Df} (h1 : xs.length ≤ 4000000) (h2 : szAll Df.sz xs ≤ 4000000) : 0 ≤ cntL cntDf xs ∧ cntL cntDf xs ≤ 56000000 := by
  have := cntL_bound (cnt := cntDf) (f := Df.sz) (fun x => by unfold cntDf Df.sz; omega) xs
  omega
theorem Df.small_of {x : Df} (h : x.sz ≤ 4000000) : x.small := by unfold Df.sz at h; unfold Df.small; omega
end Go.Proofs.Ytgekgokkbakcmaa
