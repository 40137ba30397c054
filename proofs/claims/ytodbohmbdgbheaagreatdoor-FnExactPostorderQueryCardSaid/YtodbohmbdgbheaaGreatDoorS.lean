/- What is small by its size. -/
import Derived.Test.YtodbohmbdgbheaaGreatDoorH5
namespace Go.Proofs.YtodbohmbdgbheaaGreatDoor
theorem cntL_bound {α : Type} {cnt : α → Int} {f : α → Nat} (h : ∀ x, 0 ≤ cnt x ∧ cnt x ≤ 7 * (1 + (f x : Int))) : ∀ xs : List α, 0 ≤ cntL cnt xs ∧ cntL cnt xs ≤ 7 * ((xs.length : Int) + (szAll f xs : Int))
  | [] => by simp [cntL, szAll]
  | x :: xs => by
    have h1 := h x
    have h2 := cntL_bound h xs
    simp only [cntL, szAll, List.map_cons, List.sum_cons, List.length_cons] at h2 ⊢
    omega
end Go.Proofs.YtodbohmbdgbheaaGreatDoor
