/- InvertDiffs in the form that the laws' frames want. -/
import Derived.Test.YtgekgokkbakcmaaX4
namespace Go.Proofs.Ytgekgokkbakcmaa
open Go.RowKit
set_option linter.unusedVariables false
theorem invL_small {xs : List Df} (h : ∀ x, x ∈ xs → x.small) : ∀ x, x ∈ invL xs → x.small := by
  intro x hx
  unfold invL at hx
  obtain ⟨y, hy, rfl⟩ := List.mem_map.1 (List.mem_reverse.1 hx)
  exact ⟨(h y hy).2, (h y hy).1⟩
theorem invL_cnt {xs : List Df} (h : ∀ x, x ∈ xs → x.small) (hl : xs.length ≤ 3000000) : 0 ≤ cntL cntDf (invL xs) ∧ cntL cntDf (invL xs) ≤ 40000000000000 := by
  have h1 := cnt_small (invL xs) (invL_small h)
  rw [invL_len] at h1
  omega
theorem specInvertDiffsO (va : Value) (xs : List Df) (w : World) (ha : RdFs w va xs) (hx : xs.length ≤ 3000000) (hs : ∀ x, x ∈ xs → x.small) :
    Calls Try.prog 14 #[va] w fun e w' => ∃ v, e = .returned v ∧ OwnDfs w' w.heap.size w'.heap.size v (invL xs) ∧ Grew w w' :=
  (specInvertDiffs va xs w ha hx hs).mono fun e w' ⟨v, h1, h2, h3⟩ => ⟨v, h1, h2.own, h3⟩
theorem implInvertDiffsO (va : Value) (xs : List Df) (w : World) (ha : RdFs w va xs) (hx : xs.length ≤ 3000000) (hs : ∀ x, x ∈ xs → x.small) :
    Calls Try.prog 12 #[va] w fun e w' => ∃ v, e = .returned v ∧ OwnDfs w' w.heap.size w'.heap.size v (invL xs) ∧ Grew w w' :=
  (implInvertDiffs va xs w ha hx hs).mono fun e w' ⟨v, h1, h2, h3⟩ => ⟨v, h1, h2.own, h3⟩
end Go.Proofs.Ytgekgokkbakcmaa
