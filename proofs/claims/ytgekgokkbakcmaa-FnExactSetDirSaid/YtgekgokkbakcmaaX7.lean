/- RemoveDir and SetDir in the form that the laws' frames want. -/
import Derived.Test.YtgekgokkbakcmaaX6
namespace Go.Proofs.Ytgekgokkbakcmaa
open Go.RowKit
set_option linter.unusedVariables false
theorem cnt_smallD : ∀ (ds : List Dr), 0 ≤ cntL cntDr ds ∧ cntL cntDr ds ≤ (ds.length : Int) + 7 * (szAll Dr.sz ds : Int)
  | [] => by simp [cntL, szAll]
  | d :: ds => by
    have h2 := cnt_smallD ds
    have h3 : d.query.length ≤ Dr.sz d := by unfold Dr.sz; omega
    simp only [cntL, szAll, List.map_cons, List.sum_cons, List.length_cons, cntDr] at h2 ⊢
    omega
theorem cnt_dirs {ds : List Dr} (hz : szAll Dr.sz ds ≤ 8000000) (hl : ds.length ≤ 8000000) : 0 ≤ cntL cntDr ds ∧ cntL cntDr ds ≤ 40000000000000 := by
  have := cnt_smallD ds
  omega
theorem remN_sz (s : ByteArray) : ∀ (xs : List Dr), szAll Dr.sz (remN xs s) ≤ szAll Dr.sz xs
  | [] => Nat.le_refl _
  | x :: xs => by
    have ih := remN_sz s xs
    have e : szAll Dr.sz (x :: xs) = Dr.sz x + szAll Dr.sz xs := by simp [szAll]
    cases h : (x.name.toList == s.toList) with
    | true =>
      have e2 : remN (x :: xs) s = remN xs s := by unfold remN; rw [List.filter_cons]; simp [h]
      rw [e2, e]; omega
    | false =>
      have e2 : remN (x :: xs) s = x :: remN xs s := by unfold remN; rw [List.filter_cons]; simp [h]
      have e3 : szAll Dr.sz (x :: remN xs s) = Dr.sz x + szAll Dr.sz (remN xs s) := by simp [szAll]
      rw [e2, e, e3]; omega
theorem remD_sz (xs : List Dr) (s : ByteArray) : szAll Dr.sz (remD xs s) ≤ szAll Dr.sz xs := by
  unfold remD; split
  · exact remN_sz s xs
  · exact Nat.le_refl _
theorem specRemoveDirO (va : Value) (xs : List Dr) (s : ByteArray) (w : World) (ha : RdDs w va xs) (hx : xs.length ≤ 4000000) (hs : ∀ x, x ∈ xs → x.small) (hz : szAll Dr.sz xs ≤ 4000000) :
    Calls Try.prog 20 #[va, .string s] w fun e w' => ∃ v, e = .returned (.tuple #[v, .bool (remOk xs s)]) ∧ OwnDrs w' w.heap.size w'.heap.size v (remD xs s) ∧ Grew w w' :=
  (specRemoveDir va xs s w ha hx hs hz).mono fun e w' ⟨v, h1, h2, h3⟩ => ⟨v, h1, h2.own, h3⟩
theorem implRemoveDirO (va : Value) (xs : List Dr) (s : ByteArray) (w : World) (ha : RdDs w va xs) (hx : xs.length ≤ 4000000) (hs : ∀ x, x ∈ xs → x.small) (hz : szAll Dr.sz xs ≤ 4000000) :
    Calls Try.prog 22 #[va, .string s] w fun e w' => ∃ v, e = .returned (.tuple #[v, .bool (remOk xs s)]) ∧ OwnDrs w' w.heap.size w'.heap.size v (remD xs s) ∧ Grew w w' :=
  (implRemoveDir va xs s w ha hx hs hz).mono fun e w' ⟨v, h1, h2, h3⟩ => ⟨v, h1, h2.own, h3⟩
theorem specSetDirO (va : Value) (xs : List Dr) (d : Dr) (p : P2) (w : World) (ha : RdDs w va xs) (hd : Dr.R w d p) (hx : xs.length ≤ 2000000) (hs : ∀ x, x ∈ xs → x.small) (hds : d.small) (hz : szAll Dr.sz xs ≤ 2000000) (hdz : d.sz ≤ 2000000) :
    Calls Try.prog 27 #[va, p.v] w fun e w' => ∃ v, e = .returned (.tuple #[v, .bool (setOk xs d)]) ∧ OwnDrs w' w.heap.size w'.heap.size v (setD xs d) ∧ Grew w w' :=
  (specSetDir va xs d p w ha hd hx hs hds hz hdz).mono fun e w' ⟨v, h1, h2, h3⟩ => ⟨v, h1, h2.own, h3⟩
theorem implSetDirO (va : Value) (xs : List Dr) (d : Dr) (p : P2) (w : World) (ha : RdDs w va xs) (hd : Dr.R w d p) (hx : xs.length ≤ 2000000) (hs : ∀ x, x ∈ xs → x.small) (hds : d.small) (hz : szAll Dr.sz xs ≤ 2000000) (hdz : d.sz ≤ 2000000) :
    Calls Try.prog 29 #[va, p.v] w fun e w' => ∃ v, e = .returned (.tuple #[v, .bool (setOk xs d)]) ∧ OwnDrs w' w.heap.size w'.heap.size v (setD xs d) ∧ Grew w w' :=
  (implSetDir va xs d p w ha hd hx hs hds hz hdz).mono fun e w' ⟨v, h1, h2, h3⟩ => ⟨v, h1, h2.own, h3⟩
end Go.Proofs.Ytgekgokkbakcmaa
