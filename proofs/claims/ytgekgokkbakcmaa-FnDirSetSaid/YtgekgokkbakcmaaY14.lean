/- Plain facts on lists of directories: what is found behind SetDir and RemoveDir. No program in sight. -/
import Derived.Test.YtgekgokkbakcmaaX6
import Derived.Test.YtgekgokkbakcmaaE2
namespace Go.Proofs.Ytgekgokkbakcmaa
open Go.RowKit Go.Sort
set_option linter.unusedVariables false
theorem fd_cons (y : Dr) (ys : List Dr) (s : ByteArray) : fd (y :: ys) s = if (y.name.toList == s.toList) then some y else fd ys s := rfl
theorem fd_set (d : Dr) : ∀ (xs : List Dr), fd (setN d xs) d.name = some d
  | [] => by unfold setN; rw [fd_cons]; simp
  | y :: ys => by
    have ih := fd_set d ys
    unfold setN
    cases h : (y.name.toList == d.name.toList) with
    | true => simp only [if_true]; rw [fd_cons]; simp
    | false =>
      simp only [Bool.false_eq_true, if_false]
      cases h2 : Op.bytesLess d.name.toList y.name.toList with
      | true => simp only [if_true]; rw [fd_cons]; simp
      | false => simp only [Bool.false_eq_true, if_false]; rw [fd_cons, h]; exact ih
theorem fd_set_ne (d : Dr) {s : ByteArray} (hne : (d.name.toList == s.toList) = false) : ∀ (xs : List Dr), fd (setN d xs) s = fd xs s
  | [] => by unfold setN; rw [fd_cons, hne]; rfl
  | y :: ys => by
    have ih := fd_set_ne d hne ys
    unfold setN
    cases h : (y.name.toList == d.name.toList) with
    | true =>
      have h3 : (y.name.toList == s.toList) = false := by rw [beqB.1 h]; exact hne
      simp only [if_true]; rw [fd_cons, fd_cons, hne, h3]; rfl
    | false =>
      simp only [Bool.false_eq_true, if_false]
      cases h2 : Op.bytesLess d.name.toList y.name.toList with
      | true => simp only [if_true]; rw [fd_cons, hne]; rfl
      | false => simp only [Bool.false_eq_true, if_false]; rw [fd_cons, fd_cons, ih]
theorem fd_at {xs : List Dr} (h : dirsB xs = true) {i : Nat} {x : Dr} (hx : xs[i]? = some x) : fd xs x.name = some x :=
  fd_yes (fun j y hj hy => by
    rw [Bool.eq_false_iff]
    intro he
    have := nm_inj h hy hx (beqB.1 he)
    omega) hx (beqB.2 rfl)
theorem fd_rem (s : ByteArray) : ∀ (xs : List Dr), fd (remN xs s) s = none
  | [] => rfl
  | x :: xs => by
    have ih := fd_rem s xs
    cases h : (x.name.toList == s.toList) with
    | true =>
      have e : remN (x :: xs) s = remN xs s := by unfold remN; rw [List.filter_cons]; simp [h]
      rw [e]; exact ih
    | false =>
      have e : remN (x :: xs) s = x :: remN xs s := by unfold remN; rw [List.filter_cons]; simp [h]
      rw [e, fd_cons, h]; exact ih
theorem set_parts {xs : List Dr} {d : Dr} (h : setOk xs d = true) : dirsB xs = true ∧ dirsB (setN d xs) = true ∧ setD xs d = setN d xs := by
  have h1 := h
  unfold setOk at h1
  simp only [Bool.and_eq_true] at h1
  exact ⟨h1.1, h1.2, set_yes h⟩
/-- What was set is found; the others are as they were; what was taken out is gone. -/
theorem set_found {xs : List Dr} {d : Dr} (h : setOk xs d = true) : fdB (setD xs d) d.name = true ∧ fdD (setD xs d) d.name = d ∧ dirsB (setD xs d) = true := by
  obtain ⟨h1, h2, h3⟩ := set_parts h
  unfold fdB fdD
  rw [h3, fd_set]
  exact ⟨rfl, rfl, h2⟩
theorem set_other {xs : List Dr} {d : Dr} (h : setOk xs d = true) {i : Nat} {x : Dr} (hx : xs[i]? = some x) (hne : (x.name.toList == d.name.toList) = false) : fdB (setD xs d) x.name = true ∧ fdD (setD xs d) x.name = x := by
  obtain ⟨h1, h2, h3⟩ := set_parts h
  have hn2 : (d.name.toList == x.name.toList) = false := by
    rw [Bool.eq_false_iff] at hne ⊢
    intro he; exact hne (beqB.2 (beqB.1 he).symm)
  unfold fdB fdD
  rw [h3, fd_set_ne d hn2, fd_at h1 hx]
  exact ⟨rfl, rfl⟩
theorem rem_gone {xs : List Dr} {s : ByteArray} (h : remOk xs s = true) : fdB (remD xs s) s = false := by
  unfold fdB
  rw [rem_yes h, fd_rem]; rfl
theorem sameV_self (x : V) : eqV x x = true := by unfold eqV; simp
theorem sameN_self (x : N) : eqN x x = true := by unfold eqN; simp [sameV_self]
theorem eqL_self {α : Type} {f : α → α → Bool} (hf : ∀ x, f x x = true) (xs : List α) : eqL f xs xs = true := by
  unfold eqL
  exact @decide_eq_true _ (Classical.propDecidable _) ⟨rfl, fun j x y hx hy => by obtain rfl := Option.some.inj (hx.symm.trans hy); exact hf x⟩
theorem sameDr_self (x : Dr) : sameDr x x = true := by unfold sameDr; rw [eqL_self sameN_self]; simp
theorem sameDs_self (xs : List Dr) : eqL sameDr xs xs = true := eqL_self sameDr_self xs
end Go.Proofs.Ytgekgokkbakcmaa
