/- Equality of rows. -/
import Derived.Test.YtodbohmbdgbheaaGreatDoorC2
namespace Go.Proofs.YtodbohmbdgbheaaGreatDoor
open Go.RowKit
set_option linter.unusedVariables false
/-- Whether two things are the same. -/
noncomputable def sameB {α : Type} (a b : α) : Bool := @decide (a = b) (Classical.propDecidable _)
theorem sameB_yes {α : Type} {a b : α} (h : a = b) : sameB a b = true := by simp [sameB, h]
theorem sameB_no {α : Type} {a b : α} (h : a ≠ b) : sameB a b = false := by simp [sameB, h]
theorem sameB_len {α : Type} {xs ys : List α} (h : xs.length ≠ ys.length) : sameB xs ys = false := sameB_no (fun e => h (by rw [e]))
theorem sameB_at {α : Type} {xs ys : List α} {k : Nat} {x y : α} (hx : xs[k]? = some x) (hy : ys[k]? = some y) (h : x ≠ y) : sameB xs ys = false :=
  sameB_no (fun e => h (by subst e; exact Option.some.inj (hx.symm.trans hy)))
theorem sameB_all {α : Type} {xs ys : List α} {n : Nat} (hx : xs.length = n) (hy : ys.length = n) (h : ∀ j, j < n → xs[j]? = ys[j]?) : sameB xs ys = true :=
  sameB_yes (List.ext_getElem? (fun j => by
    by_cases hj : j < n
    · exact h j hj
    · rw [List.getElem?_eq_none (by omega), List.getElem?_eq_none (by omega)]))
/-- One element more. -/
theorem same_snoc {α : Type} {xs ys : List α} {k : Nat} {x y : α} (h : ∀ j, j < k → xs[j]? = ys[j]?) (hx : xs[k]? = some x) (hy : ys[k]? = some y) (he : x = y) : ∀ j, j < k + 1 → xs[j]? = ys[j]? := fun j hj => by
  rcases Nat.lt_succ_iff_lt_or_eq.1 hj with h1 | rfl
  · exact h j h1
  · rw [hx, hy, he]
/-- Rows of one length whose elements agree pair by pair. -/
noncomputable def eqL {α : Type} (f : α → α → Bool) (xs ys : List α) : Bool := @decide (xs.length = ys.length ∧ ∀ (j : Nat) x y, xs[j]? = some x → ys[j]? = some y → f x y = true) (Classical.propDecidable _)
theorem eqL_len {α : Type} {f : α → α → Bool} {xs ys : List α} (h : xs.length ≠ ys.length) : eqL f xs ys = false := by
  have hn : ¬ (xs.length = ys.length ∧ ∀ (j : Nat) x y, xs[j]? = some x → ys[j]? = some y → f x y = true) := fun e => h e.1
  exact @decide_eq_false _ (Classical.propDecidable _) hn
theorem eqL_at {α : Type} {f : α → α → Bool} {xs ys : List α} {k : Nat} {x y : α} (hx : xs[k]? = some x) (hy : ys[k]? = some y) (h : f x y = false) : eqL f xs ys = false := by
  have hn : ¬ (xs.length = ys.length ∧ ∀ (j : Nat) x y, xs[j]? = some x → ys[j]? = some y → f x y = true) := fun e => by
    have := e.2 k x y hx hy; rw [h] at this; cases this
  exact @decide_eq_false _ (Classical.propDecidable _) hn
theorem eqL_all {α : Type} {f : α → α → Bool} {xs ys : List α} {n : Nat} (hx : xs.length = n) (hy : ys.length = n) (h : ∀ (j : Nat) x y, j < n → xs[j]? = some x → ys[j]? = some y → f x y = true) : eqL f xs ys = true := by
  have hn : (xs.length = ys.length ∧ ∀ (j : Nat) x y, xs[j]? = some x → ys[j]? = some y → f x y = true) := ⟨by omega, fun j x y h1 h2 => h j x y (by have := (List.getElem?_eq_some_iff.1 h1).1; omega) h1 h2⟩
  exact @decide_eq_true _ (Classical.propDecidable _) hn
theorem eqL_snoc {α : Type} {f : α → α → Bool} {xs ys : List α} {k : Nat} {x y : α} (h : ∀ (j : Nat) x y, j < k → xs[j]? = some x → ys[j]? = some y → f x y = true) (hx : xs[k]? = some x) (hy : ys[k]? = some y) (he : f x y = true) : ∀ (j : Nat) x y, j < k + 1 → xs[j]? = some x → ys[j]? = some y → f x y = true := fun j u v hj h1 h2 => by
  rcases Nat.lt_succ_iff_lt_or_eq.1 hj with h3 | rfl
  · exact h j u v h3 h1 h2
  · obtain rfl := Option.some.inj (hx.symm.trans h1); obtain rfl := Option.some.inj (hy.symm.trans h2); exact he
theorem runNeN (a b : N) (w : World) : (binOp .neq 38 a.v b.v).run Tryz.prog w = .ok (.bool (!(eqN a b))) w := by
  have h := runEqN a b w
  have h1 := run_eql_struct (P := Tryz.prog) (w := w) 38
  have h2 := run_neq_struct (P := Tryz.prog) (w := w) 38
  rw [h1] at h
  rw [h2]
  revert h
  generalize (Op.equalIn 10000 38 _ _).run Tryz.prog w = r
  intro h
  cases r <;> simp_all [Result.andThen]
end Go.Proofs.YtodbohmbdgbheaaGreatDoor
