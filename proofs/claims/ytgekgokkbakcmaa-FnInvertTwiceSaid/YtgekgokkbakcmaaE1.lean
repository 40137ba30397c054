/- Equality of rows. -/
import Derived.Test.YtgekgokkbakcmaaC2
namespace Go.Proofs.Ytgekgokkbakcmaa
open Go.RowKit
set_option linter.unusedVariables false
/-- Whether two things are the same. -/
noncomputable def sameB {α : Type} (a b : α) : Bool := @decide (a = b) (Classical.propDecidable _)
theorem sameB_yes {α : Type} {a b : α} (h : a = b) : sameB a b = true := by simp [sameB, h]
theorem sameB_no {α : Type} {a b : α} (h : a ≠ b) : sameB a b = false := by simp [sameB, h]
theorem sameB_len {α : Type} {xs ys : List α} (h : xs.length ≠ ys.length) : sameB xs ys = false := sameB_no (fun e => h (by rw [e]))
theorem sameB_at {α : Type} {xs ys : List α} {k : Nat} {x y : α} (hx : xs[k]? = some x) (hy : ys[k]? = some y) (h : x ≠ y) : sameB xs ys = false :=
  sameB_no (fun e => h (by subst e; exact Option.some.inj (hx.symm.trans hy)))
theorem sameB_all {α : Type} {xs ys : List α} {n : Nat} (hx : xs.length = n) (hy : ys.length = n) (h : ∀ j, j < n → xs[j]? = ys[j]?) : sameB xs ys = true :=
  sameB_yes (List.ext_getElem? (fun j => by
    by_cases hj : j < n
    · exact h j hj
    · rw [List.getElem?_eq_none (by omega), List.getElem?_eq_none (by omega)]))
/-- One element more. -/
theorem same_snoc {α : Type} {xs ys : List α} {k : Nat} {x y : α} (h : ∀ j, j < k → xs[j]? = ys[j]?) (hx : xs[k]? = some x) (hy : ys[k]? = some y) (he : x = y) : ∀ j, j < k + 1 → xs[j]? = ys[j]? := fun j hj => by
  rcases Nat.lt_succ_iff_lt_or_eq.1 hj with h1 | rfl
  · exact h j h1
  · rw [hx, hy, he]
/-- Rows of one length whose elements agree pair by pair. -/
noncomputable def eqL {α : Type} (f : α → α → Bool) (xs ys : List α) : Bool := @decide (xs.length = ys.length ∧ ∀ (j : Nat) x y, xs[j]? = some x → ys[j]? = some y → f x y = true) (Classical.propDecidable _)
theorem eqL_len {α : Type} {f : α → α → Bool} {xs ys : List α} (h : xs.length ≠ ys.length) : eqL f xs ys = false := by
  have hn : ¬ (xs.length = ys.length ∧ ∀ (j : Nat) x y, xs[j]? = some x → ys[j]? = some y → f x y = true) := fun e => h e.1
  exact @decide_eq_false _ (Classical.propDecidable _) hn
theorem eqL_at {α : Type} {f : α → α → Bool} {xs ys : List α} {k : Nat} {x y : α} (hx : xs[k]? = some x) (hy : ys[k]? = some y) (h : f x y = false) : eqL f xs ys = false := by
  have hn : ¬ (xs.length = ys.length ∧ ∀ (j : Nat) x y, xs[j]? = some x → ys[j]? = some y → f x y = true) := fun e => by
    have := e.2 k x y hx hy; rw [h] at this; cases this
  exact @decide_eq_false _ (Classical.propDecidable _) hn
theorem eqL_all {α : Type} {f : α → α → Bool} {xs ys : List α} {n : Nat} (hx : xs.length = n) (hy : ys.length = n) (h : ∀ (j : Nat) x y, j < n → xs[j]? = some x → ys[j]? = some y → f x y = true) : eqL f xs ys = true := by
  have hn : (xs.length = ys.length ∧ ∀ (j : Nat) x y, xs[j]? = some x → ys[j]? = some y → f x y = true) := ⟨by omega, fun j x y h1 h2 => h j x y (by have := (List.getElem?_eq_some_iff.1 h1).1; omega) h1 h2⟩
  exact @decide_eq_true _ (Classical.propDecidable _) hn
theorem eqL_snoc {α : Type} {f : α → α → Bool} {xs ys : List α} {k : Nat} {x y : α} (h : ∀ (j : Nat) x y, j < k → xs[j]? = some x → ys[j]? = some y → f x y = true) (hx : xs[k]? = some x) (hy : ys[k]? = some y) (he : f x y = true) : ∀ (j : Nat) x y, j < k + 1 → xs[j]? = some x → ys[j]? = some y → f x y = true := fun j u v hj h1 h2 => by
  rcases Nat.lt_succ_iff_lt_or_eq.1 hj with h3 | rfl
  · exact h j u v h3 h1 h2
  · obtain rfl := Option.some.inj (hx.symm.trans h1); obtain rfl := Option.some.inj (hy.symm.trans h2); exact he
theorem runNeN (a b : N) (w : World) : (binOp .neq 76 a.v b.v).run Try.prog w = .ok (.bool (!(eqN a b))) w := by
  have h := runEqN a b w
  have h1 := run_eql_struct (P := Try.prog) (w := w) 76
  have h2 := run_neq_struct (P := Try.prog) (w := w) 76
  rw [h1] at h
  rw [h2]
  revert h
  generalize (Op.equalIn 10000 76 _ _).run Try.prog w = r
  intro h
  cases r <;> simp_all [Result.andThen]
set_option maxRecDepth 100000 in
set_option maxHeartbeats 1000000 in
theorem slEqualNode (va vb : Value) (n m : Nat) (xs ys : List N) (w : World) (ha : Rd w va 7 n (rows N.c xs)) (hb : Rd w vb 7 m (rows N.c ys)) (hx : n ≤ 4000000) (hy : m ≤ 4000000) :
    Calls Try.prog 145 #[va, vb] w fun e w' => e = .returned (.bool (eqL eqN xs ys)) ∧ Grew w w' := by
  obtain ⟨a, ca, rfl, hca, hra⟩ := ha
  obtain ⟨b, cb, rfl, hcb, hrb⟩ := hb
  have HX := Lib.hid (hra.len_rows N.len (by decide))
  have HY := Lib.hid (hrb.len_rows N.len (by decide))
  by_cases hnm : n = m
  · subst hnm
    go_enter Try.func145, Try.ntmps145
    go_wp2
    go_loopw [5, 13] (fun _ i wr => ∃ k : Nat, k ≤ n ∧ i = .int .i64 k ∧ Hid (∀ (j : Nat) x y, j < k → xs[j]? = some x → ys[j]? = some y → eqN x y = true) ∧ Grew w wr) (fun _ i _ => n - (intOf i).toNat)
    case atStart => exact ⟨0, Nat.zero_le _, rfl, Lib.hid (fun j x y h => absurd h (Nat.not_lt_zero j)), Grew.refl _⟩
    case round =>
      obtain ⟨k, hk, rfl, hsame, hbel⟩ := hrel
      by_cases hlt : k < n
      · obtain ⟨b1, o1, x, rfl, hxk, c0, c1, c2, c3, c4, c5, c6⟩ := (hra.grew hbel).getN hlt
        obtain ⟨b2, o2, y, rfl, hyk, d0, d1, d2, d3, d4, d5, d6⟩ := (hrb.grew hbel).getN hlt
        obtain ⟨q, hq⟩ : ∃ q, q = eqN x y := ⟨_, rfl⟩
        have hE : ∀ w, (binOp .eql 76 x.v y.v).run Try.prog w = .ok (.bool q) w := fun w => by rw [runEqN, hq]
        have hF : ∀ w, (binOp .neq 76 x.v y.v).run Try.prog w = .ok (.bool (!q)) w := fun w => by rw [runNeN, hq]
        have HQ := Lib.hid hq
        clear hq
        cases q <;> simp only [Bool.not_false, Bool.not_true] at hF
        · go_wp2
          go_quiet (fail)
          go_wp2
          go_ret
          exact ⟨ret_bool (eqL_at hxk.out hyk.out HQ.out.symm).symm, hbel.drewN _⟩
        · go_wp2
          go_quiet (fail)
          go_wp2
          go_roundw
          case rel => exact ⟨k + 1, by omega, by go_num, Lib.hid (eqL_snoc hsame.out hxk.out hyk.out HQ.out.symm), hbel.drewN _⟩
          case measure => simp [intOf]; omega
      · go_wp2
        go_ret
        obtain rfl : k = n := by omega
        exact ⟨ret_bool (eqL_all HX.out HY.out hsame.out).symm, hbel⟩
  · go_enter Try.func145, Try.ntmps145
    go_wp2
    go_ret
    exact ⟨ret_bool (eqL_len (by rw [HX.out, HY.out]; exact hnm)).symm, Grew.refl _⟩
set_option maxHeartbeats 400000 in
theorem implEqualQueries (va vb : Value) (n m : Nat) (xs ys : List N) (w : World) (ha : Rd w va 7 n (rows N.c xs)) (hb : Rd w vb 7 m (rows N.c ys)) (hx : n ≤ 4000000) (hy : m ≤ 4000000) :
    Calls Try.prog 100 #[va, vb] w fun e w' => e = .returned (.bool (eqL eqN xs ys)) ∧ Grew w w' := by
  go_enter Try.func100, Try.ntmps100
  go_wp2_with (go_at_call 145; refine (slEqualNode va vb n m xs ys _ ha hb hx hy).mono ?_; rintro e w1 ⟨rfl, hb⟩)
  go_ret
  exact ⟨rfl, hb⟩
end Go.Proofs.Ytgekgokkbakcmaa
