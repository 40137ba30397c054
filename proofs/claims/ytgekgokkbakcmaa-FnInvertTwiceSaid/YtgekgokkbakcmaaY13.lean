/- Texts compared, and where a directory of a name stands: what other modules say where the program sorts texts, else said here. No program in sight. -/
import Derived.Test.YtgekgokkbakcmaaQ0
import Derived.Test.YtgekgokkbakcmaaN5
import Derived.Test.YtgekgokkbakcmaaN2
import Derived.Sort.OwnSorted
import Derived.Lib.RowBridge
namespace Go.Proofs.Ytgekgokkbakcmaa
open Go.RowKit Go.Sort
set_option linter.unusedVariables false
abbrev dl (b : ByteArray) : List UInt8 := b.data.toList
abbrev mkb (l : List UInt8) : ByteArray := ⟨l.toArray⟩
instance : Ordered (List UInt8) where
  irrefl := fun a => List.lt_irrefl a
  trans := fun _ _ _ h k => List.lt_trans h k
  tri := fun a b => by
    rcases Decidable.em (a < b) with h | h
    · exact .inl h
    · rcases Decidable.em (a = b) with e | e
      · exact .inr (.inl e)
      · rcases List.le_iff_lt_or_eq.1 (List.not_lt.1 h) with h1 | h1
        · exact .inr (.inr h1)
        · exact absurd h1.symm e
theorem mkb_dl (b : ByteArray) : mkb (dl b) = b := rfl
theorem less_iff (a b : ByteArray) (v : Bool) : Op.bytesLess a.toList b.toList = v ↔ decide (dl a < dl b) = v := by
  rw [ByteArray.toList_eq, ByteArray.toList_eq, bytesLess_eq]
theorem same_iff (a b : ByteArray) (v : Bool) : (a.toList == b.toList) = v ↔ decide (dl a = dl b) = v := by
  rw [ByteArray.toList_eq, ByteArray.toList_eq]
  rw [Bool.beq_eq_decide_eq]
theorem beqB {a b : ByteArray} : (a.toList == b.toList) = true ↔ a = b := by
  rw [ByteArray.toList_eq, ByteArray.toList_eq]
  constructor
  · intro h
    have h1 : dl a = dl b := by simpa using h
    have h2 : mkb (dl a) = mkb (dl b) := by rw [h1]
    simpa only [mkb_dl] using h2
  · rintro rfl; simp
def plcF : List Dr → ByteArray → Option Nat
  | [], _ => none
  | x :: xs, s => if x.name.toList == s.toList then some 0 else (plcF xs s).map (· + 1)
theorem plcF_no : ∀ {xs : List Dr} {s : ByteArray}, (∀ (j : Nat) y, j < xs.length → xs[j]? = some y → (y.name.toList == s.toList) = false) → plcF xs s = none
  | [], s, h => rfl
  | x :: xs, s, h => by
    have h0 := h 0 x (by simp) (by simp)
    have ih := plcF_no (xs := xs) (s := s) (fun j y hj hy => h (j + 1) y (by simpa using hj) (by simpa using hy))
    unfold plcF; rw [h0, ih]; rfl
theorem plcF_yes : ∀ {xs : List Dr} {s : ByteArray} {k : Nat} {x : Dr}, (∀ (j : Nat) y, j < k → xs[j]? = some y → (y.name.toList == s.toList) = false) → xs[k]? = some x → (x.name.toList == s.toList) = true → plcF xs s = some k
  | [], s, k, x, _, h, _ => by simp at h
  | y :: ys, s, 0, x, h, hx, hn => by
    obtain rfl : y = x := by simpa using hx
    unfold plcF; rw [hn]; rfl
  | y :: ys, s, k + 1, x, h, hx, hn => by
    have h0 := h 0 y (by omega) (by simp)
    have ih := plcF_yes (xs := ys) (s := s) (k := k) (x := x) (fun j z hj hz => h (j + 1) z (by omega) (by simpa using hz)) (by simpa using hx) hn
    unfold plcF; rw [h0, ih]; rfl
theorem plc_cases {xs : List Dr} {s : ByteArray} {n : Nat} {i : Int} (hn : xs.length = n) (h : plc xs s n i) : (i = -1 ∧ Hid (plcF xs s = none)) ∨ ∃ k : Nat, i = k ∧ k < n ∧ Hid (plcF xs s = some k) := by
  rcases h with ⟨h1, h2⟩ | ⟨k, h1, h2, h3, y, h4, h5⟩
  · exact .inl ⟨h1, Lib.hid (plcF_no (by rw [hn]; exact h2))⟩
  · exact .inr ⟨k, h1, h2, Lib.hid (plcF_yes h3 h4 h5)⟩
theorem plcF_lt : ∀ {xs : List Dr} {s : ByteArray} {k : Nat}, plcF xs s = some k → k < xs.length
  | [], s, k, h => by simp [plcF] at h
  | x :: xs, s, k, h => by
    unfold plcF at h
    split at h
    · simp at h; subst h; simp
    · cases hp : plcF xs s with
      | none => rw [hp] at h; simp at h
      | some j => rw [hp] at h; simp at h; have := plcF_lt hp; simp; omega
end Go.Proofs.Ytgekgokkbakcmaa
