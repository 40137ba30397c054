/- Contracts of DiffIDs, without, IsValidDiff. -/
import Derived.Test.YtgekgokkbakcmaaC6
namespace Go.Proofs.Ytgekgokkbakcmaa
open Go.RowKit
set_option linter.unusedVariables false
/-- The elements of xs that are not in ys. -/
def wo (xs ys : List Int) : List Int := xs.filter (fun x => !(has ys x))
theorem wo_same {xs ys : List Int} {n : Nat} (h : ∀ (j : Nat) y, j < n → xs[j]? = some y → has ys y = false) : wo (xs.take n) ys = xs.take n := by
  unfold wo
  rw [List.filter_eq_self]
  intro a ha
  obtain ⟨j, hj, rfl⟩ := List.getElem_of_mem ha
  have hj2 : j < n := by rw [List.length_take] at hj; omega
  rw [h j _ hj2 (by rw [List.getElem_take, List.getElem?_eq_getElem])]; rfl
theorem wo_yes {xs ys : List Int} {k : Nat} {x : Int} (hx : xs[k]? = some x) (h : has ys x = true) : wo (xs.take (k + 1)) ys = wo (xs.take k) ys := by
  rw [take_snoc hx]; unfold wo; rw [List.filter_append]; simp [h]
theorem wo_no {xs ys : List Int} {k : Nat} {x : Int} (hx : xs[k]? = some x) (h : has ys x = false) : wo (xs.take (k + 1)) ys = wo (xs.take k) ys ++ [x] := by
  rw [take_snoc hx]; unfold wo; rw [List.filter_append]; simp [h]
theorem drop_at {xs : List Int} {j : Nat} {x : Int} (h : xs[j]? = some x) : xs.drop j = x :: xs.drop (j + 1) := by
  obtain ⟨h1, h2⟩ := List.getElem?_eq_some_iff.1 h
  rw [List.drop_eq_getElem_cons h1, h2]
theorem at_drop {P mid xs : List Int} {j : Nat} (hl : P.length + mid.length = j) : (P ++ mid ++ xs.drop j)[j]? = xs[j]? := by
  rw [List.getElem?_append_right (by rw [List.length_append]; omega), List.length_append, List.getElem?_drop]
  congr 1; omega
theorem set_keep {P mid R : List Int} {x : Int} : ∃ mid2, mid2.length = mid.length ∧ (P ++ mid ++ x :: R).set P.length x = P ++ [x] ++ mid2 ++ R := by
  cases mid with
  | nil => exact ⟨[], rfl, by simp⟩
  | cons y m => exact ⟨m ++ [x], by simp, by simp⟩
theorem own_cells {base g n cap : Nat} {e : TypeId} : ∀ (vs : List Value) (k : Nat) (w : World) (cs : List Value), w.ownsRow base e 1 (.slice (some ⟨g, 0, none⟩) n cap) n cs → ∃ cs', (w.setCells g k vs).ownsRow base e 1 (.slice (some ⟨g, 0, none⟩) n cap) n cs' ∧ cs'.take k = cs.take k
  | [], k, w, cs, h => ⟨cs, h, rfl⟩
  | v :: r, k, w, cs, h => by
    obtain ⟨cs', h1, h2⟩ := own_cells r (k + 1) _ _ (ownsRow_stores h k v)
    refine ⟨cs', h1, ?_⟩
    have h3 := congrArg (List.take k) h2
    rw [List.take_take, List.take_take, Nat.min_eq_left (by omega), List.take_set_of_le (Nat.le_refl k)] at h3
    exact h3
theorem grew_cells {W : World} {g : Nat} (hg : W.heap.size ≤ g) : ∀ (vs : List Value) (k : Nat) (w : World), Grew W w → Grew W (w.setCells g k vs)
  | [], k, w, h => h
  | v :: r, k, w, h => grew_cells hg r (k + 1) _ (h.setCell (p := ⟨g, k, none⟩) hg v)
theorem own_cut' {w : World} {base g n cap k : Nat} {e : TypeId} {cs ps : List Value} (h : w.ownsRow base e 1 (.slice (some ⟨g, 0, none⟩) n cap) n cs) (hk : k ≤ n) (hp : cs.take k = ps) : w.ownsRow base e 1 (.slice (some ⟨g, 0, none⟩) k cap) k ps := by
  obtain ⟨hl, ⟨h1, _⟩ | ⟨g', cap', cur, h1, h2, h3, h4, h5, h6, h7⟩⟩ := h
  · cases h1
  · cases h1
    subst hp
    refine ⟨by rw [List.length_take]; omega, .inr ⟨_, _, cur, rfl, h2, h3, by omega, h5, h6, ?_⟩⟩
    rw [← h7, List.take_take, Nat.mul_one, Nat.mul_one, Nat.min_eq_left hk]
end Go.Proofs.Ytgekgokkbakcmaa
