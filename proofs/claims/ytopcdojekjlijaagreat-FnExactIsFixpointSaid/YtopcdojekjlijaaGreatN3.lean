/- Contracts of DiffResults. -/
import Derived.Test.YtopcdojekjlijaaGreatR1
import Derived.Test.YtopcdojekjlijaaGreatD2
import Derived.Test.YtopcdojekjlijaaGreatG
import Derived.Test.YtopcdojekjlijaaGreatS
namespace Go.Proofs.YtopcdojekjlijaaGreat
open Go.RowKit
set_option linter.unusedVariables false
/-- Rows of two types lie in two blocks. -/
theorem own_type {w : World} {B B' : Nat} {e e' : TypeId} {k k' n n' : Nat} {v v' : Value} {xs xs' : List Value} (h : w.ownsRow B e k v n xs) (h' : w.ownsRow B' e' k' v' n' xs') (hne : e ≠ e') {b : Nat} (hb : v.ownBlock = some b) : v'.ownBlock ≠ some b := by
  intro hb'
  obtain ⟨_, ⟨rfl, _⟩ | ⟨g, cap, cur, rfl, _, hh, _⟩⟩ := h
  · cases hb
  obtain ⟨_, ⟨rfl, _⟩ | ⟨g', cap', cur', rfl, _, hh', _⟩⟩ := h'
  · cases hb'
  cases hb; cases hb'
  rw [hh] at hh'
  injection Option.some.inj hh' with h1 h2
  exact hne h2
/-- A row outlives the growth of a row of another type. -/
theorem own_grown {w w' : World} {B lo hi : Nat} {e e' : TypeId} {k k' n n' : Nat} {v v' : Value} {xs xs' : List Value} (h : Own w lo hi e k v n xs) (h' : w.ownsRow B e' k' v' n' xs') (hne : e ≠ e') (hg : w.grownBy w' v'.ownBlock) : Own w' lo hi e k v n xs := by
  refine ⟨h.1.kept hg ?_, h.2⟩
  cases hb : v.ownBlock with
  | none => exact .inl rfl
  | some b => exact .inr (fun h3 => own_type h.1 h' hne hb h3.symm)
theorem news3 {w : World} {a b c : Value} {e : TypeId} {g : Nat} (hg : g = w.heap.size) : ∀ j u, [a, b, c][j]? = some u → (w.alloc (.cells #[a, b, c] e)).cell? ((⟨g, 0, none⟩ : Addr).add j) = some u := by
  subst hg
  intro j u hu
  match j with
  | 0 => simp at hu; subst hu; simp [Addr.add]
  | 1 => simp at hu; subst hu; simp [Addr.add]
  | 2 => simp at hu; subst hu; simp [Addr.add]
  | j + 3 => simp at hu
end Go.Proofs.YtopcdojekjlijaaGreat
