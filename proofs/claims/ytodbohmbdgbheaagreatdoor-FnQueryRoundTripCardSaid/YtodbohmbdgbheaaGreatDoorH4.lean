/- The laws' helpers over directories, results, diffs and files: copies, comparisons, counts, marks. -/
import Derived.Test.YtodbohmbdgbheaaGreatDoorH3
namespace Go.Proofs.YtodbohmbdgbheaaGreatDoor
open Go.RowKit
set_option linter.unusedVariables false
theorem own_slice {w : World} {base : Nat} {e : TypeId} {k n : Nat} {v : Value} {cs : List Value} (h : w.ownsRow base e k v n cs) : ∃ a cap, v = .slice a n cap := by
  obtain ⟨_, ⟨rfl, rfl⟩ | ⟨g, cap, cur, rfl, _⟩⟩ := h
  · exact ⟨_, _, rfl⟩
  · exact ⟨_, _, rfl⟩
theorem own_of {w : World} {lo : Nat} {e : TypeId} {k n : Nat} {v : Value} {cs : List Value} (h : w.ownsRow lo e k v n cs) : Own w lo w.heap.size e k v n cs := ⟨h, fun b hb => (h.lt b hb).2⟩
theorem Own.blk {w : World} {lo hi : Nat} {e : TypeId} {k n : Nat} {v : Value} {cs : List Value} (h : Own w lo hi e k v n cs) {b : Nat} (hb : v.ownBlock = some b) : lo ≤ b ∧ b < hi := ⟨(h.1.lt b hb).1, h.2 b hb⟩
theorem All2.blk {α β : Type} {O : α → β → Prop} {subs : β → List Value} {lo hi : Nat} (hO : ∀ x p v b, O x p → v ∈ subs p → v.ownBlock = some b → lo ≤ b ∧ b < hi) {xs : List α} {ps : List β} (h : All2 O xs ps) {v : Value} {b : Nat} (hv : v ∈ ps.flatMap subs) (hb : v.ownBlock = some b) : lo ≤ b ∧ b < hi := by
  obtain ⟨p, hp, hvp⟩ := List.mem_flatMap.1 hv
  obtain ⟨i, hi', rfl⟩ := List.getElem_of_mem hp
  obtain ⟨x, hx, hr⟩ := h.get (List.getElem?_eq_getElem hi')
  exact hO _ _ _ _ hr hvp hb
theorem Dis.cons {v : Value} {vs : List Value} (h : Dis vs) (hn : ∀ u b, u ∈ vs → v.ownBlock = some b → u.ownBlock ≠ some b) : Dis (v :: vs) :=
  Dis.app (us := [v]) (Dis.one v) h (fun u w b hu hw hb => by simp at hu; subst hu; exact hn w b hw hb)
theorem Dis.tail {v : Value} {vs : List Value} (h : Dis (v :: vs)) : Dis vs := by
  unfold Dis at *
  rw [List.filterMap_cons] at h
  cases hv : v.ownBlock <;> simp [hv] at h
  · exact h
  · exact h.2
theorem Dis.head {v : Value} {vs : List Value} (h : Dis (v :: vs)) {u : Value} {b : Nat} (hu : u ∈ vs) (hv : v.ownBlock = some b) : u.ownBlock ≠ some b := by
  unfold Dis at h
  rw [List.filterMap_cons, hv] at h
  simp at h
  exact fun hb => h.1 u hu hb
theorem Dis.two {us vs : List Value} (h : Dis (us ++ vs)) {u v : Value} {b : Nat} (hu : u ∈ us) (hv : v ∈ vs) (hb : u.ownBlock = some b) : v.ownBlock ≠ some b := by
  unfold Dis at h
  rw [List.filterMap_append, List.nodup_append] at h
  intro hvb
  exact h.2.2 b (List.mem_filterMap.2 ⟨u, hu, hb⟩) b (List.mem_filterMap.2 ⟨v, hv, hvb⟩) rfl
theorem Dis.left {us vs : List Value} (h : Dis (us ++ vs)) : Dis us := by
  unfold Dis at *
  rw [List.filterMap_append, List.nodup_append] at h
  exact h.1
theorem Dis.right {us vs : List Value} (h : Dis (us ++ vs)) : Dis vs := by
  unfold Dis at *
  rw [List.filterMap_append, List.nodup_append] at h
  exact h.2.1

end Go.Proofs.YtodbohmbdgbheaaGreatDoor
