/- Contracts of slices.Clone, slices.DeleteFunc and of without. -/
import Derived.Test.YtodbohmbdgbheaaGreatDoorC1
import Derived.Lib.SliceRun
namespace Go.Proofs.YtodbohmbdgbheaaGreatDoor
open Go.RowKit
set_option linter.unusedVariables false
theorem alloc_heap (w : World) (o : Obj) : (w.alloc o).heap = w.heap.push o := rfl
theorem lit_own (w : World) (e : TypeId) (k : Nat) : (w.alloc (.cells #[] e)).ownsRow w.heap.size e k (.slice (some ⟨w.heap.size, 0, none⟩) 0 0) 0 [] :=
  ⟨by simp, .inr ⟨w.heap.size, 0, #[], rfl, Nat.le_refl _, by rw [alloc_heap]; simp, Nat.le_refl _, by simp [maxLen], by simp, by simp⟩⟩
theorem rd_news {w w' : World} {a : Addr} {k n : Nat} {cs : List Value} (h : RdA w (some a) k n cs) (hg : Grew w w') : ∀ j u, cs[j]? = some u → w'.cell? (a.add j) = some u := fun j u hu => by
  have hj := (List.getElem?_eq_some_iff.1 hu).1
  rw [h.1] at hj
  have hn : 0 < n := by
    rcases Nat.eq_zero_or_pos n with h0 | h0
    · subst h0; omega
    · exact h0
  obtain ⟨b, o, h1, h2⟩ := h.2 hn
  obtain rfl := Option.some.inj h1
  have h3 := grew_cell hg ((h2 j hj).trans hu)
  cases j with
  | zero => simpa [Addr.add] using h3
  | succ j => simpa [Addr.add] using h3
theorem Tryz.infoBool : (Tryz.prog.info? 4).map (fun i => (i.zero, i.size, i.bytes)) = some (some (.bool false), 1, 1) := by kernel_rfl
theorem Tryz.infoString : (Tryz.prog.info? 9).map (fun i => (i.zero, i.size, i.bytes)) = some (some (.string ⟨#[]⟩), 1, 16) := by kernel_rfl
theorem Tryz.infoInt : (Tryz.prog.info? 3).map (fun i => (i.zero, i.size, i.bytes)) = some (some (.int .i64 0), 1, 8) := by kernel_rfl
end Go.Proofs.YtodbohmbdgbheaaGreatDoor
