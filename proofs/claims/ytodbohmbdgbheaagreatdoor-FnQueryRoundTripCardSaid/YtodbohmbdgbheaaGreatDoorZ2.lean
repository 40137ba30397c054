/- Contracts of the draws of names, numbers, lists of numbers and results. -/
import Derived.Test.YtodbohmbdgbheaaGreatDoorZ1
import Derived.Test.YtodbohmbdgbheaaGreatDoorC6
import Derived.Test.YtodbohmbdgbheaaGreatDoorG
import Derived.Test.YtodbohmbdgbheaaGreatDoorI0
namespace Go.Proofs.YtodbohmbdgbheaaGreatDoor
open Go.RowKit
set_option linter.unusedVariables false
section
variable {P : Program} {md : Region.Mode} {ops : Array Oper} {Q : Exit → Act → World → Prop} {S : World → Prop}
/-- Two operations may come up: either is run. -/
theorem cl2 (i j : Nat) {oi oj : Oper} {rs rt : List Oper} {fuel : Nat} {listed : Array Bool} {a : Act} {w : World} (hi : ops.toList.drop i = oi :: rs) (hj : ops.toList.drop j = oj :: rt) (hr : Region.ready md ops listed = [i, j])
    (h : ∀ K' : Act → World → Prop, Shut (∀ a w, S w → (S w → wpAnyH P md ops Q S fuel (listed.setIfInBounds i true) a w) → K' a w) → if Region.wanted oi (yielded ops a.tmps) = true then Oper.wp P oi a w K' Q else K' (a.put oi.dst undef) w)
    (h' : ∀ K' : Act → World → Prop, Shut (∀ a w, S w → (S w → wpAnyH P md ops Q S fuel (listed.setIfInBounds j true) a w) → K' a w) → if Region.wanted oj (yielded ops a.tmps) = true then Oper.wp P oj a w K' Q else K' (a.put oj.dst undef) w) :
    wpAnyH P md ops Q S (fuel + 1) listed a w :=
  wpAnyH_ready hr (by simp) (AllReadyH.cons (at_of_drop hi) h (AllReadyH.cons (at_of_drop hj) h' AllReadyH.nil))
end
theorem lit_rd (w : World) (cs : Array Value) (e : TypeId) (k n cap : Nat) (hl : cs.size = n * k) (hc : n ≤ cap) : Rd (w.alloc (.cells cs e)) (.slice (some ⟨w.heap.size, 0, none⟩) n cap) k n cs.toList := by
  refine ⟨_, cap, rfl, hc, by simpa using hl, fun _ => ⟨_, 0, rfl, fun j hj => ?_⟩⟩
  rw [Nat.zero_add, World.cell?_alloc_at (w := w) cs e w.heap.size j rfl, Array.getElem?_toList]
theorem lit_owns (w : World) (cs : Array Value) (e : TypeId) (k n : Nat) (hl : cs.size = n * k) (hc : n ≤ maxLen) : (w.alloc (.cells cs e)).ownsRow w.heap.size e k (.slice (some ⟨w.heap.size, 0, none⟩) n n) n cs.toList :=
  ⟨by simpa using hl, .inr ⟨w.heap.size, n, cs, rfl, Nat.le_refl _, heap_alloc_new w _, Nat.le_refl _, hc, hl, by rw [← hl, ← Array.length_toList, List.take_length]⟩⟩
theorem lit_news {w : World} {cs : Array Value} {e : TypeId} {g : Nat} (hg : g = w.heap.size) : ∀ j u, cs.toList[j]? = some u → (w.alloc (.cells cs e)).cell? ((⟨g, 0, none⟩ : Addr).add j) = some u := by
  subst hg
  intro j u hu
  rw [Addr.add_lit, Nat.zero_add, World.cell?_alloc_at (w := w) cs e w.heap.size j rfl, ← Array.getElem?_toList]
  exact hu
theorem cur_ne {w : World} {g n c : Nat} (h : Cur w g) : (Value.slice (some ⟨w.heap.size, 0, none⟩) n c).ownBlock ≠ some g := by
  have := h.lt; simp [Value.ownBlock]; omega
set_option maxRecDepth 100000 in
set_option maxHeartbeats 1000000 in
theorem l09DirName (g : Nat) (w : World) (hc : Cur w g) :
    Calls Tryz.prog 68 #[.pointer (some ⟨g, 0, none⟩)] w fun e w' => ∃ x : ByteArray, e = .returned (.string x) ∧ x.size ≤ 8 ∧ D g w w' := by
  go_enter Tryz.func68, Tryz.ntmps68
  go_wp2_with fail
  refine (l01Pick g _ (hc.grew ((Grew.refl w).alloc _)) _ 7 [⟨#[100, 97]⟩, ⟨#[100, 98]⟩, ⟨#[100, 99]⟩, ⟨#[100, 100]⟩, ⟨#[100, 97]⟩, ⟨#[100, 98]⟩, ⟨#[100, 99]⟩] (lit_rd w _ _ 1 7 7 rfl (Nat.le_refl _)) (cur_ne hc) (by decide) (by decide)).mono ?_
  rintro e w1 ⟨x, rfl, hx, hd⟩
  go_wp2
  go_ret
  refine ⟨_, rfl, ?_, (D.refl hc).alloc _ |>.trans hd⟩
  simp at hx
  rcases hx with rfl | rfl | rfl | rfl | rfl | rfl | rfl <;> decide
/-- Ascending numbers from 1 on, below k. -/
def idsOk (k : Nat) (xs : List Int) : Prop := xs.Pairwise (· < ·) ∧ (∀ x, x ∈ xs → 1 ≤ x ∧ x < k) ∧ xs.length + 1 ≤ k
theorem idsOk.snoc {k : Nat} {xs : List Int} (h : idsOk k xs) : idsOk (k + 1) (xs ++ [(k : Int)]) := by
  obtain ⟨h1, h2, h3⟩ := h
  refine ⟨List.pairwise_append.2 ⟨h1, by simp, fun a ha b hb => by simp at hb; subst hb; exact (h2 a ha).2⟩, fun x hx => ?_, by simp; omega⟩
  rw [List.mem_append] at hx
  rcases hx with hx | hx
  · have := h2 x hx; omega
  · simp at hx; omega
theorem idsOk.up {k : Nat} {xs : List Int} (h : idsOk k xs) : idsOk (k + 1) xs :=
  ⟨h.1, fun x hx => by have := h.2.1 x hx; omega, by have := h.2.2; omega⟩
end Go.Proofs.YtodbohmbdgbheaaGreatDoor
