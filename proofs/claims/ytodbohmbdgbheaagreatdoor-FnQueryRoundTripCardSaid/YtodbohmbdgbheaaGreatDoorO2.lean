/- Arguments that are structures with slices in them, opened into what the walks ask. -/
import Derived.Test.YtodbohmbdgbheaaGreatDoorO
import Derived.Test.YtodbohmbdgbheaaGreatDoorH6
namespace Go.Proofs.YtodbohmbdgbheaaGreatDoor
open Go.ChangeShapes Go.WideShapes Go.ChangeAt Go.RowKit
open Go.ChangeMaps (open_string shut_string)
set_option linter.unusedVariables false
theorem V.ok.to0 {x : V} (h : x.ok) : x.ok0 := h.2.2
theorem N.ok.to0 {x : N} (h : x.ok) : x.ok0 := ⟨h.2.2.2.1, h.2.2.2.2.to0⟩
theorem Fd.ok.to0 {x : Fd} (h : x.ok) : x.ok0 := h.1
theorem At.ok.to0 {x : At} (h : x.ok) : x.ok0 := ⟨h.1, h.2.to0⟩
theorem pick2 {α β : Type} {Q : α → β → Prop} : ∀ (ps : List β), (∀ p, p ∈ ps → ∃ x, Q x p) → ∃ xs, All2 Q xs ps := by
  intro ps
  induction ps with
  | nil => intro _; exact ⟨[], All2.nil⟩
  | cons p ps ih =>
    intro h
    obtain ⟨x, hx⟩ := h p (by simp)
    obtain ⟨xs, hxs⟩ := ih (fun q hq => h q (by simp [hq]))
    refine ⟨x :: xs, by simp [hxs.1], fun i a b ha hb => ?_⟩
    cases i with
    | zero => simp at ha hb; subst ha; subst hb; exact hx
    | succ i => exact hxs.2 i a b (by simpa using ha) (by simpa using hb)
theorem mem_get {α : Type} {x : α} {xs : List α} (h : x ∈ xs) : ∃ i : Nat, xs[i]? = some x := by
  obtain ⟨i, hi, rfl⟩ := List.getElem_of_mem h
  exact ⟨i, List.getElem?_eq_getElem hi⟩
theorem All2.mem {α β : Type} {R : α → β → Prop} {xs : List α} {ys : List β} (h : All2 R xs ys) {x : α} (hx : x ∈ xs) : ∃ y, R x y := by
  obtain ⟨i, hi⟩ := mem_get hx
  have hl := (List.getElem?_eq_some_iff.1 hi).1
  exact ⟨_, h.2 i _ _ hi (List.getElem?_eq_getElem (show i < ys.length by rw [← h.1]; exact hl))⟩
section
variable {H : Type} {enc : TypeId × Value → H} {w : World} {base : Nat} {spare : Nat → Bool} {held : Bool}
theorem getU {n : Nat} {cs : List Value} {y : DataW H × List MemPlace} (h : DataW.trod enc Tryz.prog w base spare held n 5 cs = some y) : ∃ a : Int, cs = [.int .u8 a] ∧ 0 ≤ a ∧ a ≤ 255 := by
  obtain ⟨a, rfl, _, hw⟩ := DataW.trod_int Tryz.underlying5 h
  exact ⟨a, rfl, by simpa [Lit.wf, IntKind.min, IntKind.max, IntKind.signed, IntKind.bits] using hw⟩
theorem open_bytes {fuel : Nat} {v : Value} {x : DataW H × List MemPlace} (h : DataW.trod enc Tryz.prog w base spare held fuel 22 [v] = some x) :
    ∃ n, ∃ xs : List Int, Rd w v 1 n (xs.map (Value.int .u8)) ∧ n ≤ maxLen ∧ ∀ a : Int, a ∈ xs → 0 ≤ a ∧ a ≤ 255 := by
  obtain ⟨n, xs, h1, h2⟩ := open_rows (f := fun a => [Value.int .u8 a]) (ok := fun a : Int => 0 ≤ a ∧ a ≤ 255) Tryz.underlying22 (by kernel_rfl) (by decide) (fun _ => rfl) (fun n cs y h => getU h) h
  exact ⟨n, xs, by rw [rows_one] at h1; exact h1, h2⟩
end
end Go.Proofs.YtodbohmbdgbheaaGreatDoor
