/- Laws by which a region that draws its order is walked operation by operation. No program in sight. -/
import Derived.Deep.RegionHeld3
namespace Go.Proofs.YtodbohmbdgbheaaGreatDoor
section
variable {P : Program} {md : Region.Mode} {ops : Array Oper} {Q : Exit → Act → World → Prop} {S : World → Prop}
theorem at_of_drop {i : Nat} {oi : Oper} {rs : List Oper} (hi : ops.toList.drop i = oi :: rs) : ops[i]? = some oi := by
  have h : (ops.toList.drop i)[0]? = some oi := by rw [hi]; rfl
  rw [List.getElem?_drop] at h
  simpa using h
theorem chk3 {a b c : Bool} (h : (a && (b && c)) = true) : a = true ∧ b = true ∧ c = true := by
  cases a <;> cases b <;> cases c <;> simp_all
/-- An operation that is wanted is taken now: it yields v in every world that meets S. -/
theorem tk (i : Nat) {oi : Oper} {rs : List Oper} {v : Value} {fuel : Nat} {listed : Array Bool} {a : Act} {w : World} (hi : ops.toList.drop i = oi :: rs)
    (hc : (Region.noSelect ops && (Region.free md ops listed i && (Region.ready md ops listed).contains i)) = true)
    (hw : Region.wanted oi (yielded ops a.tmps) = true) (hy : ∀ w, S w → (execOp a.eval oi).run P w = .ok (.value v) w) (hS : S w)
    (h : wpAnyH P md ops (NoPanic Q) S fuel (listed.setIfInBounds i true) (a.put oi.dst v) w) : wpAnyH P md ops (NoPanic Q) S (fuel + 1) listed a w :=
  wpAnyH_take (at_of_drop hi) (chk3 hc).1 (chk3 hc).2.1 (chk3 hc).2.2 (fun _ _ _ h => h) (.inl ⟨hw, hy⟩) hS h
/-- An operation that is not wanted is passed over now. -/
theorem sk (i : Nat) {oi : Oper} {rs : List Oper} {fuel : Nat} {listed : Array Bool} {a : Act} {w : World} (hi : ops.toList.drop i = oi :: rs)
    (hc : (Region.noSelect ops && (Region.free md ops listed i && (Region.ready md ops listed).contains i)) = true)
    (hw : Region.wanted oi (yielded ops a.tmps) = false) (hS : S w)
    (h : wpAnyH P md ops (NoPanic Q) S fuel (listed.setIfInBounds i true) (a.put oi.dst undef) w) : wpAnyH P md ops (NoPanic Q) S (fuel + 1) listed a w :=
  wpAnyH_take (at_of_drop hi) (chk3 hc).1 (chk3 hc).2.1 (chk3 hc).2.2 (fun _ _ _ h => h) (.inr ⟨hw, rfl⟩) hS h
/-- The one operation that may come up is run. -/
theorem cl (i : Nat) {oi : Oper} {rs : List Oper} {fuel : Nat} {listed : Array Bool} {a : Act} {w : World} (hi : ops.toList.drop i = oi :: rs) (hr : Region.ready md ops listed = [i])
    (h : ∀ K' : Act → World → Prop, Shut (∀ a w, S w → (S w → wpAnyH P md ops Q S fuel (listed.setIfInBounds i true) a w) → K' a w) → if Region.wanted oi (yielded ops a.tmps) = true then Oper.wp P oi a w K' Q else K' (a.put oi.dst undef) w) :
    wpAnyH P md ops Q S (fuel + 1) listed a w :=
  wpAnyH_ready hr (by simp) (AllReadyH.cons (at_of_drop hi) h AllReadyH.nil)
end
theorem lpa {α : Type} (l : List α) (i : Nat) (a : α) : l.toArray.setIfInBounds i a = (l.set i a).toArray := List.setIfInBounds_toArray ..
theorem lpb {α : Type} (a b : α) (l : List α) : (a :: l).set 0 b = b :: l := List.set_cons_zero ..
theorem lpc {α : Type} (a b : α) (l : List α) (i : Nat) : (a :: l).set (i + 1) b = a :: l.set i b := List.set_cons_succ ..
section
variable {P : Program} {md : Region.Mode} {ops : Array Oper} {Q : Exit → Act → World → Prop} {S : World → Prop}
/-- tk, sk and cl with their side goals shown as they are always shown. -/
theorem tk' (i : Nat) {oi : Oper} {rs : List Oper} {v : Value} {fuel : Nat} {listed listed' : Array Bool} {a a' : Act} {w : World} (hS : S w)
    (h : wpAnyH P md ops (NoPanic Q) S fuel listed' a' w)
    (hi : ops.toList.drop i = oi :: rs := by rfl)
    (hc : (Region.noSelect ops && (Region.free md ops listed i && (Region.ready md ops listed).contains i)) = true := by kernel_rfl)
    (hw : Region.wanted oi (yielded ops a.tmps) = true := by rfl)
    (hy : ∀ w, S w → (execOp a.eval oi).run P w = .ok (.value v) w := by (intro w' hSw; (try dsimp only at hSw); go_simp <;> (with_reducible rfl)))
    (hl : listed.setIfInBounds i true = listed' := by ((try simp only [lpa, lpb, lpc]) <;> rfl))
    (ha : a.put oi.dst v = a' := by ((try simp only [Act.put, lpa, lpb, lpc]) <;> rfl)) :
    wpAnyH P md ops (NoPanic Q) S (fuel + 1) listed a w := by subst hl; subst ha; exact tk i hi hc hw hy hS h
theorem sk' (i : Nat) {oi : Oper} {rs : List Oper} {fuel : Nat} {listed listed' : Array Bool} {a a' : Act} {w : World} (hS : S w)
    (h : wpAnyH P md ops (NoPanic Q) S fuel listed' a' w)
    (hi : ops.toList.drop i = oi :: rs := by rfl)
    (hc : (Region.noSelect ops && (Region.free md ops listed i && (Region.ready md ops listed).contains i)) = true := by kernel_rfl)
    (hw : Region.wanted oi (yielded ops a.tmps) = false := by rfl)
    (hl : listed.setIfInBounds i true = listed' := by ((try simp only [lpa, lpb, lpc]) <;> rfl))
    (ha : a.put oi.dst undef = a' := by ((try simp only [Act.put, lpa, lpb, lpc]) <;> rfl)) :
    wpAnyH P md ops (NoPanic Q) S (fuel + 1) listed a w := by subst hl; subst ha; exact sk i hi hc hw hS h
theorem cl' (i : Nat) {oi : Oper} {rs : List Oper} {fuel : Nat} {listed : Array Bool} {a : Act} {w : World}
    (h : ∀ K' : Act → World → Prop, Shut (∀ a w, S w → (S w → wpAnyH P md ops Q S fuel (listed.setIfInBounds i true) a w) → K' a w) → if Region.wanted oi (yielded ops a.tmps) = true then Oper.wp P oi a w K' Q else K' (a.put oi.dst undef) w)
    (hi : ops.toList.drop i = oi :: rs := by rfl) (hr : Region.ready md ops listed = [i] := by kernel_rfl) :
    wpAnyH P md ops Q S (fuel + 1) listed a w := cl i hi hr h
end
end Go.Proofs.YtodbohmbdgbheaaGreatDoor
