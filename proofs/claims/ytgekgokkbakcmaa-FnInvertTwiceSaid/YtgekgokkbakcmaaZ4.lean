/- Contracts of DrawResultIDs, DrawContainsID, DrawEqualResults. -/
import Derived.Test.YtgekgokkbakcmaaZ3
namespace Go.Proofs.Ytgekgokkbakcmaa
open Go.RowKit
set_option linter.unusedVariables false
/-- The bytes of a draw. -/
def Cd (w : World) (v : Value) : Prop := ∃ (n : Nat) (bs : List Int), Rd w v 1 n (bs.map (Value.int .u8)) ∧ n ≤ 1048576
theorem Cd.grew {w w' : World} {v : Value} (h : Cd w v) (hg : Grew w w') : Cd w' v := by
  obtain ⟨n, bs, h1, h2⟩ := h
  exact ⟨n, bs, h1.grew hg, h2⟩
theorem D.out {g : Nat} {a b c : World} (h : Grew a b) (k : D g b c) (hl : a.heap.size ≤ g) : Grew a c := k.2.1.new h hl
theorem GLr.get {w : World} {base : Nat} {v : Value} {xs : List Rs} (h : GLr w base v xs) : ∃ a c ps, v = .slice a xs.length c ∧ w.ownsRow base 151 2 v xs.length (rows P2.c ps) ∧ All2 (Rs.O w base w.heap.size) xs ps := by
  obtain ⟨a, c, rfl⟩ := h.slice
  obtain ⟨ps, h1, h2⟩ := h
  exact ⟨a, c, ps, rfl, h1, h2⟩
end Go.Proofs.Ytgekgokkbakcmaa
