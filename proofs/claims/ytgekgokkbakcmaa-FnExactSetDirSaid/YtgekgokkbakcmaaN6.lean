/- The marks of one directory. -/
import Derived.Test.YtgekgokkbakcmaaH6
namespace Go.Proofs.Ytgekgokkbakcmaa
open Go.RowKit
set_option linter.unusedVariables false
set_option maxRecDepth 100000 in
set_option maxHeartbeats 1000000 in
theorem markDir (x : Dr) (p : P2) (k0 : Int) (w : World) (lo hi : Nat) (h : Dr.O w lo hi x p) (hx : x.query.length ≤ 4000000) (h0 : 0 ≤ k0) (h1 : k0 ≤ 3000000000000000) :
    Calls Try.prog 31 #[p.v, .int .i64 k0] w fun e w' => e = .returned (.int .i64 (k0 + (x.query.length : Int) * 7)) ∧ Dr.O w' lo hi ⟨x.name, (List.range x.query.length).map fun (j : Nat) => mkN (k0 + (j : Int) * 7)⟩ p ∧ Touch lo hi w w' := by
  obtain ⟨pn, pq⟩ := p
  obtain ⟨hn, hq⟩ := h
  simp only at hn hq
  have HN := Lib.hid hn
  clear hn
  have HQ := Lib.hid hq
  obtain ⟨qa, qc, rfl⟩ := own_slice hq.1
  clear hq
  go_enter Try.func31, Try.ntmps31
  go_wp2_with fail
  refine (markNodeS _ x.query.length x.query k0 _ lo hi (HQ.out.grew ((Grew.refl w).alloc _)) hx h0 h1).mono ?_
  rintro e w1 ⟨rfl, ho, ht⟩
  go_wp2
  go_ret
  refine ⟨rfl, ⟨HN.out, ?_⟩, (((Grew.refl w).alloc _).touch lo hi).trans ht⟩
  simpa using ho
end Go.Proofs.Ytgekgokkbakcmaa
