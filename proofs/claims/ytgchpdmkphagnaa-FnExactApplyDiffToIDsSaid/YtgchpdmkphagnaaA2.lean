/- The marks of one difference. -/
import Derived.Test.YtgchpdmkphagnaaH5
namespace Go.Proofs.Ytgchpdmkphagnaa
open Go.RowKit
set_option linter.unusedVariables false
set_option maxRecDepth 100000 in
set_option maxHeartbeats 1000000 in
theorem markDiff (x : Df) (p : P3) (k0 : Int) (w : World) (lo hi : Nat) (h : Df.O w lo hi x p) (hd : Dis (Df.subs p)) (hx : x.added.length ≤ 4000000 ∧ x.removed.length ≤ 4000000) (h0 : 0 ≤ k0) (h1 : k0 ≤ 2000000000000000) :
    Calls Try.prog 71 #[p.v, .int .i64 k0] w fun e w' => e = .returned (.int .i64 (k0 + x.added.length + x.removed.length)) ∧ True ∧ Touch lo hi w w' := by
  obtain ⟨pn, pq, pr⟩ := p
  obtain ⟨hn, hq, hr⟩ := h
  simp only at hn hq hr
  obtain ⟨hxa, hxr⟩ := hx
  clear hn
  have hdis : ∀ b, pq.ownBlock = some b → pr.ownBlock ≠ some b := fun b hb => Dis.head (u := pr) hd (by simp) hb
  obtain ⟨lo1, hi1, hl1, hh1, hqt, htight⟩ := hq.tight
  have HQ := Lib.hid hqt
  have HR := Lib.hid hr
  have HD := Lib.hid (show ∀ c, pr.ownBlock = some c → c < lo1 ∨ hi1 ≤ c from fun c hc => by
    rcases Nat.lt_or_ge c lo1 with h | h
    · exact .inl h
    · rcases Nat.lt_or_ge c hi1 with h2 | h2
      · exact absurd hc (hdis c (htight c h h2))
      · exact .inr h2)
  obtain ⟨qa, qc, rfl⟩ := own_slice hq.1
  obtain ⟨ra, rc, rfl⟩ := own_slice hr.1
  have hbx : w.heap.size < lo1 ∨ hi1 ≤ w.heap.size := by
    rcases Nat.lt_or_ge w.heap.size lo1 with h | h
    · exact .inl h
    · rcases Nat.lt_or_ge w.heap.size hi1 with h2 | h2
      · have := (HQ.out.1.lt _ (htight _ h h2)).2; omega
      · exact .inr h2
  clear hq hr hqt htight hdis hd
  have f0 : (w.alloc (.cells #[.string pn, .slice qa x.added.length qc, .slice ra x.removed.length rc] 86)).cell? ⟨w.heap.size, 2, none⟩ = some (.slice ra x.removed.length rc) := by simp
  have hg := (Grew.refl w).alloc (.cells #[.string pn, .slice qa x.added.length qc, .slice ra x.removed.length rc] 86)
  go_enter Try.func71, Try.ntmps71
  go_wp2_with fail
  refine (markIntS _ x.added.length x.added k0 _ lo1 hi1 (HQ.out.grew hg) hxa h0 (by omega)).mono ?_
  rintro e w1 ⟨rfl, ho, ht⟩
  have hr1 := Lib.hid (Own.touch' (HR.out.grew hg) ht HD.out)
  have f1 := touch_cell ht hbx f0
  have ht2 : Touch lo hi w w1 := (hg.touch lo hi).trans (ht.mono hl1 hh1)
  clear ho f0
  go_wp2_with fail
  refine (markIntS _ x.removed.length x.removed _ _ lo hi hr1.out hxr (by omega) (by omega)).mono ?_
  rintro e w2 ⟨rfl, _, ht3⟩
  go_wp2
  go_ret
  exact ⟨rfl, trivial, ht2.trans ht3⟩
end Go.Proofs.Ytgchpdmkphagnaa
