/- Contracts of the draws of the laws over directories. -/
import Derived.Test.YtgekgokkbakcmaaZ7
namespace Go.Proofs.Ytgekgokkbakcmaa
open Go.RowKit
set_option linter.unusedVariables false
theorem dr_small {n : Nat} {xs : List Dr} (h : dirsOk n xs) : ∀ x, x ∈ xs → x.small := fun x hx => by
  have := (h.2 x hx).2.1
  unfold Dr.small; omega
set_option maxRecDepth 100000 in
set_option maxHeartbeats 1000000 in
theorem drawFindDir (v : Value) (w : World) (hc : Cd w v) :
    Calls Try.prog 96 #[v] w fun e w' => ∃ u nm, e = .returned (.tuple #[u, .string nm]) ∧ nm.size ≤ 8 ∧ ∃ xs, dirsOk 6 xs ∧ GLd w' w.heap.size u xs ∧ Grew w w' := by
  obtain ⟨n, bs, hr, hn⟩ := hc
  go_enter Try.func96, Try.ntmps96
  go_wp2_with fail
  refine (l01New v n bs _ hr hn).mono ?_
  rintro e w1 ⟨rfl, hc1, hg1, hs1⟩
  go_wp2_with fail
  refine (l11Any _ _ hc1).mono ?_
  rintro e w2 ⟨u, rfl, xs, hok, hgl, hd⟩
  go_wp2_with fail
  refine (l11Name _ _ hd.cur).mono ?_
  rintro e w3 ⟨nm, rfl, hnm, hd2⟩
  go_wp2
  go_ret2
  exact ⟨_, nm, rfl, hnm, xs, hok, (hgl.d hd2 hs1).base hg1.size, D.out hg1 (hd.trans hd2) (Nat.le_refl _)⟩
set_option maxRecDepth 100000 in
set_option maxHeartbeats 1000000 in
theorem drawRemoveDir (v : Value) (w : World) (hc : Cd w v) :
    Calls Try.prog 43 #[v] w fun e w' => ∃ u nm, e = .returned (.tuple #[u, .string nm]) ∧ nm.size ≤ 8 ∧ ∃ xs, dirsOk 6 xs ∧ GLd w' w.heap.size u xs ∧ Grew w w' := by
  go_enter Try.func43, Try.ntmps43
  go_wp2_with fail
  refine (drawFindDir v _ hc).mono ?_
  rintro e w1 ⟨u, nm, rfl, hnm, xs, hok, hgl, hg⟩
  go_wp2
  go_ret2
  exact ⟨_, nm, rfl, hnm, xs, hok, hgl, hg⟩
end Go.Proofs.Ytgekgokkbakcmaa
