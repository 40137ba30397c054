/- Texts Z8, as far as they are needed. -/
import Derived.Test.YtgekgokkbakcmaaGreatSt6
namespace Go.Proofs.YtgekgokkbakcmaaGreat
open Go.RowKit
set_option linter.unusedVariables false
theorem dr_small {n : Nat} {xs : List Dr} (h : dirsOk n xs) : ∀ x, x ∈ xs → x.small := fun x hx => by
  have := (h.2 x hx).2.1
  unfold Dr.small; omega
set_option maxRecDepth 100000 in
set_option maxHeartbeats 1000000 in
theorem drawFindDir (v : Value) (w : World) (hc : Cd w v) :
    Calls Tryz.prog 79 #[v] w fun e w' => ∃ u nm, e = .returned (.tuple #[u, .string nm]) ∧ nm.size ≤ 8 ∧ ∃ xs, dirsOk 6 xs ∧ GLd w' w.heap.size u xs ∧ Grew w w' := by
  obtain ⟨n, bs, hr, hn⟩ := hc
  go_enter Tryz.func79, Tryz.ntmps79
  go_wp2_with fail
  refine (l01New v n bs _ hr hn).mono ?_
  rintro e w1 ⟨rfl, hc1, hg1, hs1⟩
  go_wp2_with fail
  refine (l11Any _ _ hc1).mono ?_
  rintro e w2 ⟨u, rfl, xs, hok, hgl, hd⟩
  go_wp2_with fail
  refine (l11Name _ _ hd.cur).mono ?_
  rintro e w3 ⟨nm, rfl, hnm, hd2⟩
  go_wp2
  go_ret2
  exact ⟨_, nm, rfl, hnm, xs, hok, (hgl.d hd2 hs1).base hg1.size, D.out hg1 (hd.trans hd2) (Nat.le_refl _)⟩
set_option maxRecDepth 100000 in
set_option maxHeartbeats 1000000 in
theorem drawStratumOf (v : Value) (w : World) (hc : Cd w v) :
    Calls Tryz.prog 21 #[v] w fun e w' => ∃ u nm, e = .returned (.tuple #[u, .string nm]) ∧ nm.size ≤ 8 ∧ ∃ xs, dirsOk 6 xs ∧ GLd w' w.heap.size u xs ∧ Grew w w' := by
  go_enter Tryz.func21, Tryz.ntmps21
  go_wp2_with fail
  refine (drawFindDir v _ hc).mono ?_
  rintro e w1 ⟨u, nm, rfl, hnm, xs, hok, hgl, hg⟩
  go_wp2
  go_ret2
  exact ⟨_, nm, rfl, hnm, xs, hok, hgl, hg⟩
set_option maxRecDepth 100000 in
set_option maxHeartbeats 1000000 in
theorem drawStrata (v : Value) (w : World) (hc : Cd w v) :
    Calls Tryz.prog 17 #[v] w fun e w' => ∃ u, e = .returned u ∧ ∃ xs, dirsOk 6 xs ∧ GLd w' w.heap.size u xs ∧ Grew w w' := by
  obtain ⟨n, bs, hr, hn⟩ := hc
  go_enter Tryz.func17, Tryz.ntmps17
  go_wp2_with fail
  refine (l01New v n bs _ hr hn).mono ?_
  rintro e w1 ⟨rfl, hc1, hg1, hs1⟩
  go_wp2_with fail
  refine (l11Any _ _ hc1).mono ?_
  rintro e w2 ⟨u, rfl, xs, hok, hgl, hd⟩
  go_wp2
  go_ret
  exact ⟨_, rfl, xs, hok, hgl.base hg1.size, D.out hg1 hd (Nat.le_refl _)⟩
end Go.Proofs.YtgekgokkbakcmaaGreat
