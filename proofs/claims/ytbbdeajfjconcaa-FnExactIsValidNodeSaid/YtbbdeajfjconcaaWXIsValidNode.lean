/- The walk of laws.FnExactIsValidNode. -/
import Derived.Test.YtbbdeajfjconcaaC3
import Derived.Test.YtbbdeajfjconcaaO
namespace Go.Proofs.Ytbbdeajfjconcaa.fnExactIsValidNode
open Go.RowKit
set_option linter.unusedVariables false
set_option maxHeartbeats 1000000 in
theorem walkLaw (w : World) (a : N) (ha : a.ok) (x : Int) (hx : I64 x) :
    Calls Try.prog 7 #[.agg (a.c).toArray, .int .i64 x] w fun e w' => e = .returned (.bool true) ∧ Grew w w' := by
  have hok : a.ok0 := ⟨ha.2.2.2.1, ha.2.2.2.2.2.2⟩
  clear ha hx
  change Calls Try.prog 7 #[a.v, .int .i64 x] w _
  go_enter Try.func7, Try.ntmps7
  go_wp2_with fail
  refine (szNode a _ _ (by omega) (by omega) hok).mono ?_
  rintro e w1 ⟨r1, rfl, h1, g1⟩
  have c0 := grew_cell (a := ⟨w.heap.size, 0, none⟩) g1 (by simp [go_sem]; rfl)
  have c1 := grew_cell (a := ⟨w.heap.size, 1, none⟩) g1 (by simp [go_sem]; rfl)
  have c2 := grew_cell (a := ⟨w.heap.size, 2, none⟩) g1 (by simp [go_sem]; rfl)
  have c3 := grew_cell (a := ⟨w.heap.size, 3, none⟩) g1 (by simp [go_sem]; rfl)
  have c4 := grew_cell (a := ⟨w.heap.size, 4, none⟩) g1 (by simp [go_sem]; rfl)
  have c5 := grew_cell (a := ⟨w.heap.size, 5, none⟩) g1 (by simp [go_sem]; rfl)
  have c6 := grew_cell (a := ⟨w.heap.size, 6, none⟩) g1 (by simp [go_sem]; rfl)
  rcases h1 with rfl | ⟨h1, h2⟩
  · go_wp2
    go_ret
    exact ⟨rfl, ((Grew.refl _).alloc _).trans g1⟩
  · have hs1 : a.name.size ≤ 4000000 := by unfold N.sz V.sz at h1; omega
    have hs2 : a.val.str.size ≤ 4000000 := by unfold N.sz V.sz at h1; omega
    clear h1
    go_wp2_with fail
    refine (toNode a _).mono ?_
    rintro e w2 ⟨rfl, g2⟩
    have d0 := grew_cell g2 c0
    have d1 := grew_cell g2 c1
    have d2 := grew_cell g2 c2
    have d3 := grew_cell g2 c3
    have d4 := grew_cell g2 c4
    have d5 := grew_cell g2 c5
    have d6 := grew_cell g2 c6
    go_wp2_with fail
    refine (specIsValidNode a x _ hs1 hs2).mono ?_
    rintro e w3 ⟨rfl, g3⟩
    have e0 := grew_cell g3 d0
    have e1 := grew_cell g3 d1
    have e2 := grew_cell g3 d2
    have e3 := grew_cell g3 d3
    have e4 := grew_cell g3 d4
    have e5 := grew_cell g3 d5
    have e6 := grew_cell g3 d6
    go_wp2_with fail
    refine (toNode a _).mono ?_
    rintro e w4 ⟨rfl, g4⟩
    go_wp2_with fail
    refine (implIsValidNode a x _ hs1 hs2).mono ?_
    rintro e w5 ⟨rfl, g5⟩
    go_wp2
    go_ret
    exact ⟨rfl, (((((Grew.refl _).alloc _).trans g1).trans g2).trans g3).trans (g4.trans g5)⟩
end Go.Proofs.Ytbbdeajfjconcaa.fnExactIsValidNode
