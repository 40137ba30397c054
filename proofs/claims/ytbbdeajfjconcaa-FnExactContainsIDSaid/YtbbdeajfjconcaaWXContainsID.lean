/- The walk of laws.FnExactContainsID. -/
import Derived.Test.YtbbdeajfjconcaaC1
import Derived.Test.YtbbdeajfjconcaaO
namespace Go.Proofs.Ytbbdeajfjconcaa.fnExactContainsID
open Go.RowKit
set_option linter.unusedVariables false
set_option maxHeartbeats 400000 in
theorem walkLaw (w : World) (v : Value) (n : Nat) (xs : List Int) (hr : Rd w v 1 n (ints xs)) (hn : n ≤ maxLen) (ho : ∀ a, a ∈ xs → I64 a) (x : Int) (hx : I64 x) :
    Calls Try.prog 4 #[v, .int .i64 x] w fun e w' => e = .returned (.bool true) ∧ Grew w w' := by
  have hr0 := hr
  obtain ⟨a, ca, rfl, hca, hra⟩ := hr
  clear ho
  by_cases hbig : (1048576 : Int) < (n : Int)
  · go_enter Try.func4, Try.ntmps4
    go_wp2
    go_ret
    exact ⟨rfl, Grew.refl _⟩
  · go_enter Try.func4, Try.ntmps4
    go_wp2_with fail
    refine (toIntS _ n xs _ hr0 (by omega)).mono ?_
    rintro e w1 ⟨v1, rfl, o1, g1⟩
    go_wp2_with fail
    refine (specContainsID v1 n xs x _ (rd_of_own o1) (by omega)).mono ?_
    rintro e w2 ⟨rfl, rfl⟩
    go_wp2_with fail
    refine (toIntS _ n xs _ (hr0.grew g1) (by omega)).mono ?_
    rintro e w2 ⟨v2, rfl, o2, g2⟩
    go_wp2_with fail
    refine (implContainsID v2 n xs x _ (rd_of_own o2) (by omega)).mono ?_
    rintro e w3 ⟨rfl, rfl⟩
    go_wp2_with fail
    refine (toIntS _ n xs _ (hr0.grew (g1.trans g2)) (by omega)).mono ?_
    rintro e w3 ⟨v3, rfl, o3, g3⟩
    go_wp2_with fail
    refine (eqIntS v2 v3 n xs _ ((rd_of_own o2).grew g3) (rd_of_own o3) (by omega)).mono ?_
    rintro e w4 ⟨rfl, g4⟩
    go_wp2
    go_ret
    exact ⟨rfl, ((g1.trans g2).trans g3).trans g4⟩
end Go.Proofs.Ytbbdeajfjconcaa.fnExactContainsID
