/- The walk of laws.FnExactOpKeyword. -/
import Derived.Test.YtbbdeajfjconcaaC1
import Derived.Test.YtbbdeajfjconcaaO
namespace Go.Proofs.Ytbbdeajfjconcaa.fnExactOpKeyword
open Go.RowKit
set_option linter.unusedVariables false
set_option maxHeartbeats 400000 in
theorem walkLaw (w : World) (x : Int) (hx : I64 x) :
    Calls Try.prog 3 #[.int .i64 x] w fun e w' => e = .returned (.bool true) ∧ Grew w w' := by
  go_enter Try.func3, Try.ntmps3
  go_wp2_with fail
  refine (specOpKeyword x _).mono ?_
  rintro e w1 ⟨rfl, h1⟩
  go_wp2_with fail
  refine (implOpKeyword x _).mono ?_
  rintro e w2 ⟨rfl, h2⟩
  go_wp2
  go_ret
  exact ⟨rfl, h1.trans h2⟩
end Go.Proofs.Ytbbdeajfjconcaa.fnExactOpKeyword
