/- Facts about the whole program's start, computed once for all statements of a seat. -/
import Derived.Test.YtopcdojekjlijaaGreatChecked
import Derived.Test.YtopcdojekjlijaaGreatRows
import Derived.JoinedOf
namespace Go.Proofs.YtopcdojekjlijaaGreat
theorem j3 : (Tryz.pinned.checked.prog.mayEnter && ((Rows.fnExactEvaluationPassesRow.lifted == Tryz.pinned.checked.prog.liftsFinal) && (Tryz.pinned.checked.prog.make == some Rows.fnExactEvaluationPassesRow.make))) = true := by kernel_rfl
theorem j_may : Tryz.pinned.checked.prog.mayEnter = true := (Bool.and_eq_true_iff.1 j3).1
theorem j_lift : Tryz.pinned.checked.prog.liftsFinal = Rows.fnExactEvaluationPassesRow.lifted := (eq_of_beq (Bool.and_eq_true_iff.1 (Bool.and_eq_true_iff.1 j3).2).1).symm
theorem j_make : Tryz.pinned.checked.prog.make = some Rows.fnExactEvaluationPassesRow.make := eq_of_beq (Bool.and_eq_true_iff.1 (Bool.and_eq_true_iff.1 j3).2).2
end Go.Proofs.YtopcdojekjlijaaGreat
