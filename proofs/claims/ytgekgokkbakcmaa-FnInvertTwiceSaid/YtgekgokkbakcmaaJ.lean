/- Facts about the whole program's start, computed once for all statements of a seat. -/
import Derived.Test.YtgekgokkbakcmaaChecked
import Derived.Test.YtgekgokkbakcmaaRows
import Derived.JoinedOf
namespace Go.Proofs.Ytgekgokkbakcmaa
theorem j3 : (Try.pinned.checked.prog.mayEnter && ((Rows.fnInvertTwiceRow.lifted == Try.pinned.checked.prog.liftsFinal) && (Try.pinned.checked.prog.make == some Rows.fnInvertTwiceRow.make))) = true := by kernel_rfl
theorem j_may : Try.pinned.checked.prog.mayEnter = true := (Bool.and_eq_true_iff.1 j3).1
theorem j_lift : Try.pinned.checked.prog.liftsFinal = Rows.fnInvertTwiceRow.lifted := (eq_of_beq (Bool.and_eq_true_iff.1 (Bool.and_eq_true_iff.1 j3).2).1).symm
theorem j_make : Try.pinned.checked.prog.make = some Rows.fnInvertTwiceRow.make := eq_of_beq (Bool.and_eq_true_iff.1 (Bool.and_eq_true_iff.1 j3).2).2
end Go.Proofs.Ytgekgokkbakcmaa
