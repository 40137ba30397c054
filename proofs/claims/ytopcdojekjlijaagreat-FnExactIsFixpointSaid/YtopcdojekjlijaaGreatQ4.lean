/- Contracts of QueryDirs. -/
import Derived.Test.YtopcdojekjlijaaGreatQ3
import Derived.Test.YtopcdojekjlijaaGreatC4
namespace Go.Proofs.YtopcdojekjlijaaGreat
open Go.RowKit Go.Sort
set_option linter.unusedVariables false

/-- The names that nodes of these kinds bear. -/
def qDirsN (xs : List N) : List ByteArray := (xs.filter fun x => inB x.op 8 9).map N.name
theorem qDirsN_yes {xs : List N} {k : Nat} {x : N} (h : xs[k]? = some x) (hh : inB x.op 8 9 = true) : qDirsN (xs.take (k + 1)) = qDirsN (xs.take k) ++ [x.name] := by
  rw [take_snoc h]; unfold qDirsN; rw [List.filter_append, List.map_append]; simp [hh]
theorem qDirsN_no {xs : List N} {k : Nat} {x : N} (h : xs[k]? = some x) (hh : inB x.op 8 9 = false) : qDirsN (xs.take (k + 1)) = qDirsN (xs.take k) := by
  rw [take_snoc h]; unfold qDirsN; rw [List.filter_append, List.map_append]; simp [hh]
theorem qDirsN_le (xs : List N) : (qDirsN xs).length ≤ xs.length := by
  unfold qDirsN; rw [List.length_map]; exact List.length_filter_le _ _
theorem qDirsN_tk (xs : List N) (k : Nat) : (qDirsN (xs.take k)).length ≤ k := Nat.le_trans (qDirsN_le _) (by rw [List.length_take]; omega)
def qDirs (xs : List N) : List ByteArray := so (qDirsN xs)
theorem qDirs_le (xs : List N) : (qDirs xs).length ≤ xs.length := Nat.le_trans (so_len _) (qDirsN_le xs)
set_option maxRecDepth 100000 in
set_option maxHeartbeats 400000 in
theorem namesDir (x : N) (w : World) :
    Calls Tryz.prog 143 #[x.v] w fun e w' => e = .returned (.bool (inB x.op 8 9)) ∧ Grew w w' := by
  obtain ⟨op, l, r, nm, v⟩ := x
  have hop : op = 8 ∨ op = 9 ∨ (¬ op = 8 ∧ ¬ op = 9) := by omega
  rcases hop with rfl | rfl | ⟨h8, h9⟩
  · go_enter Tryz.func143, Tryz.ntmps143
    go_wp2
    go_ret
    exact ⟨rfl, (Grew.refl _).alloc _⟩
  · go_enter Tryz.func143, Tryz.ntmps143
    go_wp2
    go_ret
    exact ⟨rfl, (Grew.refl _).alloc _⟩
  · have HV := Lib.hid (show inB op 8 9 = false by unfold inB; simp; omega)
    have e8 : (op == 8) = false := by simp [h8]
    have e9 : (op == 9) = false := by simp [h9]
    clear h8 h9
    go_enter Tryz.func143, Tryz.ntmps143
    go_wp2
    go_ret
    exact ⟨ret_bool HV.out.symm, (Grew.refl _).alloc _⟩
end Go.Proofs.YtopcdojekjlijaaGreat
