/- Rows of nodes by their own length; from the listed variables to what the walks ask. -/
import Derived.Test.YtodbohmbdgbheaaGreatDoorTx6
import Derived.Test.YtodbohmbdgbheaaGreatDoorTie
import Derived.Test.YtodbohmbdgbheaaGreatDoorCards
import Derived.Lib.LaidTab
import Derived.Stop.LaidErr
import Derived.LaidMore
import Derived.Lay
namespace Go.Proofs.YtodbohmbdgbheaaGreatDoor
open Go.RowKit
theorem Rd.fix7n {w : World} {v : Value} {n : Nat} {xs : List N} (h : Rd w v 7 n (rows N.c xs)) : xs.length = n := by
  obtain ⟨a, c, _, _, h⟩ := h
  exact h.len_rows N.len (by decide)
theorem Rd.fix7 {w : World} {v : Value} {n : Nat} {xs : List N} (h : Rd w v 7 n (rows N.c xs)) : Rd w v 7 xs.length (rows N.c xs) := by rw [Rd.fix7n h]; exact h
theorem gPow : Tryz.prog.globalNamed "internal/strconv.uint64pow10" = some 5 := by kernel_rfl
theorem tPow : (Tryz.prog.globals[5]?).map (·.type) = some 153 := by kernel_rfl
theorem cPow : Tryz.prog.cellsOf 153 = 20 := by kernel_rfl
theorem cU64 : Tryz.prog.cellsOf 140 = 1 := by kernel_rfl
theorem uU64 : Tryz.prog.underlying 140 = some (.int .u64) := by kernel_rfl
theorem uPow : Tryz.prog.underlying 153 = some (.array 20 140) := by kernel_rfl
/-- The table, third on the list. -/
theorem tabP_of {W : World} {d1 d2 : DataW Unit} {rest : List (String × DataW Unit)}
    (h : laidMet Tryz.prog (("math/bits.deBruijn32tab", d1) :: ("math/bits.deBruijn64tab", d2) :: ("internal/strconv.uint64pow10", Rows.laid_internal_strconv_uint64pow10) :: rest) W) : TabP W :=
  Lib.tabIs_of_head gPow tPow uPow uU64 cU64 cPow h.tail.tail
end Go.Proofs.YtodbohmbdgbheaaGreatDoor
