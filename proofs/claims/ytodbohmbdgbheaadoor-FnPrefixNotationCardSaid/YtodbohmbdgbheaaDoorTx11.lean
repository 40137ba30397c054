/- Rows of nodes by their own length; from the listed variables to what the walks ask. -/
import Derived.Test.YtodbohmbdgbheaaDoorTx6
import Derived.Test.YtodbohmbdgbheaaDoorTie
import Derived.Test.YtodbohmbdgbheaaDoorCards
import Derived.Lib.LaidTab
import Derived.Stop.LaidErr
import Derived.LaidMore
import Derived.Lay
namespace Go.Proofs.YtodbohmbdgbheaaDoor
open Go.RowKit
theorem Rd.fix7n {w : World} {v : Value} {n : Nat} {xs : List N} (h : Rd w v 7 n (rows N.c xs)) : xs.length = n := by
  obtain ⟨a, c, _, _, h⟩ := h
  exact h.len_rows N.len (by decide)
theorem Rd.fix7 {w : World} {v : Value} {n : Nat} {xs : List N} (h : Rd w v 7 n (rows N.c xs)) : Rd w v 7 xs.length (rows N.c xs) := by rw [Rd.fix7n h]; exact h
theorem gPow : Tryd.prog.globalNamed "internal/strconv.uint64pow10" = some 2 := by kernel_rfl
theorem tPow : (Tryd.prog.globals[2]?).map (·.type) = some 116 := by kernel_rfl
theorem cPow : Tryd.prog.cellsOf 116 = 20 := by kernel_rfl
theorem cU64 : Tryd.prog.cellsOf 100 = 1 := by kernel_rfl
theorem uU64 : Tryd.prog.underlying 100 = some (.int .u64) := by kernel_rfl
theorem uPow : Tryd.prog.underlying 116 = some (.array 20 100) := by kernel_rfl
/-- The table, third on the list. -/
theorem tabP_of {W : World} {d1 d2 : DataW Unit} {rest : List (String × DataW Unit)}
    (h : laidMet Tryd.prog (("math/bits.deBruijn32tab", d1) :: ("math/bits.deBruijn64tab", d2) :: ("internal/strconv.uint64pow10", Rows.laid_internal_strconv_uint64pow10) :: rest) W) : TabP W :=
  Lib.tabIs_of_head gPow tPow uPow uU64 cU64 cPow h.tail.tail
end Go.Proofs.YtodbohmbdgbheaaDoor
