/- From the listed variables to what the walk of ParseQuery asks. -/
import Derived.Test.YtodbohmbdgbheaaDoorTx11
import Derived.Test.YtodbohmbdgbheaaDoorTx15
import Derived.Test.YtodbohmbdgbheaaDoorTx12
namespace Go.Proofs.YtodbohmbdgbheaaDoor
open Go.RowKit
theorem gErrS : Tryd.prog.globalNamed "strconv.ErrSyntax" = some 6 := by kernel_rfl
theorem tErrS : (Tryd.prog.globals[6]?).map (·.type) = some 84 := by kernel_rfl
theorem cErrE : Tryd.prog.cellsOf 152 = 1 := by kernel_rfl
theorem cStrE : Tryd.prog.cellsOf 9 = 1 := by kernel_rfl
theorem starE : "*errors.errorString" = "*" ++ "errors.errorString" := rfl
theorem rowErr (u : TypeId) (h : Tryd.prog.typeName? 3 u = some "*errors.errorString") : u = 150 :=
  typeName_ptr_named (nm := "errors.errorString") (by rw [← starE]; kernel_rfl) (by kernel_rfl) (by decide) u (by rw [← starE]; exact h)
/-- The sentinel, fifth on the list. -/
theorem errS_of {W : World} {n1 n2 n3 n4 : String} {d1 d2 d3 d4 : DataW Unit} {rest : List (String × DataW Unit)}
    (h : laidMet Tryd.prog ((n1, d1) :: (n2, d2) :: (n3, d3) :: (n4, d4) :: ("strconv.ErrSyntax", Rows.laid_strconv_ErrSyntax) :: rest) W) : ErrS W := by
  obtain ⟨a, s, hv, _⟩ := laid_sentinel h.tail.tail.tail.tail gErrS tErrS Tryd.underlying84 rowErr Tryd.underlying150 Tryd.underlying152 rfl rfl Tryd.underlying9 cErrE cStrE
  exact ⟨_, _, hv⟩
theorem gAsc : Tryd.prog.globalNamed "strings.asciiSpace" = some 0 := by kernel_rfl
theorem tAsc : (Tryd.prog.globals[0]?).map (·.type) = some 89 := by kernel_rfl
theorem cAsc : Tryd.prog.cellsOf 89 = 256 := by kernel_rfl
theorem cU8 : Tryd.prog.cellsOf 5 = 1 := by kernel_rfl
theorem uU8 : Tryd.prog.underlying 5 = some (.int .u8) := by kernel_rfl
theorem uAsc : Tryd.prog.underlying 89 = some (.array 256 5) := by kernel_rfl
set_option maxRecDepth 100000 in
/-- The table of the blanks, seventh on the list. -/
theorem tabA_of {W : World} {n1 n2 n3 n4 n5 n6 : String} {d1 d2 d3 d4 d5 d6 : DataW Unit} {rest : List (String × DataW Unit)}
    (h : laidMet Tryd.prog ((n1, d1) :: (n2, d2) :: (n3, d3) :: (n4, d4) :: (n5, d5) :: (n6, d6) :: ("strings.asciiSpace", Rows.laid_strings_asciiSpace) :: rest) W) : TabA W :=
  Lib.tabIs_of_head gAsc tAsc uAsc uU8 cU8 cAsc h.tail.tail.tail.tail.tail.tail
end Go.Proofs.YtodbohmbdgbheaaDoor
