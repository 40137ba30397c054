/- From the listed variables to what the walk of ParseQuery asks. -/
import Derived.Test.YtodbohmbdgbheaaGreatDoorTx11
import Derived.Test.YtodbohmbdgbheaaGreatDoorTx15
import Derived.Test.YtodbohmbdgbheaaGreatDoorTx12
namespace Go.Proofs.YtodbohmbdgbheaaGreatDoor
open Go.RowKit
theorem gErrS : Tryz.prog.globalNamed "strconv.ErrSyntax" = some 3 := by kernel_rfl
theorem tErrS : (Tryz.prog.globals[3]?).map (·.type) = some 96 := by kernel_rfl
theorem cErrE : Tryz.prog.cellsOf 160 = 1 := by kernel_rfl
theorem cStrE : Tryz.prog.cellsOf 9 = 1 := by kernel_rfl
theorem starE : "*errors.errorString" = "*" ++ "errors.errorString" := rfl
theorem rowErr (u : TypeId) (h : Tryz.prog.typeName? 3 u = some "*errors.errorString") : u = 158 :=
  typeName_ptr_named (nm := "errors.errorString") (by rw [← starE]; kernel_rfl) (by kernel_rfl) (by decide) u (by rw [← starE]; exact h)
/-- The sentinel, fifth on the list. -/
theorem errS_of {W : World} {n1 n2 n3 n4 : String} {d1 d2 d3 d4 : DataW Unit} {rest : List (String × DataW Unit)}
    (h : laidMet Tryz.prog ((n1, d1) :: (n2, d2) :: (n3, d3) :: (n4, d4) :: ("strconv.ErrSyntax", Rows.laid_strconv_ErrSyntax) :: rest) W) : ErrS W := by
  obtain ⟨a, s, hv, _⟩ := laid_sentinel h.tail.tail.tail.tail gErrS tErrS Tryz.underlying96 rowErr Tryz.underlying158 Tryz.underlying160 rfl rfl Tryz.underlying9 cErrE cStrE
  exact ⟨_, _, hv⟩
theorem gAsc : Tryz.prog.globalNamed "strings.asciiSpace" = some 0 := by kernel_rfl
theorem tAsc : (Tryz.prog.globals[0]?).map (·.type) = some 99 := by kernel_rfl
theorem cAsc : Tryz.prog.cellsOf 99 = 256 := by kernel_rfl
theorem cU8 : Tryz.prog.cellsOf 5 = 1 := by kernel_rfl
theorem uU8 : Tryz.prog.underlying 5 = some (.int .u8) := by kernel_rfl
theorem uAsc : Tryz.prog.underlying 99 = some (.array 256 5) := by kernel_rfl
set_option maxRecDepth 100000 in
/-- The table of the blanks, seventh on the list. -/
theorem tabA_of {W : World} {n1 n2 n3 n4 n5 n6 : String} {d1 d2 d3 d4 d5 d6 : DataW Unit} {rest : List (String × DataW Unit)}
    (h : laidMet Tryz.prog ((n1, d1) :: (n2, d2) :: (n3, d3) :: (n4, d4) :: (n5, d5) :: (n6, d6) :: ("strings.asciiSpace", Rows.laid_strings_asciiSpace) :: rest) W) : TabA W :=
  Lib.tabIs_of_head gAsc tAsc uAsc uU8 cU8 cAsc h.tail.tail.tail.tail.tail.tail
end Go.Proofs.YtodbohmbdgbheaaGreatDoor
