/- The laws' helpers over slices of ints, texts and bools: copies, comparisons, marks. -/
import Derived.Test.YtodbohmbdgbheaaDoorH1
namespace Go.Proofs.YtodbohmbdgbheaaDoor
open Go.RowKit
set_option linter.unusedVariables false

end Go.Proofs.YtodbohmbdgbheaaDoor
