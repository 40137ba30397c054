/- The laws' helpers over slices of ints, texts and bools: copies, comparisons, marks. -/
import Derived.Test.YtodbohmbdgbheaaGreatDoorH1
namespace Go.Proofs.YtodbohmbdgbheaaGreatDoor
open Go.RowKit
set_option linter.unusedVariables false

end Go.Proofs.YtodbohmbdgbheaaGreatDoor
