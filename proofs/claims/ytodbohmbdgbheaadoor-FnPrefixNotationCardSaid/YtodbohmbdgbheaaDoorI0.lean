/- What the program's table says of the element types, where no helper of the laws has said it yet. -/
import Derived.Test.YtodbohmbdgbheaaDoorH4
namespace Go.Proofs.YtodbohmbdgbheaaDoor
open Go.RowKit
end Go.Proofs.YtodbohmbdgbheaaDoor
