/- What the program's table says of the element types, where no helper of the laws has said it yet. -/
import Derived.Test.YtodbohmbdgbheaaGreatDoorH4
namespace Go.Proofs.YtodbohmbdgbheaaGreatDoor
open Go.RowKit
end Go.Proofs.YtodbohmbdgbheaaGreatDoor
