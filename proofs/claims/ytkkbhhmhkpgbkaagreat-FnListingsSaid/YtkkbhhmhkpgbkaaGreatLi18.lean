/- Texts U3, as far as they are needed. -/
import Derived.Test.YtkkbhhmhkpgbkaaGreatLi17
import Derived.Test.YtkkbhhmhkpgbkaaGreatLi8
import Derived.Test.YtkkbhhmhkpgbkaaGreatLi10
import Derived.Test.YtkkbhhmhkpgbkaaGreatLi0
namespace Go.Proofs.YtkkbhhmhkpgbkaaGreat
open Go.RowKit
set_option linter.unusedVariables false
end Go.Proofs.YtkkbhhmhkpgbkaaGreat
