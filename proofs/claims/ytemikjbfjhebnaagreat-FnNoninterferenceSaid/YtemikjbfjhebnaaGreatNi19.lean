/- Texts U3, as far as they are needed. -/
import Derived.Test.YtemikjbfjhebnaaGreatNi18
import Derived.Test.YtemikjbfjhebnaaGreatNi8
import Derived.Test.YtemikjbfjhebnaaGreatNi10
import Derived.Test.YtemikjbfjhebnaaGreatNi0
namespace Go.Proofs.YtemikjbfjhebnaaGreat
open Go.RowKit
set_option linter.unusedVariables false
end Go.Proofs.YtemikjbfjhebnaaGreat
