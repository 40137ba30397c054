/- The laws' helpers: the look at marks over directories, results, diffs and files; one directory, one diff, one file; the store. -/
import Derived.Test.YtodbohmbdgbheaaGreatDoorH5
namespace Go.Proofs.YtodbohmbdgbheaaGreatDoor
open Go.RowKit
set_option linter.unusedVariables false

end Go.Proofs.YtodbohmbdgbheaaGreatDoor
