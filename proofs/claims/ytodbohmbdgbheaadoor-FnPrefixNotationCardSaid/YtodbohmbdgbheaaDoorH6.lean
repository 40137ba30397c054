/- The laws' helpers: the look at marks over directories, results, diffs and files; one directory, one diff, one file; the store. -/
import Derived.Test.YtodbohmbdgbheaaDoorH5
namespace Go.Proofs.YtodbohmbdgbheaaDoor
open Go.RowKit
set_option linter.unusedVariables false

end Go.Proofs.YtodbohmbdgbheaaDoor
