/- Contracts of the draws of the laws over queries. -/
import Derived.Test.YtgekgokkbakcmaaZ5
import Derived.Test.YtgekgokkbakcmaaZ4
import Derived.Test.YtgekgokkbakcmaaN5
namespace Go.Proofs.Ytgekgokkbakcmaa
open Go.RowKit
set_option linter.unusedVariables false
end Go.Proofs.Ytgekgokkbakcmaa
