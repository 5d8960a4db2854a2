/- Contracts of layer 11: the reference. -/
import Derived.Test.YtcbpbpeogfbpiaaTW11b

namespace Go.Proofs.Ytcbpbpeogfbpiaa
open Go.RowKit
set_option linter.unusedVariables false

end Go.Proofs.Ytcbpbpeogfbpiaa
