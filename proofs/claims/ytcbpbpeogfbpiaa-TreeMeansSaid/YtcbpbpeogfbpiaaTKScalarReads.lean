/- The walk of the law ScalarPuts, out of its callees' contracts. -/
import Derived.Test.YtcbpbpeogfbpiaaTW8

namespace Go.Proofs.Ytcbpbpeogfbpiaa
open Go.RowKit
set_option linter.unusedVariables false

end Go.Proofs.Ytcbpbpeogfbpiaa

/- The walk of the law ScalarReads, out of its callees' contracts. -/

namespace Go.Proofs.Ytcbpbpeogfbpiaa
open Go.RowKit
set_option linter.unusedVariables false

end Go.Proofs.Ytcbpbpeogfbpiaa
