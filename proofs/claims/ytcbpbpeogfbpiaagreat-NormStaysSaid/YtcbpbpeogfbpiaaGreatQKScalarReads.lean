/- The walk of the law ScalarPuts, out of its callees' contracts. -/
import Derived.Test.YtcbpbpeogfbpiaaGreatQW8

namespace Go.Proofs.YtcbpbpeogfbpiaaGreat
open Go.RowKit
set_option linter.unusedVariables false

end Go.Proofs.YtcbpbpeogfbpiaaGreat

/- The walk of the law ScalarReads, out of its callees' contracts. -/

namespace Go.Proofs.YtcbpbpeogfbpiaaGreat
open Go.RowKit
set_option linter.unusedVariables false

end Go.Proofs.YtcbpbpeogfbpiaaGreat
