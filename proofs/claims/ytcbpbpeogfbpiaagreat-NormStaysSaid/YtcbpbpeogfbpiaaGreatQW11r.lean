/- Contracts of layer 11: the reference. -/
import Derived.Test.YtcbpbpeogfbpiaaGreatQW11b

namespace Go.Proofs.YtcbpbpeogfbpiaaGreat
open Go.RowKit
set_option linter.unusedVariables false

end Go.Proofs.YtcbpbpeogfbpiaaGreat
