/- Contracts of layer 7: a copy of a schema. -/
import Derived.Test.YtnnphodgegcddaaGreatQcW7g

namespace Go.Proofs.YtnnphodgegcddaaGreat
open Go.RowKit
set_option linter.unusedVariables false

end Go.Proofs.YtnnphodgegcddaaGreat
