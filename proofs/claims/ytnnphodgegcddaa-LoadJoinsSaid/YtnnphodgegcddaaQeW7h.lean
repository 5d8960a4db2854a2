/- Contracts of layer 7: a copy of a schema. -/
import Derived.Test.YtnnphodgegcddaaQeW7g

namespace Go.Proofs.Ytnnphodgegcddaa
open Go.RowKit
set_option linter.unusedVariables false

end Go.Proofs.Ytnnphodgegcddaa
