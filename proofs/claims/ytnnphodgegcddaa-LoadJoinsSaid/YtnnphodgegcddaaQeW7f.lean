/- Contracts of layer 7: the fields' order, as the reference has it; the same schemas; a copy. -/
import Derived.Test.YtnnphodgegcddaaQeWSort

namespace Go.Proofs.Ytnnphodgegcddaa
open Go.RowKit
set_option linter.unusedVariables false

end Go.Proofs.Ytnnphodgegcddaa
