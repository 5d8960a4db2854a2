/- Contracts of layer 14: how many things a meaning has, counted by the laws: some number. -/
import Derived.Test.YtnnphodgegcddaaGreatQdM14
import Derived.Test.YtnnphodgegcddaaGreatQdW10

namespace Go.Proofs.YtnnphodgegcddaaGreat
open Go.RowKit
set_option linter.unusedVariables false

end Go.Proofs.YtnnphodgegcddaaGreat
