/- Contracts of layer 14: a field's pieces. -/
import Derived.Test.YtnnphodgegcddaaGreatQdM14p
import Derived.Test.YtnnphodgegcddaaGreatQdW10
import Derived.Test.YtnnphodgegcddaaGreatQdW8

namespace Go.Proofs.YtnnphodgegcddaaGreat
open Go.RowKit
set_option linter.unusedVariables false

end Go.Proofs.YtnnphodgegcddaaGreat
