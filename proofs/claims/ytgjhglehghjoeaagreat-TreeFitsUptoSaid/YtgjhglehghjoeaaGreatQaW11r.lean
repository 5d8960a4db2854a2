/- Contracts of layer 11: the reference. -/
import Derived.Test.YtgjhglehghjoeaaGreatQaW11b

namespace Go.Proofs.YtgjhglehghjoeaaGreat
open Go.RowKit
set_option linter.unusedVariables false

end Go.Proofs.YtgjhglehghjoeaaGreat
