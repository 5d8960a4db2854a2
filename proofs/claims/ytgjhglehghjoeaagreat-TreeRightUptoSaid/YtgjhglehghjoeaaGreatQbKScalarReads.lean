/- The walk of the law ScalarPuts, out of its callees' contracts. -/
import Derived.Test.YtgjhglehghjoeaaGreatQbW8

namespace Go.Proofs.YtgjhglehghjoeaaGreat
open Go.RowKit
set_option linter.unusedVariables false

end Go.Proofs.YtgjhglehghjoeaaGreat

/- The walk of the law ScalarReads, out of its callees' contracts. -/

namespace Go.Proofs.YtgjhglehghjoeaaGreat
open Go.RowKit
set_option linter.unusedVariables false

end Go.Proofs.YtgjhglehghjoeaaGreat
