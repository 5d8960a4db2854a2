/- Contracts of layer 16: a text as bytes. -/
import Derived.Test.YtnnphodgegcddaaQeWA
import Derived.Lib.ConvBytes
import Derived.Lib.AppendStr

namespace Go.Proofs.Ytnnphodgegcddaa
open Go.RowKit
set_option linter.unusedVariables false

end Go.Proofs.Ytnnphodgegcddaa
