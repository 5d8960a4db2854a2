/- Contracts of layer 14: the place of a number, and copies of rows. -/
import Derived.Test.YtnnphodgegcddaaQeW14o
import Derived.Test.YtnnphodgegcddaaQeW7h

/- Contracts of layer 14: the place of a value, as the reference has it. -/
namespace Go.Proofs.Ytnnphodgegcddaa
open Go.RowKit
set_option linter.unusedVariables false

end Go.Proofs.Ytnnphodgegcddaa

/- Contracts of layer 14: texts and words in new memory. -/
namespace Go.Proofs.Ytnnphodgegcddaa
open Go.RowKit
set_option linter.unusedVariables false

end Go.Proofs.Ytnnphodgegcddaa
