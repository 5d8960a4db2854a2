/- Contracts of layer 9: the reference. -/
import Derived.Test.YtnnphodgegcddaaQeW9
import Derived.Test.YtnnphodgegcddaaQeSA
import Derived.Test.YtnnphodgegcddaaQeW6
import Derived.Test.YtnnphodgegcddaaQeKScalarReads

/- Contracts of layer 9: the reference's ends of a run's values. -/
namespace Go.Proofs.Ytnnphodgegcddaa
open Go.RowKit
set_option linter.unusedVariables false

end Go.Proofs.Ytnnphodgegcddaa

/- Contracts of layer 9: the reference's words of a run. -/
namespace Go.Proofs.Ytnnphodgegcddaa
open Go.RowKit
set_option linter.unusedVariables false

end Go.Proofs.Ytnnphodgegcddaa

/- Contracts of layer 9: the word of a place. -/
namespace Go.Proofs.Ytnnphodgegcddaa
open Go.RowKit
set_option linter.unusedVariables false

end Go.Proofs.Ytnnphodgegcddaa
