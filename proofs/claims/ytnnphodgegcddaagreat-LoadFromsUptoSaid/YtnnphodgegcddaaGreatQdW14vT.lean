/- Contracts of layer 14: the value of a field's pieces. -/
import Derived.Test.YtnnphodgegcddaaGreatQdM14p
import Derived.Test.YtnnphodgegcddaaGreatQdW14p
import Derived.BigRegion
import Derived.Deep.DeepCutAuto
import Derived.Deep.CutBlock

namespace Go.Proofs.YtnnphodgegcddaaGreat
open Go.RowKit
set_option linter.unusedVariables false

end Go.Proofs.YtnnphodgegcddaaGreat

/- Contracts of layer 14: the value of a field's pieces. -/





namespace Go.Proofs.YtnnphodgegcddaaGreat
open Go.RowKit
set_option linter.unusedVariables false

end Go.Proofs.YtnnphodgegcddaaGreat
