/- Contracts of Go's stable sort of whole numbers, in place. -/
import Derived.Test.YtnnphodgegcddaaGreatQdW6
import Derived.Test.YtnnphodgegcddaaGreatQdSort
import Derived.Test.YtnnphodgegcddaaGreatQdW7

namespace Go.Proofs.YtnnphodgegcddaaGreat
open Go.RowKit
set_option linter.unusedVariables false

section
variable {w0 w w' : World} {e : TypeId} {g n c : Nat} {ys : List Nat}

end

end Go.Proofs.YtnnphodgegcddaaGreat

/- Contracts of Go's stable sort of whole numbers: merging in place. -/

namespace Go.Proofs.YtnnphodgegcddaaGreat
open Go.RowKit
set_option linter.unusedVariables false

end Go.Proofs.YtnnphodgegcddaaGreat

/- Contracts of Go's stable sort of whole numbers: merging in place, whole. -/

namespace Go.Proofs.YtnnphodgegcddaaGreat
open Go.RowKit
set_option linter.unusedVariables false

end Go.Proofs.YtnnphodgegcddaaGreat

/- Contracts of Go's stable sort of whole numbers, and of the fields' order. -/

namespace Go.Proofs.YtnnphodgegcddaaGreat
open Go.RowKit
set_option linter.unusedVariables false

end Go.Proofs.YtnnphodgegcddaaGreat
