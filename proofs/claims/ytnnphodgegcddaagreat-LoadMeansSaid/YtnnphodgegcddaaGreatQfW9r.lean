/- Contracts of layer 9: the reference. -/
import Derived.Test.YtnnphodgegcddaaGreatQfW9
import Derived.Test.YtnnphodgegcddaaGreatQfSA
import Derived.Test.YtnnphodgegcddaaGreatQfW6
import Derived.Test.YtnnphodgegcddaaGreatQfKScalarReads

/- Contracts of layer 9: the reference's ends of a run's values. -/
namespace Go.Proofs.YtnnphodgegcddaaGreat
open Go.RowKit
set_option linter.unusedVariables false

end Go.Proofs.YtnnphodgegcddaaGreat

/- Contracts of layer 9: the reference's words of a run. -/
namespace Go.Proofs.YtnnphodgegcddaaGreat
open Go.RowKit
set_option linter.unusedVariables false

end Go.Proofs.YtnnphodgegcddaaGreat

/- Contracts of layer 9: the word of a place. -/
namespace Go.Proofs.YtnnphodgegcddaaGreat
open Go.RowKit
set_option linter.unusedVariables false

end Go.Proofs.YtnnphodgegcddaaGreat
