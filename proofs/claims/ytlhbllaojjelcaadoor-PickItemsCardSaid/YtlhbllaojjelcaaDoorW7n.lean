/- A contract of layer 7: the place of a name. -/
import Derived.Test.YtlhbllaojjelcaaDoorW10
namespace Go.Proofs.YtlhbllaojjelcaaDoor
open Go.RowKit Go.Shelf
set_option linter.unusedVariables false

end Go.Proofs.YtlhbllaojjelcaaDoor
