/- The walk of the law ScalarPuts, out of its callees' contracts. -/
import Derived.Test.YtlhbllaojjelcaaDoorW8
namespace Go.Proofs.YtlhbllaojjelcaaDoor
open Go.RowKit
set_option linter.unusedVariables false

theorem readS_alive : readS 1 [255, 255, 255, 255, 15] = (18446744073709551615, 0) := by decide +kernel

theorem putS_alive : (putS 1 18446744073709551615).length = 10 := by decide +kernel

end Go.Proofs.YtlhbllaojjelcaaDoor
