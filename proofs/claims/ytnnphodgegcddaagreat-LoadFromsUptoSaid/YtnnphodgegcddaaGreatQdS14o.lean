/- Plain words of layer 14: what valid bytes mean. -/
import Derived.Test.YtnnphodgegcddaaGreatQdM14
import Derived.Test.YtnnphodgegcddaaGreatQdW9
import Derived.Test.YtnnphodgegcddaaGreatQdWSort

/- Plain words of layer 14: what valid bytes mean. -/
namespace Go.Proofs.YtnnphodgegcddaaGreat
open Go.RowKit
set_option linter.unusedVariables false

end Go.Proofs.YtnnphodgegcddaaGreat

/- Plain words of layer 14: how long the parts of what is read are. -/
namespace Go.Proofs.YtnnphodgegcddaaGreat
open Go.RowKit
set_option linter.unusedVariables false

def manyU {τ σ : Type} (u : ValG τ σ) : Nat := u.words.length + u.texts.length + u.subs.length

end Go.Proofs.YtnnphodgegcddaaGreat

/- Plain words of layer 14: what a field's own views are; meanings are small, and the same however much is left for the depth. -/
namespace Go.Proofs.YtnnphodgegcddaaGreat
open Go.RowKit
set_option linter.unusedVariables false

section
variable {fs : List FieldD} {bs : List UInt8} {i : Nat} {f : FieldD} {sub sub' : Nat → List UInt8 → MsgT} {S : List MsgD}

end

end Go.Proofs.YtnnphodgegcddaaGreat
