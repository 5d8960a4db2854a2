/- Plain words of layers 15 and 17: meanings, joined. -/
import Derived.Test.YtgjhglehghjoeaaGreatQaS11
import Derived.Test.YtgjhglehghjoeaaGreatQaS14o

/- Plain words of layer 17: where a message may be cut. No program is named. -/
namespace Go.Proofs.YtgjhglehghjoeaaGreat
open Go.RowKit
set_option linter.unusedVariables false

section
variable {S : List MsgD} {d m : Nat} {M : MsgD}

end

end Go.Proofs.YtgjhglehghjoeaaGreat

/- Plain words of layer 15: meanings, joined; what two messages' bytes mean, one behind the other. -/
namespace Go.Proofs.YtgjhglehghjoeaaGreat
open Go.RowKit
set_option linter.unusedVariables false

section
variable {fs : List FieldD} {a b : List UInt8} {i : Nat} {f : FieldD}

end

section
variable {fs : List FieldD} {a b bs : List UInt8} {i : Nat} {f : FieldD} {sub : Nat → List UInt8 → MsgT} {sj : Nat → MsgT → MsgT → MsgT}

end

end Go.Proofs.YtgjhglehghjoeaaGreat

/- Plain words of layer 15: values put one by one; what two messages mean, one behind the other, is their meanings, joined. -/
namespace Go.Proofs.YtgjhglehghjoeaaGreat
open Go.RowKit
set_option linter.unusedVariables false

section
variable {v : ValT} {F : List Nat} {N : Nat → Int} {g : Nat → Option ValT}

end

end Go.Proofs.YtgjhglehghjoeaaGreat

/- Plain words of layer 15: what two valid messages mean, one behind the other, is their meanings, joined. -/
namespace Go.Proofs.YtgjhglehghjoeaaGreat
open Go.RowKit
set_option linter.unusedVariables false

section
variable {S : List MsgD} {m : Nat} {M : MsgD} {fs : List FieldD} {bs : List UInt8} {i : Nat} {f : FieldD} {sub : Nat → List UInt8 → MsgT} {sj : Nat → MsgT → MsgT → MsgT}

end

end Go.Proofs.YtgjhglehghjoeaaGreat
