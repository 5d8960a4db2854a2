/- Contracts of layer 14: what bytes mean. -/
import Derived.Test.YtnnphodgegcddaaGreatQdW14vT
import Derived.Test.YtnnphodgegcddaaGreatQdWSort
import Derived.Test.YtnnphodgegcddaaGreatQdM14p
import Derived.StillTailTactics
import Derived.Deep.DeepCutAuto

namespace Go.Proofs.YtnnphodgegcddaaGreat
open Go.RowKit Go.Shelf
set_option linter.unusedVariables false

section
variable {w w5 wr : World} {bm : Nat} {fs : List FieldD} {bs : List UInt8} {L : List ViewD} {nm : ByteArray} {MA : Option Addr} {Mn Mc k : Nat} {E : Nat → Option PieceG} {U : Option Addr} {un uc : Nat} {v : ViewD}

end

section
variable {w w6 wq wz : World} {base : Nat} {fs : List FieldD} {bs : List UInt8} {L : List ViewD} {E : Nat → Option PieceG} {order : List Nat} {U : Option Addr} {un uc j : Nat} {V : Option Addr} {vn vc : Nat} {ys : List ValR}

end

end Go.Proofs.YtnnphodgegcddaaGreat
