/- Contracts of layer 22: Words and Texts. -/
import Derived.Test.YtpicpebolghcfaaGreatDoorQiW80
import Derived.Test.YtpicpebolghcfaaGreatDoorQiS53

namespace Go.Proofs.YtpicpebolghcfaaGreatDoor
open Go.RowKit Go.Shelf
set_option linter.unusedVariables false
set_option linter.unusedSimpArgs false

section
variable {A B : Option Addr} {n c m k : Nat} {S : List MsgV} {root d : Int} {p : ByteArray} {bs : List UInt8} {w : World}

end

end Go.Proofs.YtpicpebolghcfaaGreatDoor
