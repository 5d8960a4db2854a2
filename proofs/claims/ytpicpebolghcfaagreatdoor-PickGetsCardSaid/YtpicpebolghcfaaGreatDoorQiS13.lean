/- Plain words: the bytes of a view, a text. -/
import Derived.Test.YtpicpebolghcfaaGreatDoorQiS7
import Derived.Test.YtpicpebolghcfaaGreatDoorQiW5

namespace Go.Proofs.YtpicpebolghcfaaGreatDoor
open Go.RowKit


def valueO (bs : List UInt8) (v : ViewD) : List UInt8 := spanB bs v.r.a v.r.t

def textO (b : List UInt8) : ByteArray := ⟨b.toArray⟩

end Go.Proofs.YtpicpebolghcfaaGreatDoor
