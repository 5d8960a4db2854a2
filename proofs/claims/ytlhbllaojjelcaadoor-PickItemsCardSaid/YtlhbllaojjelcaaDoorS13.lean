/- Plain words: the bytes of a view, a text. -/
import Derived.Test.YtlhbllaojjelcaaDoorS7
import Derived.Test.YtlhbllaojjelcaaDoorW5
namespace Go.Proofs.YtlhbllaojjelcaaDoor
open Go.RowKit


/-- The bytes of a view's value. -/
def valueO (bs : List UInt8) (v : ViewD) : List UInt8 := spanB bs v.r.a v.r.t

def textO (b : List UInt8) : ByteArray := ⟨b.toArray⟩

end Go.Proofs.YtlhbllaojjelcaaDoor
