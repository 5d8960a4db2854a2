/- Contracts of layer 14: a meaning in new memory. (Begun.) -/
import Derived.Test.YtnnphodgegcddaaGreatQcW14c
import Derived.Test.YtnnphodgegcddaaGreatQcW14u

namespace Go.Proofs.YtnnphodgegcddaaGreat
open Go.RowKit Go.Shelf
set_option linter.unusedVariables false

theorem Ext.drew_of {w w' : World} (h : Ext w.drew w') : Ext w w' := ((Ext.refl w).drew).trans h

end Go.Proofs.YtnnphodgegcddaaGreat
