/- Contracts of layer 14: a meaning in new memory. (Begun.) -/
import Derived.Test.YtnnphodgegcddaaQeW14c
import Derived.Test.YtnnphodgegcddaaQeW14u

namespace Go.Proofs.Ytnnphodgegcddaa
open Go.RowKit Go.Shelf
set_option linter.unusedVariables false

theorem Own.far4 {w0 w : World} {e t : TypeId} {size n c b : Nat} {A : Option Addr} {xs : List Value} {cs : Array Value} (h : Own w0 w e size A n c xs) (k : BlkT w b t cs) (hne : e ≠ t) (hb : w0.heap.size ≤ b) (u0 u1 u2 u3 : Value) :
    Own w0 ((((w.setCell ⟨b, 0, none⟩ u0).setCell ⟨b, 1, none⟩ u1).setCell ⟨b, 2, none⟩ u2).setCell ⟨b, 3, none⟩ u3) e size A n c xs :=
  (((h.far k hne hb 0 u0).far (k.set_ 0 u0) hne hb 1 u1).far ((k.set_ 0 u0).set_ 1 u1) hne hb 2 u2).far (((k.set_ 0 u0).set_ 1 u1).set_ 2 u2) hne hb 3 u3

end Go.Proofs.Ytnnphodgegcddaa
