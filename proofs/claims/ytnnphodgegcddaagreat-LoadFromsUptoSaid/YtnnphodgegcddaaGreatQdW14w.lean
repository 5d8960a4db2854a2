/- The drawn regions of the reference's Of, as laws of their own. -/
import Derived.Test.YtnnphodgegcddaaGreatQdM14p
import Derived.Test.YtnnphodgegcddaaGreatQdS14o
import Derived.Test.YtnnphodgegcddaaGreatQdW14p
import Derived.Deep.DeepCutAuto
import Derived.Test.YtnnphodgegcddaaGreatQdW9r
import Derived.Test.YtnnphodgegcddaaGreatQdKScalarReads
import Derived.Test.YtnnphodgegcddaaGreatQdW7f
import Derived.Test.YtnnphodgegcddaaGreatQdWSort
import Derived.StillTailTactics
import Derived.Test.YtnnphodgegcddaaGreatQdW14u
import Derived.Test.YtnnphodgegcddaaGreatQdW11
import Derived.Test.YtnnphodgegcddaaGreatQdKSchemaChecks

namespace Go.Proofs.YtnnphodgegcddaaGreat
open Go.RowKit Go.Shelf
set_option linter.unusedVariables false

def regionOf (n : Nat) : Code → Option Code
 | .region i ops d => if i = n then some (.region i ops d) else none
 | .loop c => regionOf n c
 | .seq a b => match regionOf n a with
   | some c => some c
   | none => regionOf n b
 | .block _ c => regionOf n c
 | .scope c => regionOf n c
 | .cond _ a b => match regionOf n a with
   | some c => some c
   | none => regionOf n b
 | _ => none

def calmQ (Q : Exit → Act → World → Prop) : Exit → Act → World → Prop
 | .panic x, a, w => a.defers = [] ∧ Q (.panic x) ⟨#[], []⟩ w
 | e, a, w => Q e a w

theorem calm {P : Program} {c : Code} {Q : Exit → Act → World → Prop} {a : Act} {w : World} (hq : ∀ x a w, a.defers = [] → Q (.panic x) ⟨#[], []⟩ w → Q (.panic x) a w) (h : c.wp P (calmQ Q) a w) : c.wp P Q a w :=
 Code.wp_mono (fun e a w h => by
  cases e
  all_goals first | exact h | exact hq _ _ _ h.1 h.2) h





end Go.Proofs.YtnnphodgegcddaaGreat

/- Contracts of layer 14: what bytes mean, as the reference has it. -/









namespace Go.Proofs.YtnnphodgegcddaaGreat
open Go.RowKit Go.Shelf
set_option linter.unusedVariables false

section
variable {w w6 wr wz : World} {bx : Nat} {U : Option Addr} {un uc : Nat} {V : Option Addr} {vn vc : Nat} {ys : List ValR}

end

end Go.Proofs.YtnnphodgegcddaaGreat

/- Contracts of layer 14: tree.Of. -/




namespace Go.Proofs.YtnnphodgegcddaaGreat
open Go.RowKit Go.Shelf
set_option linter.unusedVariables false

end Go.Proofs.YtnnphodgegcddaaGreat
