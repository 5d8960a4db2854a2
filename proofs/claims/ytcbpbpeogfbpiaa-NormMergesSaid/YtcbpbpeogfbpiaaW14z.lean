/- The drawn regions of the reference's Of, as laws of their own. -/
import Derived.Test.YtcbpbpeogfbpiaaM14p
import Derived.Test.YtcbpbpeogfbpiaaS14o
import Derived.Test.YtcbpbpeogfbpiaaW14p
import Derived.Deep.DeepCutAuto
namespace Go.Proofs.Ytcbpbpeogfbpiaa
open Go.RowKit Go.Shelf
set_option linter.unusedVariables false

/-- The region of a number, in a code. -/
def regionOf (n : Nat) : Code → Option Code
  | .region i ops d => if i = n then some (.region i ops d) else none
  | .loop c => regionOf n c
  | .seq a b => match regionOf n a with
    | some c => some c
    | none => regionOf n b
  | .block _ c => regionOf n c
  | .scope c => regionOf n c
  | .cond _ a b => match regionOf n a with
    | some c => some c
    | none => regionOf n b
  | _ => none

/-- The same post, but that a panic's looks at no more of the frame than that nothing is put off. -/
def calmQ (Q : Exit → Act → World → Prop) : Exit → Act → World → Prop
  | .panic x, a, w => a.defers = [] ∧ Q (.panic x) ⟨#[], []⟩ w
  | e, a, w => Q e a w

theorem calm {P : Program} {c : Code} {Q : Exit → Act → World → Prop} {a : Act} {w : World} (hq : ∀ x a w, a.defers = [] → Q (.panic x) ⟨#[], []⟩ w → Q (.panic x) a w) (h : c.wp P (calmQ Q) a w) : c.wp P Q a w :=
  Code.wp_mono (fun e a w h => by
    cases e
    all_goals first | exact h | exact hq _ _ _ h.1 h.2) h





end Go.Proofs.Ytcbpbpeogfbpiaa