/- Contracts of layer 14: the same meanings. -/
import Derived.Test.YtnnphodgegcddaaGreatQdM14
import Derived.Test.YtnnphodgegcddaaGreatQdW10

namespace Go.Proofs.YtnnphodgegcddaaGreat
open Go.RowKit
set_option linter.unusedVariables false

noncomputable def eqB (p : Prop) : Bool := @decide p (Classical.propDecidable p)

theorem eqB_yes {p : Prop} (h : p) : eqB p = true := by unfold eqB; exact @decide_eq_true p (Classical.propDecidable p) h

theorem eqB_no {p : Prop} (h : ¬ p) : eqB p = false := by unfold eqB; exact @decide_eq_false p (Classical.propDecidable p) h

theorem eqB_congr {p q : Prop} (h : p ↔ q) : eqB p = eqB q := by
 by_cases c : p
 · rw [eqB_yes c, eqB_yes (h.1 c)]
 · rw [eqB_no c, eqB_no (fun d => c (h.2 d))]

end Go.Proofs.YtnnphodgegcddaaGreat
