/- Contracts of layer 7: the same schemas. -/
import Derived.Test.YtnnphodgegcddaaQeW7f

namespace Go.Proofs.Ytnnphodgegcddaa
open Go.RowKit
set_option linter.unusedVariables false

theorem MsgD.eq_iff {x y : MsgD} : x = y ↔ x.name = y.name ∧ x.fields = y.fields := by
  constructor
  · rintro rfl
    exact ⟨rfl, rfl⟩
  · rintro ⟨h1, h2⟩
    obtain ⟨a, b⟩ := x
    obtain ⟨c, d⟩ := y
    simp only at h1 h2
    rw [h1, h2]

instance : DecidableEq MsgD := fun x y => decidable_of_iff _ MsgD.eq_iff.symm

end Go.Proofs.Ytnnphodgegcddaa
