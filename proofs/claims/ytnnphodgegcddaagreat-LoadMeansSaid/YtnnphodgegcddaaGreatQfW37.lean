/- Contracts of layer 20: the reference's load of a value. -/
import Derived.Test.YtnnphodgegcddaaGreatQfS35
import Derived.Test.YtnnphodgegcddaaGreatQfW34
import Derived.Test.YtnnphodgegcddaaGreatQfW16
import Derived.Test.YtnnphodgegcddaaGreatQfW9
import Derived.Test.YtnnphodgegcddaaGreatQfW36

namespace Go.Proofs.YtnnphodgegcddaaGreat
open Go.RowKit Go.Shelf
open Go.Lib (uvarint)
set_option linter.unusedVariables false

end Go.Proofs.YtnnphodgegcddaaGreat

/- Contracts of layer 20: the load of a value, by its code. -/



namespace Go.Proofs.YtnnphodgegcddaaGreat
open Go.RowKit Go.Shelf
set_option linter.unusedVariables false

theorem codeFL_cases {S : List MsgD} {f : FieldD} {v : ValT} : (argsL S f 0 ≠ 0 ∧ codeFL S f v = argsL S f 0) ∨ (argsL S f 0 = 0 ∧ ¬ FitP S f v ∧ ¬ (manyU v = 0 ∧ f.rep = true) ∧ codeFL S f v = 12) ∨ (argsL S f 0 = 0 ∧ (FitP S f v ∨ (manyU v = 0 ∧ f.rep = true)) ∧ codeFL S f v = 0) := by
 by_cases h0 : argsL S f 0 = 0
 · by_cases h1 : FitP S f v
   · exact .inr (.inr ⟨h0, .inl h1, codeFL_fine h0 (.inl h1)⟩)
   · by_cases h2 : manyU v = 0 ∧ f.rep = true
     · exact .inr (.inr ⟨h0, .inr h2, codeFL_fine h0 (.inr h2)⟩)
     · exact .inr (.inl ⟨h0, h1, h2, codeFL_form h0 h1 h2⟩)
 · exact .inl ⟨h0, codeFL_bad h0⟩

theorem rightV_msg {S : List MsgD} {D m : Nat} {x : MsgT} (h : RightV S D m x) : ∃ M, S[m]? = some M := by
 cases D with
 | zero => obtain ⟨M, hM, _⟩ := h; exact ⟨M, hM⟩
 | succ D => obtain ⟨M, hM, _⟩ := h; exact ⟨M, hM⟩

end Go.Proofs.YtnnphodgegcddaaGreat
