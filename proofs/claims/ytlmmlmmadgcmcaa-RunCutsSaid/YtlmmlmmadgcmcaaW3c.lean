/- Contracts of layer 3: putting tags. -/
import Derived.Test.YtlmmlmmadgcmcaaW3b
namespace Go.Proofs.Ytlmmlmmadgcmcaa
open Go.RowKit
set_option linter.unusedVariables false

theorem right_bd {number wire : Int} (h : rightB number wire = true) : 1 ≤ number ∧ number ≤ 536870911 ∧ 0 ≤ wire ∧ wire ≤ 5 := by
  unfold rightB at h
  have := of_decide_eq_true h
  omega

/-- A tag's bytes. -/
def tagB (number wire : Int) : List UInt8 := Lib.uvarint (8 * number + wire).toNat

theorem tagB_length {number wire : Int} (h : rightB number wire = true) : 1 ≤ (tagB number wire).length ∧ (tagB number wire).length ≤ 5 := by
  have hb := right_bd h
  refine ⟨Lib.uvarint_pos _, Lib.uvarint_length 4 _ ?_⟩
  omega

/-- How many bytes a tag has. -/
def tagSizeN (number wire : Int) : Nat := if rightB number wire = true then (tagB number wire).length else 0

/-- Does a tag come ahead? -/
def tagLessB (a b c d : Int) : Bool := decide (a < c ∨ a = c ∧ b < d)

end Go.Proofs.Ytlmmlmmadgcmcaa
