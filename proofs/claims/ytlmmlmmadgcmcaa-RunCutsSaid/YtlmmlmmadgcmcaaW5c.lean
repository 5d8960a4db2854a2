/- Contracts of layer 5: all records. -/
import Derived.Test.YtlmmlmmadgcmcaaW5b
namespace Go.Proofs.Ytlmmlmmadgcmcaa
open Go.RowKit
set_option linter.unusedVariables false

def recC (r : Rec) : List Value := [.int .i64 (r.n : Int), .int .i64 (r.w : Int), .int .i64 (r.f : Int), .int .i64 (r.a : Int), .int .i64 (r.t : Int)]

theorem recC_length (l : List Rec) : (l.flatMap recC).length = l.length * 5 := by
  induction l with
  | nil => rfl
  | cons r l ih => rw [List.flatMap_cons, List.length_append, ih, List.length_cons]; simp [recC]; omega

theorem recC_one (r : Rec) : ∀ u ∈ recC r, u.oneCell' = true := by
  intro u hu
  simp only [recC, List.mem_cons, List.not_mem_nil, or_false] at hu
  rcases hu with rfl | rfl | rfl | rfl | rfl <;> rfl

end Go.Proofs.Ytlmmlmmadgcmcaa
