/- Plain words of layer 9: words packed. No program is named. -/
import Derived.Test.YtlmmlmmadgcmcaaS9
namespace Go.Proofs.Ytlmmlmmadgcmcaa
open Go.RowKit
set_option linter.unusedVariables false

/-- The bytes of words. -/
def packW (k : Int) : List Nat → List UInt8
  | [] => []
  | x :: l => putS k x ++ packW k l

theorem packW_snoc (k : Int) (x : Nat) : ∀ l : List Nat, packW k (l ++ [x]) = packW k l ++ putS k x
  | [] => by simp [packW]
  | y :: l => by simp [packW, packW_snoc k x l]

theorem packW_le (k : Int) : ∀ l : List Nat, (∀ x ∈ l, x < 18446744073709551616) → (packW k l).length ≤ 10 * l.length
  | [], _ => by simp [packW]
  | y :: l, h => by
    have h1 := (putS_length (k := k) (h y (List.mem_cons_self ..))).2
    have h2 := packW_le k l (fun x hx => h x (List.mem_cons_of_mem _ hx))
    simp only [packW, List.length_append, List.length_cons]
    omega

end Go.Proofs.Ytlmmlmmadgcmcaa
