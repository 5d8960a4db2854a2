/- Plain words of layer 9: packed words read back. No program is named. -/
import Derived.Test.YtlmmlmmadgcmcaaS9b
namespace Go.Proofs.Ytlmmlmmadgcmcaa
open Go.RowKit
set_option linter.unusedVariables false

theorem stepN_put {k : Int} {x : Nat} (hx : x < 18446744073709551616) (more : List UInt8) : stepN k (putS k x ++ more) = ((putS k x).length, 0) := by
  by_cases h9 : k < 9
  · have hp : putS k x = Lib.uvarint (canonN k x) := by unfold putS; rw [if_neg (by omega), if_neg (by omega)]
    unfold stepN
    rw [hp, if_pos h9, readV_uvarint _ _ (canonN_lt k hx)]
  · by_cases h12 : k < 12
    · have hp : putS k x = littleB 4 (canonN k x) := by unfold putS; rw [if_neg (by omega), if_pos (by omega)]
      unfold stepN
      rw [hp, if_neg h9, if_pos h12, littleB_length, if_neg (by rw [List.length_append, littleB_length]; omega)]
    · have hp : putS k x = littleB 8 (canonN k x) := by unfold putS; rw [if_pos (by omega)]
      unfold stepN
      rw [hp, if_neg h9, if_neg h12, littleB_length, if_neg (by rw [List.length_append, littleB_length]; omega)]

theorem valsF_ok {k : Int} {g n : Nat} {bs : List UInt8} (hb : bs ≠ []) (h : stepN k bs = (n, 0)) : valsF k (g + 1) bs = (bs.take n, 0) :: valsF k g (bs.drop n) := by
  conv => lhs; unfold valsF
  rw [if_neg hb, h, if_pos rfl]

theorem valsF_pack {k : Int} : ∀ (ws : List Nat) (f : Nat), (∀ x ∈ ws, x < 18446744073709551616) → (packW k ws).length ≤ f → valsF k f (packW k ws) = ws.map fun x => (putS k x, 0)
  | [], f, _, _ => by cases f <;> rfl
  | x :: l, f, h, hf => by
    have hx := h x (List.mem_cons_self ..)
    have h1 := (putS_length (k := k) hx).1
    simp only [packW, List.length_append] at hf
    obtain ⟨g, rfl⟩ : ∃ g, f = g + 1 := ⟨f - 1, by omega⟩
    have hne : putS k x ++ packW k l ≠ [] := by
      intro e
      have := congrArg List.length e
      simp only [List.length_append, List.length_nil] at this
      omega
    simp only [packW]
    rw [valsF_ok hne (stepN_put hx _)]
    simp only [List.take_left, List.drop_left, List.map_cons]
    rw [valsF_pack l g (fun y hy => h y (List.mem_cons_of_mem _ hy)) (by omega)]

theorem valsV_pack {k : Int} {ws : List Nat} (hk : numberB k = true) (h : ∀ x ∈ ws, x < 18446744073709551616) : valsV k (packW k ws) = ws.map fun x => (putS k x, 0) := by
  unfold valsV
  rw [if_neg (by rw [hk]; simp), valsF_pack ws _ h (Nat.le_refl _)]

end Go.Proofs.Ytlmmlmmadgcmcaa
