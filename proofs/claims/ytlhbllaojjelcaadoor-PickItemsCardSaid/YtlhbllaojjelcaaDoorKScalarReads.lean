/- The walk of the law ScalarReads, out of its callees' contracts. -/
import Derived.Test.YtlhbllaojjelcaaDoorKScalarPuts
namespace Go.Proofs.YtlhbllaojjelcaaDoor
open Go.RowKit
set_option linter.unusedVariables false

theorem sRead_0 {k : Int} (hk : numberB k = true) (bs : List UInt8) : (readS k bs).2 = if fitsV (wireI k) bs = true then 0 else 12 := by
  unfold fitsV
  rcases number_three hk with ⟨h12, hw⟩ | ⟨h12, h9, hw⟩ | ⟨h12, h9, hw⟩
  · rw [readS_12 hk h12, hw]
    by_cases h : bs.length = 8 <;> simp [h]
  · rw [readS_9 hk h12 h9, hw]
    by_cases h : bs.length = 4 <;> simp [h]
  · rcases hv : readV bs with ⟨W, N, C⟩
    rw [readS_0 hk h12 h9 hv, hw]
    by_cases h : C = 0 ∧ N = bs.length <;> simp [h]

theorem sReadR_word {k : Int} (hk : numberB k = true) {bs : List UInt8} (hf : fitsV (wireI k) bs = true) :
    (readS k bs) = (canonN k (if wireI k = 0 then (readV bs).1 else wordN (bs.take 8)), 0) := by
  unfold fitsV at hf
  have hf := of_decide_eq_true hf
  rcases number_three hk with ⟨h12, hw⟩ | ⟨h12, h9, hw⟩ | ⟨h12, h9, hw⟩
  · rw [hw] at hf
    have h8 : bs.length = 8 := by omega
    rw [readS_12 hk h12, hw, if_pos h8, if_neg (by omega), List.take_of_length_le (by omega)]
  · rw [hw] at hf
    have h8 : bs.length = 4 := by omega
    rw [readS_9 hk h12 h9, hw, if_pos h8, if_neg (by omega), List.take_of_length_le (by omega)]
  · rcases hv : readV bs with ⟨W, N, C⟩
    rw [hw, hv] at hf
    simp only at hf
    have h0 : C = 0 ∧ N = bs.length := by omega
    rw [readS_0 hk h12 h9 hv, hw, if_pos h0, if_pos rfl]

theorem wordN_take8 (bs : List UInt8) : wordN (bs.take 8) < 18446744073709551616 := by
  have h1 := wordN_lt (bs.take 8)
  have h2 : (bs.take 8).length ≤ 8 := by rw [List.length_take]; omega
  exact Nat.lt_of_lt_of_le h1 (Nat.le_trans (Nat.pow_le_pow_right (by decide) h2) (by decide))

end Go.Proofs.YtlhbllaojjelcaaDoor
