/- Plain words of layer 9: where a run is cut. No program is named. -/
import Derived.Test.YtlmmlmmadgcmcaaS9e
namespace Go.Proofs.Ytlmmlmmadgcmcaa
open Go.RowKit
set_option linter.unusedVariables false

theorem sumL_take : ∀ (l : List (List UInt8 × Nat)) (q : Nat), sumL (l.take q) ≤ sumL l
  | [], q => by simp [sumL]
  | v :: l, 0 => by simp [sumL]
  | v :: l, q + 1 => by
    have := sumL_take l q
    simp only [List.take_succ_cons, sumL]
    omega

theorem sumL_valsF (k : Int) : ∀ (f : Nat) (bs : List UInt8), sumL (valsF k f bs) ≤ bs.length
  | 0, bs => by simp [valsF, sumL]
  | f + 1, bs => by
    unfold valsF
    by_cases hb : bs = []
    · rw [if_pos hb]; simp [sumL]
    · rw [if_neg hb]
      have hbd := stepN_bd k bs
      by_cases hc : (stepN k bs).2 = 0
      · rw [if_pos hc]
        have := sumL_valsF k f (bs.drop (stepN k bs).1)
        simp only [sumL, List.length_take, List.length_drop] at this ⊢
        omega
      · rw [if_neg hc]; simp [sumL]

theorem sumL_valsV (k : Int) (bs : List UInt8) : sumL (valsV k bs) ≤ bs.length := by
  unfold valsV
  split
  · simp [sumL]
  · exact sumL_valsF k _ bs

/-- How many are still to come ahead of the cut, behind j values. -/
def leftI (n : Int) (j : Nat) : Int := if n < 0 then n else ((n.toNat - j : Nat) : Int)

/-- Where the cut stands behind j values. -/
def atV (k : Int) (bs : List UInt8) (n : Int) (j : Nat) : Nat := sumL ((valsV k bs).take (min j n.toNat))

theorem leftI_zero (n : Int) : leftI n 0 = n := by unfold leftI; split <;> omega

theorem atV_zero (k : Int) (bs : List UInt8) (n : Int) : atV k bs n 0 = 0 := by simp [atV, sumL]

theorem leftI_bd (n : Int) (j : Nat) (h : -9223372036854775808 ≤ n ∧ n < 9223372036854775808) : -9223372036854775808 ≤ leftI n j ∧ leftI n j < 9223372036854775808 := by unfold leftI; split <;> omega

theorem atV_le (k : Int) (bs : List UInt8) (n : Int) (j : Nat) : atV k bs n j ≤ bs.length := Nat.le_trans (sumL_take _ _) (sumL_valsV k bs)

theorem sumL_take_succ {l : List (List UInt8 × Nat)} {j : Nat} {x : List UInt8 × Nat} (h : l[j]? = some x) : sumL (l.take (j + 1)) = sumL (l.take j) + x.1.length := by
  rw [List.take_add_one, h]
  exact sumL_snoc x _

theorem cut_more {k : Int} {bs : List UInt8} {n : Int} {j : Nat} {x : List UInt8 × Nat} (h : (valsV k bs)[j]? = some x) (hp : 0 < leftI n j) : leftI n (j + 1) = leftI n j - 1 ∧ atV k bs n (j + 1) = atV k bs n j + x.1.length := by
  unfold leftI at hp ⊢
  unfold atV
  by_cases hn : n < 0
  · rw [if_pos hn] at hp
    omega
  · rw [if_neg hn] at hp ⊢
    rw [if_neg hn]
    refine ⟨by omega, ?_⟩
    rw [Nat.min_eq_left (by omega : j + 1 ≤ n.toNat), Nat.min_eq_left (by omega : j ≤ n.toNat)]
    exact sumL_take_succ h

theorem cut_same {k : Int} {bs : List UInt8} {n : Int} {j : Nat} (hp : ¬ 0 < leftI n j) : leftI n (j + 1) = leftI n j ∧ atV k bs n (j + 1) = atV k bs n j := by
  unfold leftI at hp ⊢
  unfold atV
  by_cases hn : n < 0
  · rw [if_pos hn, if_pos hn]
    refine ⟨rfl, ?_⟩
    rw [show n.toNat = 0 by omega]
    simp
  · rw [if_neg hn] at hp ⊢
    rw [if_neg hn]
    refine ⟨by omega, ?_⟩
    rw [Nat.min_eq_right (by omega : n.toNat ≤ j + 1), Nat.min_eq_right (by omega : n.toNat ≤ j)]

/-- Where the cut stands, if it can be made. -/
theorem atV_end {k : Int} {bs : List UInt8} {n : Int} {j : Nat} (hn : 0 ≤ n) (hj : n ≤ j) : atV k bs n j = sumL ((valsV k bs).take n.toNat) := by
  unfold atV
  rw [Nat.min_eq_right (by omega)]

end Go.Proofs.Ytlmmlmmadgcmcaa
