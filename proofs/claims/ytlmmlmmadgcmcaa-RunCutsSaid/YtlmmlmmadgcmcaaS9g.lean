/- Plain words of layer 9: a run is canonical just when its words packed are its bytes: joined. No program is named. -/
import Derived.Test.YtlmmlmmadgcmcaaW9d
import Derived.Test.YtlmmlmmadgcmcaaS9f
import Derived.Test.YtlmmlmmadgcmcaaS5b
namespace Go.Proofs.Ytlmmlmmadgcmcaa
open Go.RowKit
set_option linter.unusedVariables false

theorem step_fits {k : Int} {bs : List UInt8} {N : Nat} (hk : numberB k = true) (hs : stepN k bs = (N, 0)) : (readS k (bs.take N)).2 = 0 := by
  have hbd := stepN_bd k bs
  rw [hs] at hbd
  simp only at hbd
  have hl : (bs.take N).length = N := by rw [List.length_take]; omega
  unfold stepN at hs
  rcases number_three hk with ⟨h12, hw⟩ | ⟨h12, h9, hw⟩ | ⟨h12, h9, hw⟩
  · rw [if_neg (by omega), if_neg (by omega)] at hs
    have h8 : N = 8 := by split at hs <;> cases hs; rfl
    rw [readS_12 hk h12, if_pos (by omega)]
  · rw [if_neg (by omega), if_pos (by omega)] at hs
    have h4 : N = 4 := by split at hs <;> cases hs; rfl
    rw [readS_9 hk h12 h9, if_pos (by omega)]
  · rw [if_pos (by omega)] at hs
    rcases hv : readV bs with ⟨W, N', C⟩
    rw [hv] at hs
    cases hs
    rw [readS_0 hk h12 h9 (readV_take hv), if_pos ⟨rfl, hl.symm⟩]

theorem valsF_fits {k : Int} (hk : numberB k = true) : ∀ (f : Nat) (bs : List UInt8), ∀ x ∈ valsF k f bs, x.2 = 0 → (readS k x.1).2 = 0
  | 0, bs, x, hx, _ => by simp [valsF] at hx
  | f + 1, bs, x, hx, h0 => by
    by_cases hb : bs = []
    · subst hb; simp [valsF] at hx
    · rcases hs : stepN k bs with ⟨N, C⟩
      by_cases hC : C = 0
      · subst hC
        rw [valsF_ok hb hs] at hx
        rcases List.mem_cons.1 hx with rfl | hx
        · exact step_fits hk hs
        · exact valsF_fits hk f _ x hx h0
      · have e : valsF k (f + 1) bs = [([], C)] := by
          conv => lhs; unfold valsF
          rw [if_neg hb, hs, if_neg hC]
        rw [e] at hx
        simp only [List.mem_singleton] at hx
        subst hx
        exact absurd h0 hC

theorem canV_packed {k : Int} {bs : List UInt8} (h : codeV k bs = 0) : canV k bs = decide (packW k (wordsV k bs).1 = bs) := by
  have hk := codeV_number h
  have ha := codeV_all h
  have hv : valsV k bs = valsF k bs.length bs := by unfold valsV; rw [if_neg (by rw [hk]; simp)]
  have hp := all_packed (k := k) bs.length bs (Nat.le_refl _) (by rw [← hv]; exact ha)
  have hf := valsF_fits hk bs.length bs
  unfold wordsV canV
  rw [if_pos h]
  rw [hv] at ha ⊢
  rw [Bool.eq_iff_iff, List.all_eq_true, decide_eq_true_iff, ← hp]
  constructor
  · intro hc x hx
    have := hc x hx
    unfold canonB at this
    simp only [Bool.and_eq_true, decide_eq_true_eq] at this
    exact this.2.2
  · intro hc x hx
    unfold canonB
    simp only [Bool.and_eq_true, decide_eq_true_eq]
    exact ⟨ha x hx, hf x hx (ha x hx), hc x hx⟩

end Go.Proofs.Ytlmmlmmadgcmcaa
