/- Contracts of layer 3: reading tags. -/
import Derived.Test.YtlmmlmmadgcmcaaW2b
namespace Go.Proofs.Ytlmmlmmadgcmcaa
open Go.RowKit
set_option linter.unusedVariables false

theorem tRightR (number wire : Int) (w : World) :
    Calls Try.prog 112 #[.int .i64 number, .int .i64 wire] w fun e w' => e = .returned (.bool (rightB number wire)) ∧ w = w' := by
  by_cases h1 : (1 : Int) ≤ number
  · by_cases h2 : number ≤ (536870911 : Int)
    · by_cases e0 : wire = 0
      · subst e0
        go_enter Try.func112, Try.ntmps112
        go_wp2
        go_ret
        exact ⟨ret_bool (by unfold rightB; exact (decide_eq_true (by omega)).symm), rfl⟩
      · by_cases e1 : wire = 1
        · subst e1
          go_enter Try.func112, Try.ntmps112
          go_wp2
          go_ret
          exact ⟨ret_bool (by unfold rightB; exact (decide_eq_true (by omega)).symm), rfl⟩
        · by_cases e2 : wire = 2
          · subst e2
            go_enter Try.func112, Try.ntmps112
            go_wp2
            go_ret
            exact ⟨ret_bool (by unfold rightB; exact (decide_eq_true (by omega)).symm), rfl⟩
          · have q0 : (wire == 0) = false := by simp; omega
            have q1 : (wire == 1) = false := by simp; omega
            have q2 : (wire == 2) = false := by simp; omega
            go_enter Try.func112, Try.ntmps112
            go_wp2
            go_ret
            refine ⟨ret_bool ?_, rfl⟩
            unfold rightB
            rw [Bool.eq_iff_iff]
            simp only [beq_iff_eq, decide_eq_true_eq]
            omega
    · go_enter Try.func112, Try.ntmps112
      go_wp2
      go_ret
      exact ⟨ret_bool (by unfold rightB; exact (decide_eq_false (by omega)).symm), rfl⟩
  · go_enter Try.func112, Try.ntmps112
    go_wp2
    go_ret
    exact ⟨ret_bool (by unfold rightB; exact (decide_eq_false (by omega)).symm), rfl⟩

theorem tRight (number wire : Int) (w : World) :
    Calls Try.prog 110 #[.agg #[.int .i64 number, .int .i64 wire]] w fun e w' => e = .returned (.bool (rightB number wire)) ∧ Ext w w' := by
  by_cases h1 : (1 : Int) ≤ number
  · by_cases h2 : number ≤ (536870911 : Int)
    · by_cases h3 : (0 : Int) ≤ wire
      · by_cases h4 : wire < (8 : Int)
        · rcases (show wire = 0 ∨ wire = 1 ∨ wire = 2 ∨ wire = 3 ∨ wire = 4 ∨ wire = 5 ∨ wire = 6 ∨ wire = 7 by omega) with h | h | h | h | h | h | h | h
          all_goals
            subst h
            go_enter Try.func110, Try.ntmps110
            go_wp2
            go_ret
            exact ⟨ret_bool (by unfold rightB; first | exact (decide_eq_true (by omega)).symm | exact (decide_eq_false (by omega)).symm), (Ext.refl _).alloc _⟩
        · go_enter Try.func110, Try.ntmps110
          go_wp2
          go_ret
          exact ⟨ret_bool (by unfold rightB; exact (decide_eq_false (by omega)).symm), (Ext.refl _).alloc _⟩
      · go_enter Try.func110, Try.ntmps110
        go_wp2
        go_ret
        exact ⟨ret_bool (by unfold rightB; exact (decide_eq_false (by omega)).symm), (Ext.refl _).alloc _⟩
    · go_enter Try.func110, Try.ntmps110
      go_wp2
      go_ret
      exact ⟨ret_bool (by unfold rightB; exact (decide_eq_false (by omega)).symm), (Ext.refl _).alloc _⟩
  · go_enter Try.func110, Try.ntmps110
    go_wp2
    go_ret
    exact ⟨ret_bool (by unfold rightB; exact (decide_eq_false (by omega)).symm), (Ext.refl _).alloc _⟩

end Go.Proofs.Ytlmmlmmadgcmcaa
