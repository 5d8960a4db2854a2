/- Contracts of layer 6: what a word means. -/
import Derived.Test.YtlmmlmmadgcmcaaW6b
namespace Go.Proofs.Ytlmmlmmadgcmcaa
open Go.RowKit
set_option linter.unusedVariables false

theorem ret_sc {a a' : Int} {u u' : Value} (h1 : a = a') (h2 : u = u') : Ending.returned (.tuple #[.int .i64 a, u]) = .returned (.tuple #[.int .i64 a', u']) := by rw [h1, h2]

theorem twos_wrap {x : Nat} (h : x < 18446744073709551616) : wrap64 (x : Int) = twosI x := by
  unfold wrap64 twosI
  split <;> omega

theorem twos_neg {x : Nat} (h : x < 18446744073709551616) (h1 : ¬ (x : Int) < 9223372036854775808) : wrap64 (wrap64 (-wrap64 (18446744073709551615 - (x : Int))) - 1) = twosI x := by
  unfold wrap64 twosI
  rw [if_neg (by omega)]
  omega

theorem signed_or (k : Int) : k = 1 ∨ k = 8 ∨ k = 10 ∨ k = 2 ∨ k = 13 ∨ k = 5 ∨ k = 6 ∨ ¬ (k = 1 ∨ k = 8 ∨ k = 10 ∨ k = 2 ∨ k = 13 ∨ k = 5 ∨ k = 6) := by omega

theorem kCanonR (k : Int) (x : Nat) (hx : x < 18446744073709551616) (w : World) :
    Calls Try.prog 40 #[.int .i64 k, .int .u64 x] w fun e w' => e = .returned (.int .u64 (canonN k x)) ∧ w = w' := by
  have hs := sign32I_bd x
  have hsl := sign32I_wide_lt x
  by_cases c1 : k = 1 ∨ k = 8
  · have hc : ((canonN k x : Nat) : Int) = wideI (sign32I x) := by unfold canonN; rw [if_pos c1]; omega
    have Hc := Lib.hid hc
    clear hc
    have H1 : ∀ w0 : World, Calls Try.prog 40 #[.int .i64 k, .int .u64 x] w0 fun e w' => e = .returned (.int .u64 (wideI (sign32I x))) ∧ w0 = w' := by
      intro w0
      clear Hc
      rcases c1 with rfl | rfl
      · go_enter Try.func40, Try.ntmps40
        go_wp2_with (first | (go_at_call 86; refine (sign32R _ _ (by omega) (by omega)).mono ?_; rintro e w2 ⟨rfl, rfl⟩) | (go_at_call 85; refine (wideR _ _ (by omega) (by omega)).mono ?_; rintro e w2 ⟨rfl, rfl⟩))
        go_ret
        exact ⟨rfl, rfl⟩
      · go_enter Try.func40, Try.ntmps40
        go_wp2_with (first | (go_at_call 86; refine (sign32R _ _ (by omega) (by omega)).mono ?_; rintro e w2 ⟨rfl, rfl⟩) | (go_at_call 85; refine (wideR _ _ (by omega) (by omega)).mono ?_; rintro e w2 ⟨rfl, rfl⟩))
        go_ret
        exact ⟨rfl, rfl⟩
    rw [Hc.out]
    exact H1 w
  · by_cases c7 : k = 7
    · subst c7
      clear hs hsl
      by_cases h0 : x = 0
      · subst h0
        go_enter Try.func40, Try.ntmps40
        go_wp2
        go_ret
        exact ⟨rfl, rfl⟩
      · have hc : canonN 7 x = 1 := by unfold canonN; rw [if_neg (by decide), if_pos rfl, if_neg h0]
        rw [hc]
        have q : (0 : Int) < (x : Nat) := by omega
        clear hc h0
        go_enter Try.func40, Try.ntmps40
        go_wp2
        go_ret
        exact ⟨rfl, rfl⟩
    · by_cases c3 : k = 3 ∨ k = 5 ∨ k = 9 ∨ k = 10 ∨ k = 11
      · have hc : ((canonN k x : Nat) : Int) = (x : Int) % 4294967296 := by unfold canonN; rw [if_neg c1, if_neg c7, if_pos c3]; rfl
        have Hc := Lib.hid hc
        clear hc hs hsl c1 c7
        have H1 : ∀ w0 : World, Calls Try.prog 40 #[.int .i64 k, .int .u64 x] w0 fun e w' => e = .returned (.int .u64 ((x : Int) % 4294967296)) ∧ w0 = w' := by
          intro w0
          clear Hc
          rcases c3 with rfl | rfl | rfl | rfl | rfl
          all_goals
            go_enter Try.func40, Try.ntmps40
            go_wp2
            go_ret
            exact ⟨rfl, rfl⟩
        rw [Hc.out]
        exact H1 w
      · have hc : ((canonN k x : Nat) : Int) = (x : Int) := by unfold canonN; rw [if_neg c1, if_neg c7, if_neg c3]
        have q1 : (k == 1) = false := by simp; omega
        have q3 : (k == 3) = false := by simp; omega
        have q5 : (k == 5) = false := by simp; omega
        have q7 : (k == 7) = false := by simp; omega
        have q8 : (k == 8) = false := by simp; omega
        have q9 : (k == 9) = false := by simp; omega
        have q10 : (k == 10) = false := by simp; omega
        have q11 : (k == 11) = false := by simp; omega
        have Hc := Lib.hid hc
        clear hc hs hsl c1 c7 c3
        go_enter Try.func40, Try.ntmps40
        go_wp2
        go_ret
        rw [Hc.out]
        exact ⟨rfl, rfl⟩

end Go.Proofs.Ytlmmlmmadgcmcaa
