/- Contracts of layer 6: what a word means. -/
import Derived.Test.YtcipokmklkognaaW6b
namespace Go.Proofs.Ytcipokmklkognaa
open Go.RowKit
set_option linter.unusedVariables false

theorem ret_sc {a a' : Int} {u u' : Value} (h1 : a = a') (h2 : u = u') : Ending.returned (.tuple #[.int .i64 a, u]) = .returned (.tuple #[.int .i64 a', u']) := by rw [h1, h2]

theorem twos_wrap {x : Nat} (h : x < 18446744073709551616) : wrap64 (x : Int) = twosI x := by
  unfold wrap64 twosI
  split <;> omega

theorem twos_neg {x : Nat} (h : x < 18446744073709551616) (h1 : ¬ (x : Int) < 9223372036854775808) : wrap64 (wrap64 (-wrap64 (18446744073709551615 - (x : Int))) - 1) = twosI x := by
  unfold wrap64 twosI
  rw [if_neg (by omega)]
  omega

theorem signed_or (k : Int) : k = 1 ∨ k = 8 ∨ k = 10 ∨ k = 2 ∨ k = 13 ∨ k = 5 ∨ k = 6 ∨ ¬ (k = 1 ∨ k = 8 ∨ k = 10 ∨ k = 2 ∨ k = 13 ∨ k = 5 ∨ k = 6) := by omega

theorem kSigned (k : Int) (x : Nat) (hx : x < 18446744073709551616) (w : World) :
    Calls Try.prog 37 #[.int .i64 k, .int .u64 x] w fun e w' => e = .returned (.tuple #[.int .i64 (signedI k x), .int .u8 (if signedB k = true then 0 else 2)]) ∧ w = w' := by
  have hs := sign32I_bd x
  have hz := zagI_bd x (by omega) (by omega)
  have hz2 : -2147483648 ≤ zagI ((x : Int) % 4294967296) ∧ zagI ((x : Int) % 4294967296) < 2147483648 := by unfold zagI; split <;> omega
  rcases signed_or k with rfl | rfl | rfl | rfl | rfl | rfl | rfl | h
  · have e1 : signedI 1 x = sign32I x := rfl
    have e2 : signedB 1 = true := rfl
    rw [e1, e2]
    go_enter Try.func37, Try.ntmps37
    go_wp2_with (go_at_call 63; refine (sign32 _ _ (by omega) (by omega)).mono ?_; rintro e w2 ⟨rfl, rfl⟩)
    go_ret2
    exact ⟨rfl, rfl⟩
  · have e1 : signedI 8 x = sign32I x := rfl
    have e2 : signedB 8 = true := rfl
    rw [e1, e2]
    go_enter Try.func37, Try.ntmps37
    go_wp2_with (go_at_call 63; refine (sign32 _ _ (by omega) (by omega)).mono ?_; rintro e w2 ⟨rfl, rfl⟩)
    go_ret2
    exact ⟨rfl, rfl⟩
  · have e1 : signedI 10 x = sign32I x := rfl
    have e2 : signedB 10 = true := rfl
    rw [e1, e2]
    go_enter Try.func37, Try.ntmps37
    go_wp2_with (go_at_call 63; refine (sign32 _ _ (by omega) (by omega)).mono ?_; rintro e w2 ⟨rfl, rfl⟩)
    go_ret2
    exact ⟨rfl, rfl⟩
  · have e1 : signedI 2 x = twosI x := rfl
    have e2 : signedB 2 = true := rfl
    rw [e1, e2]
    go_enter Try.func37, Try.ntmps37
    go_wp2
    go_ret2
    exact ⟨ret_sc (twos_wrap hx) rfl, rfl⟩
  · have e1 : signedI 13 x = twosI x := rfl
    have e2 : signedB 13 = true := rfl
    rw [e1, e2]
    go_enter Try.func37, Try.ntmps37
    go_wp2
    go_ret2
    exact ⟨ret_sc (twos_wrap hx) rfl, rfl⟩
  · have e1 : signedI 5 x = zagI ((x : Int) % 4294967296) := rfl
    have e2 : signedB 5 = true := rfl
    rw [e1, e2]
    go_enter Try.func37, Try.ntmps37
    go_wp2_with (go_at_call 65; refine (zag32 _ _ (by omega) (by omega)).mono ?_; rintro e w2 ⟨rfl, rfl⟩)
    go_ret2
    exact ⟨rfl, rfl⟩
  · have e1 : signedI 6 x = zagI x := rfl
    have e2 : signedB 6 = true := rfl
    rw [e1, e2]
    go_enter Try.func37, Try.ntmps37
    go_wp2_with (go_at_call 66; refine (zag _ _ (by omega) (by omega)).mono ?_; rintro e w2 ⟨rfl, rfl⟩)
    go_ret2
    exact ⟨rfl, rfl⟩
  · have e1 : signedI k x = 0 := by unfold signedI; rw [if_neg (by omega), if_neg (by omega), if_neg (by omega), if_neg (by omega)]
    have e2 : signedB k = false := decide_eq_false h
    have q1 : (k == 1) = false := by simp; omega
    have q2 : (k == 2) = false := by simp; omega
    have q5 : (k == 5) = false := by simp; omega
    have q6 : (k == 6) = false := by simp; omega
    have q8 : (k == 8) = false := by simp; omega
    have q10 : (k == 10) = false := by simp; omega
    have q13 : (k == 13) = false := by simp; omega
    rw [e1, e2]
    clear h e1 e2
    go_enter Try.func37, Try.ntmps37
    go_wp2
    go_ret2
    exact ⟨rfl, rfl⟩

theorem kSignedR (k : Int) (x : Nat) (hx : x < 18446744073709551616) (w : World) :
    Calls Try.prog 38 #[.int .i64 k, .int .u64 x] w fun e w' => e = .returned (.tuple #[.int .i64 (signedI k x), .bool (signedB k)]) ∧ w = w' := by
  rcases signed_or k with rfl | rfl | rfl | rfl | rfl | rfl | rfl | h
  · have e1 : signedI 1 x = sign32I x := rfl
    have e2 : signedB 1 = true := rfl
    rw [e1, e2]
    go_enter Try.func38, Try.ntmps38
    go_wp2_with (go_at_call 67; refine (sign32R _ _ (by omega) (by omega)).mono ?_; rintro e w2 ⟨rfl, rfl⟩)
    go_ret2
    exact ⟨rfl, rfl⟩
  · have e1 : signedI 8 x = sign32I x := rfl
    have e2 : signedB 8 = true := rfl
    rw [e1, e2]
    go_enter Try.func38, Try.ntmps38
    go_wp2_with (go_at_call 67; refine (sign32R _ _ (by omega) (by omega)).mono ?_; rintro e w2 ⟨rfl, rfl⟩)
    go_ret2
    exact ⟨rfl, rfl⟩
  · have e1 : signedI 10 x = sign32I x := rfl
    have e2 : signedB 10 = true := rfl
    rw [e1, e2]
    go_enter Try.func38, Try.ntmps38
    go_wp2_with (go_at_call 67; refine (sign32R _ _ (by omega) (by omega)).mono ?_; rintro e w2 ⟨rfl, rfl⟩)
    go_ret2
    exact ⟨rfl, rfl⟩
  · have e1 : signedI 2 x = twosI x := rfl
    have e2 : signedB 2 = true := rfl
    by_cases h : (x : Int) < 9223372036854775808
    · have e3 : twosI x = (x : Int) := if_pos (by omega)
      rw [e1, e2, e3]
      clear e1 e2 e3
      go_enter Try.func38, Try.ntmps38
      go_wp2
      go_ret2
      exact ⟨rfl, rfl⟩
    · rw [e1, e2]
      clear e1 e2
      have hq : decide ((x : Int) < 9223372036854775808) = false := decide_eq_false h
      clear h
      go_enter Try.func38, Try.ntmps38
      go_wp2
      go_ret2
      exact ⟨ret_sc (twos_neg hx (of_decide_eq_false hq)) rfl, rfl⟩
  · have e1 : signedI 13 x = twosI x := rfl
    have e2 : signedB 13 = true := rfl
    by_cases h : (x : Int) < 9223372036854775808
    · have e3 : twosI x = (x : Int) := if_pos (by omega)
      rw [e1, e2, e3]
      clear e1 e2 e3
      go_enter Try.func38, Try.ntmps38
      go_wp2
      go_ret2
      exact ⟨rfl, rfl⟩
    · rw [e1, e2]
      clear e1 e2
      have hq : decide ((x : Int) < 9223372036854775808) = false := decide_eq_false h
      clear h
      go_enter Try.func38, Try.ntmps38
      go_wp2
      go_ret2
      exact ⟨ret_sc (twos_neg hx (of_decide_eq_false hq)) rfl, rfl⟩
  · have e1 : signedI 5 x = zagI ((x : Int) % 4294967296) := rfl
    have e2 : signedB 5 = true := rfl
    rw [e1, e2]
    go_enter Try.func38, Try.ntmps38
    go_wp2_with (go_at_call 68; refine (zagR _ _ (by omega) (by omega)).mono ?_; rintro e w2 ⟨rfl, rfl⟩)
    go_ret2
    exact ⟨rfl, rfl⟩
  · have e1 : signedI 6 x = zagI x := rfl
    have e2 : signedB 6 = true := rfl
    rw [e1, e2]
    go_enter Try.func38, Try.ntmps38
    go_wp2_with (go_at_call 68; refine (zagR _ _ (by omega) (by omega)).mono ?_; rintro e w2 ⟨rfl, rfl⟩)
    go_ret2
    exact ⟨rfl, rfl⟩
  · have e1 : signedI k x = 0 := by unfold signedI; rw [if_neg (by omega), if_neg (by omega), if_neg (by omega), if_neg (by omega)]
    have e2 : signedB k = false := decide_eq_false h
    have q1 : (k == 1) = false := by simp; omega
    have q2 : (k == 2) = false := by simp; omega
    have q5 : (k == 5) = false := by simp; omega
    have q6 : (k == 6) = false := by simp; omega
    have q8 : (k == 8) = false := by simp; omega
    have q10 : (k == 10) = false := by simp; omega
    have q13 : (k == 13) = false := by simp; omega
    rw [e1, e2]
    clear h e1 e2
    go_enter Try.func38, Try.ntmps38
    go_wp2
    go_ret2
    exact ⟨rfl, rfl⟩

theorem kCanonR (k : Int) (x : Nat) (hx : x < 18446744073709551616) (w : World) :
    Calls Try.prog 39 #[.int .i64 k, .int .u64 x] w fun e w' => e = .returned (.int .u64 (canonN k x)) ∧ w = w' := by
  have hs := sign32I_bd x
  have hsl := sign32I_wide_lt x
  by_cases c1 : k = 1 ∨ k = 8
  · have hc : ((canonN k x : Nat) : Int) = wideI (sign32I x) := by unfold canonN; rw [if_pos c1]; omega
    have Hc := Lib.hid hc
    clear hc
    have H1 : ∀ w0 : World, Calls Try.prog 39 #[.int .i64 k, .int .u64 x] w0 fun e w' => e = .returned (.int .u64 (wideI (sign32I x))) ∧ w0 = w' := by
      intro w0
      clear Hc
      rcases c1 with rfl | rfl
      · go_enter Try.func39, Try.ntmps39
        go_wp2_with (first | (go_at_call 67; refine (sign32R _ _ (by omega) (by omega)).mono ?_; rintro e w2 ⟨rfl, rfl⟩) | (go_at_call 69; refine (wideR _ _ (by omega) (by omega)).mono ?_; rintro e w2 ⟨rfl, rfl⟩))
        go_ret
        exact ⟨rfl, rfl⟩
      · go_enter Try.func39, Try.ntmps39
        go_wp2_with (first | (go_at_call 67; refine (sign32R _ _ (by omega) (by omega)).mono ?_; rintro e w2 ⟨rfl, rfl⟩) | (go_at_call 69; refine (wideR _ _ (by omega) (by omega)).mono ?_; rintro e w2 ⟨rfl, rfl⟩))
        go_ret
        exact ⟨rfl, rfl⟩
    rw [Hc.out]
    exact H1 w
  · by_cases c7 : k = 7
    · subst c7
      clear hs hsl
      by_cases h0 : x = 0
      · subst h0
        go_enter Try.func39, Try.ntmps39
        go_wp2
        go_ret
        exact ⟨rfl, rfl⟩
      · have hc : canonN 7 x = 1 := by unfold canonN; rw [if_neg (by decide), if_pos rfl, if_neg h0]
        rw [hc]
        have q : (0 : Int) < (x : Nat) := by omega
        clear hc h0
        go_enter Try.func39, Try.ntmps39
        go_wp2
        go_ret
        exact ⟨rfl, rfl⟩
    · by_cases c3 : k = 3 ∨ k = 5 ∨ k = 9 ∨ k = 10 ∨ k = 11
      · have hc : ((canonN k x : Nat) : Int) = (x : Int) % 4294967296 := by unfold canonN; rw [if_neg c1, if_neg c7, if_pos c3]; rfl
        have Hc := Lib.hid hc
        clear hc hs hsl c1 c7
        have H1 : ∀ w0 : World, Calls Try.prog 39 #[.int .i64 k, .int .u64 x] w0 fun e w' => e = .returned (.int .u64 ((x : Int) % 4294967296)) ∧ w0 = w' := by
          intro w0
          clear Hc
          rcases c3 with rfl | rfl | rfl | rfl | rfl
          all_goals
            go_enter Try.func39, Try.ntmps39
            go_wp2
            go_ret
            exact ⟨rfl, rfl⟩
        rw [Hc.out]
        exact H1 w
      · have hc : ((canonN k x : Nat) : Int) = (x : Int) := by unfold canonN; rw [if_neg c1, if_neg c7, if_neg c3]
        have q1 : (k == 1) = false := by simp; omega
        have q3 : (k == 3) = false := by simp; omega
        have q5 : (k == 5) = false := by simp; omega
        have q7 : (k == 7) = false := by simp; omega
        have q8 : (k == 8) = false := by simp; omega
        have q9 : (k == 9) = false := by simp; omega
        have q10 : (k == 10) = false := by simp; omega
        have q11 : (k == 11) = false := by simp; omega
        have Hc := Lib.hid hc
        clear hc hs hsl c1 c7 c3
        go_enter Try.func39, Try.ntmps39
        go_wp2
        go_ret
        rw [Hc.out]
        exact ⟨rfl, rfl⟩

end Go.Proofs.Ytcipokmklkognaa
