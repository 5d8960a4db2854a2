/- The walk of the law KindWords, out of its callees' contracts. -/
import Derived.Test.YtcipokmklkognaaKKindForms
import Derived.Test.YtcipokmklkognaaW6c
namespace Go.Proofs.Ytcipokmklkognaa
open Go.RowKit
set_option linter.unusedVariables false

theorem kindWords_walk {k : Int} {x : Nat} {w : World} (bk : -9223372036854775808 ≤ k ∧ k < 9223372036854775808) (hx : x < 18446744073709551616) :
    Calls Try.prog 6 #[.int .i64 k, .int .u64 x] w fun e w' => e = .returned (.bool true) ∧ Ext w w' := by
  by_cases hB : numberB k = true
  · by_cases hS : signedB k = true
    · go_enter Try.func6, Try.ntmps6
      go_wp2_with (first
        | (go_at_call 25; refine (alive06 _).mono ?_; rintro e w1 ⟨rfl, E1⟩)
        | (go_at_call 36; refine (kCanon k x hx _).mono ?_; rw [if_pos hB, if_pos hB]; rintro e w2 ⟨rfl, E2⟩)
        | (go_at_call 37; refine (kSigned k x hx _).mono ?_; rw [if_pos hS]; rintro e w3 ⟨rfl, rfl⟩)
        | (go_at_call 38; refine (kSignedR k x hx _).mono ?_; rw [hS]; rintro e w3 ⟨rfl, rfl⟩)
        | (go_at_call 35; refine (kNumberR _ _).mono ?_; rw [hB]; rintro e w3 ⟨rfl, rfl⟩)
        | (go_at_call 39; refine (kCanonR k x hx _).mono ?_; rintro e w3 ⟨rfl, rfl⟩))
      go_ret
      exact ⟨rfl, E1.trans E2⟩
    · have hS : signedB k = false := by simpa using hS
      go_enter Try.func6, Try.ntmps6
      go_wp2_with (first
        | (go_at_call 25; refine (alive06 _).mono ?_; rintro e w1 ⟨rfl, E1⟩)
        | (go_at_call 36; refine (kCanon k x hx _).mono ?_; rw [if_pos hB, if_pos hB]; rintro e w2 ⟨rfl, E2⟩)
        | (go_at_call 37; refine (kSigned k x hx _).mono ?_; rw [if_neg (by rw [hS]; decide)]; rintro e w3 ⟨rfl, rfl⟩)
        | (go_at_call 38; refine (kSignedR k x hx _).mono ?_; rw [hS]; rintro e w3 ⟨rfl, rfl⟩)
        | (go_at_call 35; refine (kNumberR _ _).mono ?_; rw [hB]; rintro e w3 ⟨rfl, rfl⟩)
        | (go_at_call 39; refine (kCanonR k x hx _).mono ?_; rintro e w3 ⟨rfl, rfl⟩))
      go_ret
      exact ⟨rfl, E1.trans E2⟩
  · have hB : numberB k = false := by simpa using hB
    obtain ⟨hS, h0⟩ := signed_number hB x
    go_enter Try.func6, Try.ntmps6
    go_wp2_with (first
      | (go_at_call 25; refine (alive06 _).mono ?_; rintro e w1 ⟨rfl, E1⟩)
      | (go_at_call 36; refine (kCanon k x hx _).mono ?_; rw [if_neg (by rw [hB]; decide), if_neg (by rw [hB]; decide)]; rintro e w2 ⟨rfl, E2⟩)
      | (go_at_call 37; refine (kSigned k x hx _).mono ?_; rw [if_neg (by rw [hS]; decide), h0]; rintro e w3 ⟨rfl, rfl⟩)
      | (go_at_call 38; refine (kSignedR k x hx _).mono ?_; rw [hS, h0]; rintro e w3 ⟨rfl, rfl⟩)
      | (go_at_call 35; refine (kNumberR _ _).mono ?_; rw [hB]; rintro e w3 ⟨rfl, rfl⟩)
      | (go_at_call 39; refine (kCanonR k x hx _).mono ?_; rintro e w3 ⟨rfl, rfl⟩))
    go_ret
    exact ⟨rfl, E1.trans E2⟩

end Go.Proofs.Ytcipokmklkognaa
