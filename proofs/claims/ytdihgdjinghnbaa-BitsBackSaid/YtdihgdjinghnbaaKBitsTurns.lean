/- The walk of the law BitsTurns, out of its callees' contracts. -/
import Derived.Test.YtdihgdjinghnbaaW1
import Derived.Test.YtdihgdjinghnbaaW1n
namespace Go.Proofs.Ytdihgdjinghnbaa
open Go.RowKit
set_option linter.unusedVariables false

theorem lenN_127 : lenN 127 = 1 := lenN_small (by omega)

theorem lenN_0 : lenN 0 = 1 := lenN_small (by omega)

theorem lenN_128 : lenN 128 = 2 := by rw [lenN_big (by omega), lenN_small (by omega)]

theorem alive01 (w : World) : Calls Try.prog 11 #[] w fun e w' => e = .returned (.bool true) ∧ w = w' := by
  have z1 : zigI (-1) = 1 := by decide
  have z2 : zigI 1 = 2 := by decide
  have l1 := lenN_127
  have l2 := lenN_128
  have l3 := lenN_0
  go_enter Try.func11, Try.ntmps11
  go_wp2_with (first | (go_at_call 17; refine (zig _ _ (by omega) (by omega)).mono ?_; rintro e w' ⟨rfl, rfl⟩) | (go_at_call 25; refine (lenI _ _ (by omega) (by omega)).mono ?_; rintro e w' ⟨rfl, rfl⟩))
  go_ret
  exact ⟨rfl, rfl⟩

theorem bitsTurns_walk {x : Nat} {n m : Int} {w : World} (hx : x < 18446744073709551616) (hn : -9223372036854775808 ≤ n ∧ n < 9223372036854775808) (hm : -2147483648 ≤ m ∧ m < 2147483648) :
    Calls Try.prog 3 #[.int .u64 x, .int .i64 n, .int .i32 m] w fun e w' => e = .returned (.bool true) ∧ Ext w w' := by
  have hs := sign32I_bd x
  have hz := zagI_bd32 (x % 4294967296) (by omega) (by omega)
  go_enter Try.func3, Try.ntmps3
  go_wp2_with (first | (go_at_call 11; refine (alive01 _).mono ?_; rintro e w' ⟨rfl, rfl⟩) | (go_at_call 12; refine (low32 _ _ (by omega) (by omega)).mono ?_; rintro e w' ⟨rfl, rfl⟩) | (go_at_call 13; refine (sign32 _ _ (by omega) (by omega)).mono ?_; rintro e w' ⟨rfl, rfl⟩) | (go_at_call 14; refine (sign32R _ _ (by omega) (by omega)).mono ?_; rintro e w' ⟨rfl, rfl⟩) | (go_at_call 15; refine (wide32 _ _ (by omega) (by omega)).mono ?_; rintro e w' ⟨rfl, rfl⟩) | (go_at_call 16; refine (wideR _ _ (by omega) (by omega)).mono ?_; rintro e w' ⟨rfl, rfl⟩) | (go_at_call 17; refine (zig _ _ (by omega) (by omega)).mono ?_; rintro e w' ⟨rfl, rfl⟩) | (go_at_call 18; refine (zigR _ _ (by omega) (by omega)).mono ?_; rintro e w' ⟨rfl, rfl⟩) | (go_at_call 19; refine (zag _ _ (by omega) (by omega)).mono ?_; rintro e w' ⟨rfl, rfl⟩) | (go_at_call 20; refine (zagR _ _ (by omega) (by omega)).mono ?_; rintro e w' ⟨rfl, rfl⟩) | (go_at_call 21; refine (zag32 _ _ (by omega) (by omega)).mono ?_; rintro e w' ⟨rfl, rfl⟩))
  go_ret
  exact ⟨rfl, Ext.refl _⟩

end Go.Proofs.Ytdihgdjinghnbaa
