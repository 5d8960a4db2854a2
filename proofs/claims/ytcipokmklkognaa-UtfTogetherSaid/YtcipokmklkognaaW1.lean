/- Contracts of the functions of layer 1 that only reckon: package bits and its reference. -/
import Derived.Test.YtcipokmklkognaaChecked
import Derived.Test.YtcipokmklkognaaS1
import Derived.WalkKit
import Derived.WalkSpells
import Derived.WalkLawsBesides
namespace Go.Proofs.Ytcipokmklkognaa
open Go.RowKit
set_option linter.unusedVariables false

theorem low32 (n : Int) (w : World) (h0 : 0 ≤ n) (h1 : n < 18446744073709551616) :
    Calls Try.prog 64 #[.int .u64 n] w fun e w' => e = .returned (.int .u32 (n % 4294967296)) ∧ w = w' := by
  go_enter Try.func64, Try.ntmps64
  go_wp2
  go_ret
  exact ⟨rfl, rfl⟩

theorem sign32 (n : Int) (w : World) (h0 : 0 ≤ n) (h1 : n < 18446744073709551616) :
    Calls Try.prog 63 #[.int .u64 n] w fun e w' => e = .returned (.int .i32 (sign32I n)) ∧ w = w' := by
  go_enter Try.func63, Try.ntmps63
  go_wp2
  go_ret
  exact ⟨ret_int (sign32I_wrap n), rfl⟩

theorem sign32R (n : Int) (w : World) (h0 : 0 ≤ n) (h1 : n < 18446744073709551616) :
    Calls Try.prog 67 #[.int .u64 n] w fun e w' => e = .returned (.int .i64 (sign32I n)) ∧ w = w' := by
  go_enter Try.func67, Try.ntmps67
  go_wp2
  · go_ret
    exact ⟨ret_int (by unfold sign32I; rw [if_pos ‹_›]), rfl⟩
  · go_ret
    exact ⟨ret_int (by unfold sign32I; rw [if_neg (by omega)]), rfl⟩

theorem wide32 (n : Int) (w : World) (h0 : -2147483648 ≤ n) (h1 : n < 2147483648) :
    Calls Try.prog 62 #[.int .i32 n] w fun e w' => e = .returned (.int .u64 (wideI n)) ∧ w = w' := by
  go_enter Try.func62, Try.ntmps62
  go_wp2
  go_ret
  exact ⟨ret_int (wideI_wrap n (by omega) (by omega)), rfl⟩

theorem wideR (n : Int) (w : World) (h0 : -9223372036854775808 ≤ n) (h1 : n < 9223372036854775808) :
    Calls Try.prog 69 #[.int .i64 n] w fun e w' => e = .returned (.int .u64 (wideI n)) ∧ w = w' := by
  go_enter Try.func69, Try.ntmps69
  go_wp2
  · go_ret
    exact ⟨ret_int (by unfold wideI; rw [if_pos ‹_›]), rfl⟩
  · go_ret
    exact ⟨ret_int (by unfold wideI; rw [if_neg (by omega)]; omega), rfl⟩

theorem zag (n : Int) (w : World) (h0 : 0 ≤ n) (h1 : n < 18446744073709551616) :
    Calls Try.prog 66 #[.int .u64 n] w fun e w' => e = .returned (.int .i64 (zagI n)) ∧ w = w' := by
  go_enter Try.func66, Try.ntmps66
  go_wp2
  go_ret
  exact ⟨ret_int (zag_bits n h0 h1), rfl⟩

theorem zagR (n : Int) (w : World) (h0 : 0 ≤ n) (h1 : n < 18446744073709551616) :
    Calls Try.prog 68 #[.int .u64 n] w fun e w' => e = .returned (.int .i64 (zagI n)) ∧ w = w' := by
  go_enter Try.func68, Try.ntmps68
  go_wp2
  · have h : (n % 2 == 1) = true := by assumption
    go_ret
    exact ⟨ret_int (by unfold zagI; rw [if_pos (by simpa using h)]), rfl⟩
  · have h : (n % 2 == 1) = false := by assumption
    go_ret
    exact ⟨ret_int (by unfold zagI; rw [if_neg (by simpa using h)]), rfl⟩

theorem zag32 (n : Int) (w : World) (h0 : 0 ≤ n) (h1 : n < 18446744073709551616) :
    Calls Try.prog 65 #[.int .u64 n] w fun e w' => e = .returned (.int .i32 (zagI (n % 4294967296))) ∧ w = w' := by
  go_enter Try.func65, Try.ntmps65
  go_wp2
  go_ret
  exact ⟨ret_int (zag_bits32 _ (by omega) (by omega)), rfl⟩

end Go.Proofs.Ytcipokmklkognaa
