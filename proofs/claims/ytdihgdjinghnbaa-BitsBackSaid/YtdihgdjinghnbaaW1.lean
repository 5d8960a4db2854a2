/- Contracts of the functions of layer 1 that only reckon: package bits and its reference. -/
import Derived.Test.YtdihgdjinghnbaaChecked
import Derived.Test.YtdihgdjinghnbaaS1
import Derived.WalkKit
import Derived.WalkSpells
import Derived.WalkLawsBesides
namespace Go.Proofs.Ytdihgdjinghnbaa
open Go.RowKit
set_option linter.unusedVariables false

theorem low32 (n : Int) (w : World) (h0 : 0 ≤ n) (h1 : n < 18446744073709551616) :
    Calls Try.prog 12 #[.int .u64 n] w fun e w' => e = .returned (.int .u32 (n % 4294967296)) ∧ w = w' := by
  go_enter Try.func12, Try.ntmps12
  go_wp2
  go_ret
  exact ⟨rfl, rfl⟩

theorem sign32 (n : Int) (w : World) (h0 : 0 ≤ n) (h1 : n < 18446744073709551616) :
    Calls Try.prog 13 #[.int .u64 n] w fun e w' => e = .returned (.int .i32 (sign32I n)) ∧ w = w' := by
  go_enter Try.func13, Try.ntmps13
  go_wp2
  go_ret
  exact ⟨ret_int (sign32I_wrap n), rfl⟩

theorem sign32R (n : Int) (w : World) (h0 : 0 ≤ n) (h1 : n < 18446744073709551616) :
    Calls Try.prog 14 #[.int .u64 n] w fun e w' => e = .returned (.int .i64 (sign32I n)) ∧ w = w' := by
  go_enter Try.func14, Try.ntmps14
  go_wp2
  · go_ret
    exact ⟨ret_int (by unfold sign32I; rw [if_pos ‹_›]), rfl⟩
  · go_ret
    exact ⟨ret_int (by unfold sign32I; rw [if_neg (by omega)]), rfl⟩

theorem wide32 (n : Int) (w : World) (h0 : -2147483648 ≤ n) (h1 : n < 2147483648) :
    Calls Try.prog 15 #[.int .i32 n] w fun e w' => e = .returned (.int .u64 (wideI n)) ∧ w = w' := by
  go_enter Try.func15, Try.ntmps15
  go_wp2
  go_ret
  exact ⟨ret_int (wideI_wrap n (by omega) (by omega)), rfl⟩

theorem wideR (n : Int) (w : World) (h0 : -9223372036854775808 ≤ n) (h1 : n < 9223372036854775808) :
    Calls Try.prog 16 #[.int .i64 n] w fun e w' => e = .returned (.int .u64 (wideI n)) ∧ w = w' := by
  go_enter Try.func16, Try.ntmps16
  go_wp2
  · go_ret
    exact ⟨ret_int (by unfold wideI; rw [if_pos ‹_›]), rfl⟩
  · go_ret
    exact ⟨ret_int (by unfold wideI; rw [if_neg (by omega)]; omega), rfl⟩

theorem zig (n : Int) (w : World) (h0 : -9223372036854775808 ≤ n) (h1 : n < 9223372036854775808) :
    Calls Try.prog 17 #[.int .i64 n] w fun e w' => e = .returned (.int .u64 (zigI n)) ∧ w = w' := by
  go_enter Try.func17, Try.ntmps17
  go_wp2
  go_ret
  exact ⟨ret_int (zig_bits n h0 h1), rfl⟩

theorem zigR (n : Int) (w : World) (h0 : -9223372036854775808 ≤ n) (h1 : n < 9223372036854775808) :
    Calls Try.prog 18 #[.int .i64 n] w fun e w' => e = .returned (.int .u64 (zigI n)) ∧ w = w' := by
  go_enter Try.func18, Try.ntmps18
  go_wp2
  · go_ret
    exact ⟨ret_int (by unfold zigI; rw [if_pos ‹_›]), rfl⟩
  · go_ret
    exact ⟨ret_int (by unfold zigI; rw [if_neg (by omega)]; omega), rfl⟩

theorem zag (n : Int) (w : World) (h0 : 0 ≤ n) (h1 : n < 18446744073709551616) :
    Calls Try.prog 19 #[.int .u64 n] w fun e w' => e = .returned (.int .i64 (zagI n)) ∧ w = w' := by
  go_enter Try.func19, Try.ntmps19
  go_wp2
  go_ret
  exact ⟨ret_int (zag_bits n h0 h1), rfl⟩

theorem zagR (n : Int) (w : World) (h0 : 0 ≤ n) (h1 : n < 18446744073709551616) :
    Calls Try.prog 20 #[.int .u64 n] w fun e w' => e = .returned (.int .i64 (zagI n)) ∧ w = w' := by
  go_enter Try.func20, Try.ntmps20
  go_wp2
  · have h : (n % 2 == 1) = true := by assumption
    go_ret
    exact ⟨ret_int (by unfold zagI; rw [if_pos (by simpa using h)]), rfl⟩
  · have h : (n % 2 == 1) = false := by assumption
    go_ret
    exact ⟨ret_int (by unfold zagI; rw [if_neg (by simpa using h)]), rfl⟩

theorem zag32 (n : Int) (w : World) (h0 : 0 ≤ n) (h1 : n < 18446744073709551616) :
    Calls Try.prog 21 #[.int .u64 n] w fun e w' => e = .returned (.int .i32 (zagI (n % 4294967296))) ∧ w = w' := by
  go_enter Try.func21, Try.ntmps21
  go_wp2
  go_ret
  exact ⟨ret_int (zag_bits32 _ (by omega) (by omega)), rfl⟩

end Go.Proofs.Ytdihgdjinghnbaa
