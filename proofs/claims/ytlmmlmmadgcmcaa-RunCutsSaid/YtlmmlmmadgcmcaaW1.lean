/- Contracts of the functions of layer 1 that only reckon: package bits and its reference. -/
import Derived.Test.YtlmmlmmadgcmcaaChecked
import Derived.Test.YtlmmlmmadgcmcaaS1
import Derived.WalkKit
import Derived.WalkSpells
import Derived.WalkLawsBesides
namespace Go.Proofs.Ytlmmlmmadgcmcaa
open Go.RowKit
set_option linter.unusedVariables false

theorem low32 (n : Int) (w : World) (h0 : 0 ≤ n) (h1 : n < 18446744073709551616) :
    Calls Try.prog 104 #[.int .u64 n] w fun e w' => e = .returned (.int .u32 (n % 4294967296)) ∧ w = w' := by
  go_enter Try.func104, Try.ntmps104
  go_wp2
  go_ret
  exact ⟨rfl, rfl⟩

theorem sign32 (n : Int) (w : World) (h0 : 0 ≤ n) (h1 : n < 18446744073709551616) :
    Calls Try.prog 103 #[.int .u64 n] w fun e w' => e = .returned (.int .i32 (sign32I n)) ∧ w = w' := by
  go_enter Try.func103, Try.ntmps103
  go_wp2
  go_ret
  exact ⟨ret_int (sign32I_wrap n), rfl⟩

theorem sign32R (n : Int) (w : World) (h0 : 0 ≤ n) (h1 : n < 18446744073709551616) :
    Calls Try.prog 86 #[.int .u64 n] w fun e w' => e = .returned (.int .i64 (sign32I n)) ∧ w = w' := by
  go_enter Try.func86, Try.ntmps86
  go_wp2
  · go_ret
    exact ⟨ret_int (by unfold sign32I; rw [if_pos ‹_›]), rfl⟩
  · go_ret
    exact ⟨ret_int (by unfold sign32I; rw [if_neg (by omega)]), rfl⟩

theorem wide32 (n : Int) (w : World) (h0 : -2147483648 ≤ n) (h1 : n < 2147483648) :
    Calls Try.prog 102 #[.int .i32 n] w fun e w' => e = .returned (.int .u64 (wideI n)) ∧ w = w' := by
  go_enter Try.func102, Try.ntmps102
  go_wp2
  go_ret
  exact ⟨ret_int (wideI_wrap n (by omega) (by omega)), rfl⟩

theorem wideR (n : Int) (w : World) (h0 : -9223372036854775808 ≤ n) (h1 : n < 9223372036854775808) :
    Calls Try.prog 85 #[.int .i64 n] w fun e w' => e = .returned (.int .u64 (wideI n)) ∧ w = w' := by
  go_enter Try.func85, Try.ntmps85
  go_wp2
  · go_ret
    exact ⟨ret_int (by unfold wideI; rw [if_pos ‹_›]), rfl⟩
  · go_ret
    exact ⟨ret_int (by unfold wideI; rw [if_neg (by omega)]; omega), rfl⟩

end Go.Proofs.Ytlmmlmmadgcmcaa
