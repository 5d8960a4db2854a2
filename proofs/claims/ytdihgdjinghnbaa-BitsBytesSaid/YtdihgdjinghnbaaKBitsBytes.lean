/- The walk of the law BitsBytes, out of its callees' contracts. -/
import Derived.Test.YtdihgdjinghnbaaKBitsTurns
namespace Go.Proofs.Ytdihgdjinghnbaa
open Go.RowKit
set_option linter.unusedVariables false

theorem bitsBytes_walk {x : Nat} {i : Int} {A : Option Addr} {n c : Nat} {bs : List UInt8} {w : World} (hx : x < 18446744073709551616) (hi : -9223372036854775808 ≤ i ∧ i < 9223372036854775808) (hb : BytesAt w A n c bs) :
    Calls Try.prog 5 #[.int .u64 x, .int .i64 i, .slice A n c] w fun e w' => e = .returned (.bool true) ∧ Ext w w' := by
  have hmax := Reads.max hb
  have hcap := Reads.cap hb
  unfold maxLen at hmax
  by_cases hn : (1000 : Int) < n
  · go_enter Try.func5, Try.ntmps5
    go_wp2_with (go_at_call 11; refine (alive01 _).mono ?_; rintro e w' ⟨rfl, rfl⟩)
    go_ret
    exact ⟨rfl, Ext.refl _⟩
  · go_enter Try.func5, Try.ntmps5
    go_wp2_with (first | (go_at_call 11; refine (alive01 _).mono ?_; rintro e w' ⟨rfl, rfl⟩) | (go_at_call 25; refine (lenI _ _ (by omega) (by omega)).mono ?_; rintro e w' ⟨rfl, rfl⟩) | (go_at_call 26; refine (lenRI _ _ (by omega) (by omega)).mono ?_; rintro e w' ⟨rfl, rfl⟩) | (go_at_call 28; refine (littleI _ _ _ (by omega) (by omega) (by omega) (by omega)).mono ?_; rintro e w1 ⟨A1, c1, rfl, own1⟩) | (go_at_call 29; refine (littleRI _ _ _ (by omega) (by omega) (by omega) (by omega)).mono ?_; rintro e w2 ⟨A2, c2, rfl, own2⟩) | (go_at_call 27; refine (same (own1.later own2.ext).reads own2.reads).mono ?_; rintro e w3 ⟨rfl, rfl⟩) | (go_at_call 30; refine (word (hb.ext (own1.ext.trans own2.ext))).mono ?_; rintro e w' ⟨rfl, rfl⟩) | (go_at_call 31; refine (wordR (hb.ext (own1.ext.trans own2.ext))).mono ?_; rintro e w' ⟨rfl, rfl⟩) | (go_at_call 32; refine (bitI _ _ _ (by omega) (by omega) (by omega) (by omega)).mono ?_; rintro e w' ⟨rfl, rfl⟩) | (go_at_call 33; refine (bitRI _ _ _ (by omega) (by omega) (by omega) (by omega)).mono ?_; rintro e w' ⟨rfl, rfl⟩))
    go_ret
    exact ⟨rfl, own1.ext.trans own2.ext⟩

end Go.Proofs.Ytdihgdjinghnbaa
