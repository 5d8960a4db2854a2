/- The walk of the law BitsBack, out of its callees' contracts. -/
import Derived.Test.YtdihgdjinghnbaaKBitsTurns
namespace Go.Proofs.Ytdihgdjinghnbaa
open Go.RowKit
set_option linter.unusedVariables false

theorem bitB_63 (x : Nat) (h : x < 18446744073709551616) : bitB x 63 = decide (wrap64 (x : Int) < 0) := by
  unfold bitB wrap64
  rw [Bool.eq_iff_iff]
  simp only [decide_eq_true_eq]
  show 0 ≤ (63 : Int) ∧ (63 : Int) < 64 ∧ x / 2 ^ 63 % 2 = 1 ↔ _
  omega

theorem word_8 (x : Nat) (h : x < 18446744073709551616) : wordN ((littleB 8 x).take 8) = x := by
  rw [List.take_of_length_le (by rw [littleB_length]; exact Nat.le_refl _), wordN_little]
  exact Nat.mod_eq_of_lt h

theorem word_4 (x : Nat) : wordN ((littleB 4 x).take 8) = x % 4294967296 := by
  rw [List.take_of_length_le (by rw [littleB_length]; omega), wordN_little]

theorem zig_32 (m : Int) (h : -2147483648 ≤ m ∧ m < 2147483648) : zagI (zigI m % 4294967296) = m := by
  have : 0 ≤ zigI m ∧ zigI m < 4294967296 := by unfold zigI; split <;> omega
  rw [Int.emod_eq_of_lt this.1 this.2, zag_zig]

theorem bitsBack_walk {x : Nat} {n m : Int} {w : World} (hx : x < 18446744073709551616) (hn : -9223372036854775808 ≤ n ∧ n < 9223372036854775808) (hm : -2147483648 ≤ m ∧ m < 2147483648) :
    Calls Try.prog 8 #[.int .u64 x, .int .i64 n, .int .i32 m] w fun e w' => e = .returned (.bool true) ∧ Ext w w' := by
  have hzn := zigI_bd n hn.1 hn.2
  have hzm := zigI_bd m (by omega) (by omega)
  have hzx := zagI_bd x (by omega) (by omega)
  have hwm := wideI_bd m (by omega) (by omega)
  have hE := Ext.refl w
  have e1 := zag_zig n
  have e2 := zig_zag x (by omega)
  have e3 := sign_wide m hm.1 hm.2
  have e4 := word_8 x hx
  have e5 := word_4 x
  have e6 := zig_32 m hm
  have e7 := bitB_63 x hx
  go_enter Try.func8, Try.ntmps8
  go_wp2_with (first | (go_at_call 11; refine (alive01 _).mono ?_; rintro e w' ⟨rfl, rfl⟩) | (go_at_call 12; refine (low32 _ _ (by omega) (by omega)).mono ?_; rintro e w' ⟨rfl, rfl⟩) | (go_at_call 13; refine (sign32 _ _ (by omega) (by omega)).mono ?_; rintro e w' ⟨rfl, rfl⟩) | (go_at_call 15; refine (wide32 _ _ (by omega) (by omega)).mono ?_; rintro e w' ⟨rfl, rfl⟩) | (go_at_call 17; refine (zig _ _ (by omega) (by omega)).mono ?_; rintro e w' ⟨rfl, rfl⟩) | (go_at_call 19; refine (zag _ _ (by omega) (by omega)).mono ?_; rintro e w' ⟨rfl, rfl⟩) | (go_at_call 21; refine (zag32 _ _ (by omega) (by omega)).mono ?_; rintro e w' ⟨rfl, rfl⟩) | (go_at_call 32; refine (bitI _ _ _ (by omega) (by omega) (by omega) (by omega)).mono ?_; rintro e w' ⟨rfl, rfl⟩) | (go_at_call 28; refine (littleI _ _ _ (by omega) (by omega) (by omega) (by omega)).mono ?_; rintro e w1 ⟨A1, c1, rfl, own1⟩; (first | rw [show (min (8 : Int) 8).toNat = 8 from rfl] at own1 | rw [show (min (4 : Int) 8).toNat = 4 from rfl] at own1); replace hE := hE.trans own1.ext) | (go_at_call 30; refine (word own1.reads).mono ?_; rintro e w' ⟨rfl, rfl⟩; clear own1))
  go_ret
  exact ⟨rfl, hE⟩

end Go.Proofs.Ytdihgdjinghnbaa
