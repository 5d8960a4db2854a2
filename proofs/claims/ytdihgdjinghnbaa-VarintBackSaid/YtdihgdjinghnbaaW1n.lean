/- Contracts of layer 1: a word of bytes, a bit of a word, a word's length. -/
import Derived.Test.YtdihgdjinghnbaaChecked
import Derived.Test.YtdihgdjinghnbaaShelf
import Derived.Test.YtdihgdjinghnbaaW1m
import Derived.Lib.Varint
import Derived.Lib.BitFns
import Derived.Lib.ItoaNum
namespace Go.Proofs.Ytdihgdjinghnbaa
open Go.RowKit
set_option linter.unusedVariables false

theorem word {A : Option Addr} {n c : Nat} {bs : List UInt8} {w : World} (ha : BytesAt w A n c bs) :
    Calls Try.prog 30 #[.slice A n c] w fun e w' => e = .returned (.int .u64 (wordN (bs.take 8))) ∧ w = w' := by
  have hl := ha.length
  have hmax := Reads.max ha
  have hcap := Reads.cap ha
  unfold maxLen at hmax
  obtain ⟨m, hm⟩ : ∃ m : Nat, m = min n 8 := ⟨_, rfl⟩
  have hmn : ∀ ts t (W : World), (Builtin.min_ ts t #[.int .i64 (n : Int), .int .i64 8]).run Try.prog W = .ok (.int .i64 (m : Int)) W := by
    intro ts t W; rw [run_min_i]; congr 2; omega
  have hle : m ≤ n := by omega
  have h8 : m ≤ 8 := by omega
  have ht : bs.take 8 = bs.take m := by
    rw [hm, ← hl]
    rcases Nat.le_total bs.length 8 with h | h
    · rw [Nat.min_eq_left h, List.take_of_length_le h, List.take_of_length_le (Nat.le_refl _)]
    · rw [Nat.min_eq_right h]
  obtain ⟨A', hcut, hr⟩ := cut_to elemB ha .i64 hle
  have hr' : BytesAt w A' m c (bs.take m) := by simpa [BytesAt, List.map_take] using hr
  rw [ht]
  clear hm ht
  go_enter Try.func30, Try.ntmps30
  go_wp2
  go_loop [3, 4, 5, 12] (fun v _ _ i => ∃ k : Nat, k ≤ m ∧ i = .int .i64 k ∧ v = .int .u64 (wordN (bs.take k) : Nat)) (fun _ _ _ i => m - (intOf i).toNat)
  case atStart => exact ⟨0, Nat.zero_le _, rfl, by simp [wordN]⟩
  case round =>
    obtain ⟨k, hk, rfl, rfl⟩ := hrel
    by_cases hlt : k < m
    · obtain ⟨b, off, x, rfl, hx, hcell⟩ := hr'.byte hlt
      have hx' : bs[k]? = some x := by rwa [List.getElem?_take_of_lt hlt] at hx
      have hsn := take_snoc bs k x hx'
      have hlk : (bs.take k).length = k := by rw [List.length_take]; omega
      have hor := word_or (bs.take k) k x hlk (by omega)
      rw [← hsn] at hor
      have H := Lib.hid hor
      clear hor hsn hx hx' hlk hcut hmn hr hr'
      go_wp2
      go_round
      case rel => exact ⟨k + 1, by omega, by go_num, by rw [H.out]⟩
      case measure => simp [intOf]; omega
    · have hkm : k = m := by omega
      subst hkm
      go_wp2
      go_ret
      exact ⟨rfl, rfl⟩

theorem wordR {A : Option Addr} {n c : Nat} {bs : List UInt8} {w : World} (ha : BytesAt w A n c bs) :
    Calls Try.prog 31 #[.slice A n c] w fun e w' => e = .returned (.int .u64 (wordN (bs.take 8))) ∧ w = w' := by
  have hl := ha.length
  have hmax := Reads.max ha
  have hcap := Reads.cap ha
  unfold maxLen at hmax
  go_enter Try.func31, Try.ntmps31
  go_wp2
  go_loop [3, 4, 5] (fun v p i => ∃ k : Nat, k ≤ n ∧ k ≤ 8 ∧ i = .int .i64 k ∧ v = .int .u64 (wordN (bs.take k) : Nat) ∧ p = .int .u64 ((256 ^ k % 18446744073709551616 : Nat) : Int)) (fun _ _ i => 8 - (intOf i).toNat)
  case atStart => exact ⟨0, Nat.zero_le _, Nat.zero_le _, rfl, by simp [wordN], rfl⟩
  case round =>
    obtain ⟨k, hk, hk8, rfl, rfl, rfl⟩ := hrel
    by_cases hlt : k < n
    · by_cases hl8 : k < 8
      · obtain ⟨b, off, x, rfl, hx, hcell⟩ := ha.byte hlt
        have hsn := take_snoc bs k x hx
        have hlk : (bs.take k).length = k := by rw [List.length_take]; omega
        have hw := wordN_snoc (bs.take k) x
        have hw1 := wordN_lt (bs.take k)
        rw [← hsn, hlk] at hw
        rw [hlk] at hw1
        have hx256 := u8_lt x
        have hk7 : 256 ^ k ≤ 256 ^ 7 := Nat.pow_le_pow_right (by decide) (by omega)
        have hmod : 256 ^ k % 18446744073709551616 = 256 ^ k := Nat.mod_eq_of_lt (Nat.lt_of_le_of_lt hk7 (by decide))
        have hmod1 : 256 ^ (k + 1) % 18446744073709551616 = (256 ^ k * 256) % 18446744073709551616 := by rw [Nat.pow_succ]
        have hpz : x.toNat * 256 ^ k < 18446744073709551616 :=
          Nat.lt_of_le_of_lt (Nat.mul_le_mul (show x.toNat ≤ 255 by omega) hk7) (by decide)
        have hsum : wordN (bs.take k) + x.toNat * 256 ^ k < 18446744073709551616 := by
          have : x.toNat * 256 ^ k ≤ 255 * 256 ^ k := Nat.mul_le_mul (by omega) (Nat.le_refl _)
          have : 256 * 256 ^ k ≤ 256 * 256 ^ 7 := Nat.mul_le_mul (Nat.le_refl _) hk7
          have : 256 * 256 ^ 7 = 18446744073709551616 := by decide
          omega
        rw [hmod]
        have e1 : IntKind.u64.wrap ((x.toNat : Int) * ((256 ^ k : Nat) : Int)) = ((x.toNat * 256 ^ k : Nat) : Int) := by
          rw [IntKind.wrap_u64, ← Int.natCast_mul, Int.emod_eq_of_lt (by omega) (by omega)]
        have e2 : IntKind.u64.wrap ((wordN (bs.take k) : Int) + ((x.toNat * 256 ^ k : Nat) : Int)) = ((wordN (bs.take (k + 1)) : Nat) : Int) := by
          rw [IntKind.wrap_u64, hw, ← Int.natCast_add, Int.emod_eq_of_lt (by omega) (by omega)]
        generalize hp : 256 ^ k = p at *
        generalize hW : wordN (bs.take k) = W at *
        generalize hW' : wordN (bs.take (k + 1)) = W' at *
        have H1 := Lib.hid e1
        have H2 := Lib.hid e2
        have H3 := Lib.hid hmod1
        have H4 := Lib.hid hp
        have H5 := Lib.hid hW'
        clear e1 e2 hmod1 hp hW' hW hw hmod hx hsn hlk hk7 hpz
        have hk8' : (k : Int) < 8 := by omega
        go_wp2
        go_round
        case rel => exact ⟨k + 1, by omega, by omega, by go_num, by rw [H5.out, ← H2.out, IntKind.wrap_u64]; congr 1; rw [Int.natCast_mul]; omega, by rw [H3.out, IntKind.wrap_u64]; congr 1⟩
        case measure => simp [intOf]; omega
      · have hk8' : ¬ (k : Int) < 8 := by omega
        have ht : bs.take 8 = bs.take k := by rw [show k = 8 by omega]
        have H := Lib.hid ht
        clear ht
        go_wp2
        go_ret
        exact ⟨ret_int (by rw [H.out]), rfl⟩
    · have ht : bs.take 8 = bs.take k := by
        rw [show k = n by omega, ← hl, List.take_of_length_le (show bs.length ≤ 8 by omega), List.take_of_length_le (Nat.le_refl _)]
      have H := Lib.hid ht
      clear ht
      go_wp2
      go_ret
      exact ⟨ret_int (by rw [H.out]), rfl⟩

theorem bit {x : Nat} {i : Int} {w : World} (h1 : x < 18446744073709551616) (hi0 : -9223372036854775808 ≤ i) (hi1 : i < 9223372036854775808) :
    Calls Try.prog 32 #[.int .u64 x, .int .i64 i] w fun e w' => e = .returned (.bool (bitB x i)) ∧ w = w' := by
  by_cases h0 : 0 ≤ i
  · by_cases h64 : i < 64
    · obtain ⟨j, rfl⟩ := Int.eq_ofNat_of_zero_le h0
      go_enter Try.func32, Try.ntmps32
      go_wp2
      go_ret
      refine ⟨ret_bool ?_, rfl⟩
      have e : ((x : Int) / 2 ^ j) = ((x / 2 ^ j : Nat) : Int) := by simp
      have hle : x / 2 ^ j ≤ x := Nat.div_le_self _ _
      generalize hy : x / 2 ^ j = y at *
      rw [e, and1 _ (by omega) (by omega)]
      unfold bitB
      rw [Bool.eq_iff_iff, Int.toNat_natCast, hy]
      simp only [beq_iff_eq, decide_eq_true_eq]
      omega
    · go_enter Try.func32, Try.ntmps32
      go_wp2
      go_ret
      exact ⟨ret_bool (by unfold bitB; exact (decide_eq_false (by omega)).symm), rfl⟩
  · go_enter Try.func32, Try.ntmps32
    go_wp2
    go_ret
    exact ⟨ret_bool (by unfold bitB; exact (decide_eq_false (by omega)).symm), rfl⟩

theorem bitR {x : Nat} {i : Int} {w : World} (h1 : x < 18446744073709551616) (hi0 : -9223372036854775808 ≤ i) (hi1 : i < 9223372036854775808) :
    Calls Try.prog 33 #[.int .u64 x, .int .i64 i] w fun e w' => e = .returned (.bool (bitB x i)) ∧ w = w' := by
  by_cases h0 : i < 0
  · go_enter Try.func33, Try.ntmps33
    go_wp2
    go_ret
    exact ⟨ret_bool (by unfold bitB; exact (decide_eq_false (by omega)).symm), rfl⟩
  · by_cases h64 : 63 < i
    · go_enter Try.func33, Try.ntmps33
      go_wp2
      go_ret
      exact ⟨ret_bool (by unfold bitB; exact (decide_eq_false (by omega)).symm), rfl⟩
    · obtain ⟨j, rfl⟩ := Int.eq_ofNat_of_zero_le (show 0 ≤ i by omega)
      have hj : (j : Int) ≤ 63 := by omega
      clear hi0 hi1
      go_enter Try.func33, Try.ntmps33
      go_wp2
      go_loop [0, 1] (fun y i => ∃ (z k : Nat), k ≤ j ∧ z < 18446744073709551616 ∧ y = .int .u64 z ∧ i = .int .i64 k ∧ z = x / 2 ^ (j - k)) (fun _ i => (intOf i).toNat)
      case atStart => exact ⟨x, j, Nat.le_refl _, h1, rfl, rfl, by simp⟩
      case round =>
        obtain ⟨z, k, hk, hz, rfl, rfl, hzx⟩ := hrel
        have H := Lib.hid hzx
        clear hzx
        by_cases hlt : (0 : Int) < k
        · go_wp2
          go_round
          case rel =>
            refine ⟨z / 2, k - 1, by omega, by omega, by go_num, by congr 1; omega, ?_⟩
            rw [show j - (k - 1) = j - k + 1 by omega, Nat.pow_succ, ← Nat.div_div_eq_div_mul, ← H.out]
          case measure => simp [intOf]; omega
        · have hk0 : k = 0 := by omega
          subst hk0
          go_wp2
          go_ret
          have h := H.out
          rw [Nat.sub_zero] at h
          refine ⟨ret_bool ?_, rfl⟩
          unfold bitB
          rw [Bool.eq_iff_iff, Int.toNat_natCast, ← h]
          simp only [beq_iff_eq, decide_eq_true_eq]
          omega

theorem len {x : Nat} {w : World} (h1 : x < 18446744073709551616) :
    Calls Try.prog 25 #[.int .u64 x] w fun e w' => e = .returned (.int .i64 (lenN x)) ∧ w = w' := by
  have hb := Lib.bitLen_le x 64 (by omega) (by omega)
  have hl := lenN_bits x h1
  have hmx : ∀ ts t (W : World), (Builtin.max_ ts t #[.int .i64 1, .int .i64 (((Lib.bitLen x : Nat) + 6 : Int) / 7)]).run Try.prog W = .ok (.int .i64 (lenN x)) W := by
    intro ts t W; rw [run_max_i]; congr 2; omega
  clear hl
  go_enter Try.func25, Try.ntmps25
  go_wp2_with (go_at_call 46; refine (Try.bits_Len64 _ _ (by omega) (by omega)).mono ?_; rintro e w' ⟨rfl, rfl⟩; rw [Int.toNat_natCast])
  go_ret
  exact ⟨rfl, rfl⟩

theorem lenR {x : Nat} {w : World} (h1 : x < 18446744073709551616) :
    Calls Try.prog 26 #[.int .u64 x] w fun e w' => e = .returned (.int .i64 (lenN x)) ∧ w = w' := by
  have hle := lenN_le x h1
  go_enter Try.func26, Try.ntmps26
  go_wp2
  go_loop [0, 3] (fun y n => ∃ (z k : Nat), z < 18446744073709551616 ∧ y = .int .u64 z ∧ n = .int .i64 k ∧ k + lenN z = lenN x + 1 ∧ 1 ≤ k) (fun y _ => (intOf y).toNat)
  case atStart => exact ⟨x, 1, h1, rfl, rfl, by omega, Nat.le_refl _⟩
  case round =>
    obtain ⟨z, k, hz, rfl, rfl, hk, hk1⟩ := hrel
    have hp := lenN_pos z
    by_cases hlt : (128 : Int) ≤ z
    · have hb := lenN_big (show 128 ≤ z by omega)
      rw [hb] at hk hp
      have hk10 : k ≤ 10 := by omega
      have H := Lib.hid hk
      clear hb hk hp hle
      go_wp2
      go_round
      case rel => exact ⟨z / 128, k + 1, by omega, by go_num, by go_num, by have := H.out; omega, by omega⟩
      case measure => simp [intOf]; omega
    · have hs := lenN_small (show z < 128 by omega)
      rw [hs] at hk
      have : k = lenN x := by omega
      subst this
      clear hk hs hp
      go_wp2
      go_ret
      exact ⟨rfl, rfl⟩

theorem lenI (n : Int) (w : World) (h0 : 0 ≤ n) (h1 : n < 18446744073709551616) :
    Calls Try.prog 25 #[.int .u64 n] w fun e w' => e = .returned (.int .i64 (lenN n.toNat)) ∧ w = w' := by
  obtain ⟨x, rfl⟩ := Int.eq_ofNat_of_zero_le h0
  exact len (by omega)

theorem lenRI (n : Int) (w : World) (h0 : 0 ≤ n) (h1 : n < 18446744073709551616) :
    Calls Try.prog 26 #[.int .u64 n] w fun e w' => e = .returned (.int .i64 (lenN n.toNat)) ∧ w = w' := by
  obtain ⟨x, rfl⟩ := Int.eq_ofNat_of_zero_le h0
  exact lenR (by omega)

theorem bitI (n i : Int) (w : World) (h0 : 0 ≤ n) (h1 : n < 18446744073709551616) (hi0 : -9223372036854775808 ≤ i) (hi1 : i < 9223372036854775808) :
    Calls Try.prog 32 #[.int .u64 n, .int .i64 i] w fun e w' => e = .returned (.bool (bitB n.toNat i)) ∧ w = w' := by
  obtain ⟨x, rfl⟩ := Int.eq_ofNat_of_zero_le h0
  exact bit (by omega) hi0 hi1

theorem bitRI (n i : Int) (w : World) (h0 : 0 ≤ n) (h1 : n < 18446744073709551616) (hi0 : -9223372036854775808 ≤ i) (hi1 : i < 9223372036854775808) :
    Calls Try.prog 33 #[.int .u64 n, .int .i64 i] w fun e w' => e = .returned (.bool (bitB n.toNat i)) ∧ w = w' := by
  obtain ⟨x, rfl⟩ := Int.eq_ofNat_of_zero_le h0
  exact bitR (by omega) hi0 hi1

theorem littleI (n m : Int) (w : World) (h0 : 0 ≤ n) (h1 : n < 18446744073709551616) (h2 : m < 9223372036854775808) (h3 : -9223372036854775808 ≤ m) :
    Calls Try.prog 28 #[.int .u64 n, .int .i64 m] w fun e w' => ∃ A' c', e = .returned (.slice A' (min m 8).toNat c') ∧ Own w w' 5 1 A' (min m 8).toNat c' (List.map bv (littleB (min m 8).toNat n.toNat)) := by
  obtain ⟨x, rfl⟩ := Int.eq_ofNat_of_zero_le h0
  exact little x m w (by omega) h2 h3

theorem littleRI (n m : Int) (w : World) (h0 : 0 ≤ n) (h1 : n < 18446744073709551616) (h2 : m < 9223372036854775808) (h3 : -9223372036854775808 ≤ m) :
    Calls Try.prog 29 #[.int .u64 n, .int .i64 m] w fun e w' => ∃ A' c', e = .returned (.slice A' (min m 8).toNat c') ∧ Own w w' 5 1 A' (min m 8).toNat c' (List.map bv (littleB (min m 8).toNat n.toNat)) := by
  obtain ⟨x, rfl⟩ := Int.eq_ofNat_of_zero_le h0
  exact littleR x m w (by omega) h2 h3

end Go.Proofs.Ytdihgdjinghnbaa
