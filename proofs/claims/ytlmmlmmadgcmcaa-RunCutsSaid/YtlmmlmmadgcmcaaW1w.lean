/- Contracts of layer 1: the word of bytes. -/
import Derived.Test.YtlmmlmmadgcmcaaW1m
namespace Go.Proofs.Ytlmmlmmadgcmcaa
open Go.RowKit
set_option linter.unusedVariables false

theorem word {A : Option Addr} {n c : Nat} {bs : List UInt8} {w : World} (ha : BytesAt w A n c bs) :
    Calls Try.prog 79 #[.slice A n c] w fun e w' => e = .returned (.int .u64 (wordN (bs.take 8))) ∧ w = w' := by
  have hl := ha.length
  have hmax := Reads.max ha
  have hcap := Reads.cap ha
  unfold maxLen at hmax
  obtain ⟨m, hm⟩ : ∃ m : Nat, m = min n 8 := ⟨_, rfl⟩
  have hmn : ∀ ts t (W : World), (Builtin.min_ ts t #[.int .i64 (n : Int), .int .i64 8]).run Try.prog W = .ok (.int .i64 (m : Int)) W := by
    intro ts t W; rw [run_min_i]; congr 2; omega
  have hle : m ≤ n := by omega
  have h8 : m ≤ 8 := by omega
  have ht : bs.take 8 = bs.take m := by
    rw [hm, ← hl]
    rcases Nat.le_total bs.length 8 with h | h
    · rw [Nat.min_eq_left h, List.take_of_length_le h, List.take_of_length_le (Nat.le_refl _)]
    · rw [Nat.min_eq_right h]
  obtain ⟨A', hcut, hr⟩ := cut_to elemB ha .i64 hle
  have hr' : BytesAt w A' m c (bs.take m) := by simpa [BytesAt, List.map_take] using hr
  rw [ht]
  clear hm ht
  go_enter Try.func79, Try.ntmps79
  go_wp2
  go_loop [3, 4, 5, 12] (fun v _ _ i => ∃ k : Nat, k ≤ m ∧ i = .int .i64 k ∧ v = .int .u64 (wordN (bs.take k) : Nat)) (fun _ _ _ i => m - (intOf i).toNat)
  case atStart => exact ⟨0, Nat.zero_le _, rfl, by simp [wordN]⟩
  case round =>
    obtain ⟨k, hk, rfl, rfl⟩ := hrel
    by_cases hlt : k < m
    · obtain ⟨b, off, x, rfl, hx, hcell⟩ := hr'.byte hlt
      have hx' : bs[k]? = some x := by rwa [List.getElem?_take_of_lt hlt] at hx
      have hsn := take_snoc bs k x hx'
      have hlk : (bs.take k).length = k := by rw [List.length_take]; omega
      have hor := word_or (bs.take k) k x hlk (by omega)
      rw [← hsn] at hor
      have H := Lib.hid hor
      clear hor hsn hx hx' hlk hcut hmn hr hr'
      go_wp2
      go_round
      case rel => exact ⟨k + 1, by omega, by go_num, by rw [H.out]⟩
      case measure => simp [intOf]; omega
    · have hkm : k = m := by omega
      subst hkm
      go_wp2
      go_ret
      exact ⟨rfl, rfl⟩

theorem wordR {A : Option Addr} {n c : Nat} {bs : List UInt8} {w : World} (ha : BytesAt w A n c bs) :
    Calls Try.prog 82 #[.slice A n c] w fun e w' => e = .returned (.int .u64 (wordN (bs.take 8))) ∧ w = w' := by
  have hl := ha.length
  have hmax := Reads.max ha
  have hcap := Reads.cap ha
  unfold maxLen at hmax
  go_enter Try.func82, Try.ntmps82
  go_wp2
  go_loop [3, 4, 5] (fun v p i => ∃ k : Nat, k ≤ n ∧ k ≤ 8 ∧ i = .int .i64 k ∧ v = .int .u64 (wordN (bs.take k) : Nat) ∧ p = .int .u64 ((256 ^ k % 18446744073709551616 : Nat) : Int)) (fun _ _ i => 8 - (intOf i).toNat)
  case atStart => exact ⟨0, Nat.zero_le _, Nat.zero_le _, rfl, by simp [wordN], rfl⟩
  case round =>
    obtain ⟨k, hk, hk8, rfl, rfl, rfl⟩ := hrel
    by_cases hlt : k < n
    · by_cases hl8 : k < 8
      · obtain ⟨b, off, x, rfl, hx, hcell⟩ := ha.byte hlt
        have hsn := take_snoc bs k x hx
        have hlk : (bs.take k).length = k := by rw [List.length_take]; omega
        have hw := wordN_snoc (bs.take k) x
        have hw1 := wordN_lt (bs.take k)
        rw [← hsn, hlk] at hw
        rw [hlk] at hw1
        have hx256 := u8_lt x
        have hk7 : 256 ^ k ≤ 256 ^ 7 := Nat.pow_le_pow_right (by decide) (by omega)
        have hmod : 256 ^ k % 18446744073709551616 = 256 ^ k := Nat.mod_eq_of_lt (Nat.lt_of_le_of_lt hk7 (by decide))
        have hmod1 : 256 ^ (k + 1) % 18446744073709551616 = (256 ^ k * 256) % 18446744073709551616 := by rw [Nat.pow_succ]
        have hpz : x.toNat * 256 ^ k < 18446744073709551616 :=
          Nat.lt_of_le_of_lt (Nat.mul_le_mul (show x.toNat ≤ 255 by omega) hk7) (by decide)
        have hsum : wordN (bs.take k) + x.toNat * 256 ^ k < 18446744073709551616 := by
          have : x.toNat * 256 ^ k ≤ 255 * 256 ^ k := Nat.mul_le_mul (by omega) (Nat.le_refl _)
          have : 256 * 256 ^ k ≤ 256 * 256 ^ 7 := Nat.mul_le_mul (Nat.le_refl _) hk7
          have : 256 * 256 ^ 7 = 18446744073709551616 := by decide
          omega
        rw [hmod]
        have e1 : IntKind.u64.wrap ((x.toNat : Int) * ((256 ^ k : Nat) : Int)) = ((x.toNat * 256 ^ k : Nat) : Int) := by
          rw [IntKind.wrap_u64, ← Int.natCast_mul, Int.emod_eq_of_lt (by omega) (by omega)]
        have e2 : IntKind.u64.wrap ((wordN (bs.take k) : Int) + ((x.toNat * 256 ^ k : Nat) : Int)) = ((wordN (bs.take (k + 1)) : Nat) : Int) := by
          rw [IntKind.wrap_u64, hw, ← Int.natCast_add, Int.emod_eq_of_lt (by omega) (by omega)]
        generalize hp : 256 ^ k = p at *
        generalize hW : wordN (bs.take k) = W at *
        generalize hW' : wordN (bs.take (k + 1)) = W' at *
        have H1 := Lib.hid e1
        have H2 := Lib.hid e2
        have H3 := Lib.hid hmod1
        have H4 := Lib.hid hp
        have H5 := Lib.hid hW'
        clear e1 e2 hmod1 hp hW' hW hw hmod hx hsn hlk hk7 hpz
        have hk8' : (k : Int) < 8 := by omega
        go_wp2
        go_round
        case rel => exact ⟨k + 1, by omega, by omega, by go_num, by rw [H5.out, ← H2.out, IntKind.wrap_u64]; congr 1; rw [Int.natCast_mul]; omega, by rw [H3.out, IntKind.wrap_u64]; congr 1⟩
        case measure => simp [intOf]; omega
      · have hk8' : ¬ (k : Int) < 8 := by omega
        have ht : bs.take 8 = bs.take k := by rw [show k = 8 by omega]
        have H := Lib.hid ht
        clear ht
        go_wp2
        go_ret
        exact ⟨ret_int (by rw [H.out]), rfl⟩
    · have ht : bs.take 8 = bs.take k := by
        rw [show k = n by omega, ← hl, List.take_of_length_le (show bs.length ≤ 8 by omega), List.take_of_length_le (Nat.le_refl _)]
      have H := Lib.hid ht
      clear ht
      go_wp2
      go_ret
      exact ⟨ret_int (by rw [H.out]), rfl⟩

theorem littleI (n m : Int) (w : World) (h0 : 0 ≤ n) (h1 : n < 18446744073709551616) (h2 : m < 9223372036854775808) (h3 : -9223372036854775808 ≤ m) :
    Calls Try.prog 75 #[.int .u64 n, .int .i64 m] w fun e w' => ∃ A' c', e = .returned (.slice A' (min m 8).toNat c') ∧ Own w w' 5 1 A' (min m 8).toNat c' (List.map bv (littleB (min m 8).toNat n.toNat)) := by
  obtain ⟨x, rfl⟩ := Int.eq_ofNat_of_zero_le h0
  exact little x m w (by omega) h2 h3

theorem littleRI (n m : Int) (w : World) (h0 : 0 ≤ n) (h1 : n < 18446744073709551616) (h2 : m < 9223372036854775808) (h3 : -9223372036854775808 ≤ m) :
    Calls Try.prog 77 #[.int .u64 n, .int .i64 m] w fun e w' => ∃ A' c', e = .returned (.slice A' (min m 8).toNat c') ∧ Own w w' 5 1 A' (min m 8).toNat c' (List.map bv (littleB (min m 8).toNat n.toNat)) := by
  obtain ⟨x, rfl⟩ := Int.eq_ofNat_of_zero_le h0
  exact littleR x m w (by omega) h2 h3

end Go.Proofs.Ytlmmlmmadgcmcaa
