/- Plain laws of layer 1: words of 64 bits as whole numbers. No program is named. -/
import Derived.WalkKit
import Derived.Lib.Zigzag
import Derived.Laws.BitsAllLaws
import Derived.Lib.BitFns
import Derived.Lib.ItoaNum
namespace Go.Proofs.Ytlmmlmmadgcmcaa
open Go.RowKit Go.Lib

theorem ret_int {k : IntKind} {a b : Int} (h : a = b) : Ending.returned (.int k a) = .returned (.int k b) := by rw [h]

theorem ret_bool {a b : Bool} (h : a = b) : Ending.returned (.bool a) = .returned (.bool b) := by rw [h]

/-- The lowest 32 bits, signed. -/
def sign32I (n : Int) : Int := if 2147483648 ≤ n % 4294967296 then n % 4294967296 - 4294967296 else n % 4294967296

/-- A signed number modulo 2^64. -/
def wideI (n : Int) : Int := if 0 ≤ n then n else n + 18446744073709551616

def zigI (n : Int) : Int := if 0 ≤ n then 2 * n else -2 * n - 1

def zagI (n : Int) : Int := if n % 2 = 1 then -(n / 2) - 1 else n / 2

theorem sign32I_wrap (n : Int) : wrap32 (n % 4294967296) = sign32I n := by
  unfold sign32I wrap32; split <;> omega

theorem sign32I_bd (n : Int) : -2147483648 ≤ sign32I n ∧ sign32I n < 2147483648 := by
  unfold sign32I; split <;> omega

theorem wideI_wrap (n : Int) (h0 : -9223372036854775808 ≤ n) (h1 : n < 9223372036854775808) : IntKind.u64.wrap n = wideI n := by
  rw [IntKind.wrap_u64]; unfold wideI; split <;> omega

theorem wideI_bd (n : Int) (h0 : -9223372036854775808 ≤ n) (h1 : n < 9223372036854775808) : 0 ≤ wideI n ∧ wideI n < 18446744073709551616 := by
  unfold wideI; split <;> omega

theorem zigI_bd (n : Int) (h0 : -9223372036854775808 ≤ n) (h1 : n < 9223372036854775808) : 0 ≤ zigI n ∧ zigI n < 18446744073709551616 := by
  unfold zigI; split <;> omega

theorem zagI_bd (n : Int) (h0 : 0 ≤ n) (h1 : n < 18446744073709551616) : -9223372036854775808 ≤ zagI n ∧ zagI n < 9223372036854775808 := by
  unfold zagI; split <;> omega

theorem zagI_bd32 (n : Int) (h0 : 0 ≤ n) (h1 : n < 4294967296) : -2147483648 ≤ zagI n ∧ zagI n < 2147483648 := by
  unfold zagI; split <;> omega

theorem zag_zig (n : Int) : zagI (zigI n) = n := by
  unfold zagI zigI; split <;> split <;> omega

theorem zig_zag (n : Int) (h : 0 ≤ n) : zigI (zagI n) = n := by
  unfold zagI zigI; split <;> split <;> omega

theorem sign_wide (n : Int) (h0 : -2147483648 ≤ n) (h1 : n < 2147483648) : sign32I (wideI n) = n := by
  unfold sign32I wideI; split <;> split <;> omega

theorem zig_bits (n : Int) (h0 : -9223372036854775808 ≤ n) (h1 : n < 9223372036854775808) :
    bits BinOp.xor IntKind.u64 (IntKind.u64.wrap (wrap64 (n * 2))) (IntKind.u64.wrap (n / 9223372036854775808)) = zigI n := by
  by_cases hn : 0 ≤ n
  · have e1 : IntKind.u64.wrap (wrap64 (n * 2)) = ((2 * n).toNat : Int) := by rw [IntKind.wrap_u64]; unfold wrap64; omega
    have e2 : IntKind.u64.wrap (n / 9223372036854775808) = ((0 : Nat) : Int) := by rw [IntKind.wrap_u64]; omega
    rw [e1, e2, u64_xor_nat _ _ (by omega) (by decide)]
    unfold zigI; rw [if_pos hn, Nat.xor_zero]; omega
  · have e1 : IntKind.u64.wrap (wrap64 (n * 2)) = ((2 * n + 18446744073709551616).toNat : Int) := by rw [IntKind.wrap_u64]; unfold wrap64; omega
    have e2 : IntKind.u64.wrap (n / 9223372036854775808) = ((2 ^ 64 - 1 : Nat) : Int) := by rw [IntKind.wrap_u64]; omega
    rw [e1, e2, u64_xor_nat _ _ (by omega) (by decide), Nat.xor_comm, xor_ones64 _ (by omega)]
    unfold zigI; rw [if_neg hn]; omega

theorem and1 (n : Int) (h0 : 0 ≤ n) (h1 : n < 18446744073709551616) : bits BinOp.and IntKind.u64 n 1 = n % 2 := u64_and1 n h0 h1

theorem and1_32 (n : Int) (h0 : 0 ≤ n) (h1 : n < 4294967296) : bits BinOp.and IntKind.u32 n 1 = n % 2 := by
  rw [u32_and n 1 h0 h1 (by decide) (by decide)]
  have := nat_mask1 n.toNat
  simp only [Int.toNat_one]; rw [this]; omega

theorem ofInt_i64 (a : Nat) (ha : a < 18446744073709551616) : (BitVec.ofInt 64 (a : Int)).toNat = a := ofInt_u64 a ha

theorem i64_xor0 (a : Int) (h0 : 0 ≤ a) (h1 : a < 9223372036854775808) : bits .xor .i64 a 0 = a := by
  obtain ⟨x, rfl⟩ := Int.eq_ofNat_of_zero_le h0
  show IntKind.i64.wrap ((BitVec.ofInt 64 (x : Int) ^^^ BitVec.ofInt 64 (0 : Int)).toNat : Int) = _
  rw [BitVec.toNat_xor, ofInt_u64 x (by omega), show (BitVec.ofInt 64 (0 : Int)).toNat = 0 from by decide, Nat.xor_zero, IntKind.wrap_i64]
  omega

theorem i64_xorm (a : Int) (h0 : 0 ≤ a) (h1 : a < 9223372036854775808) : bits .xor .i64 a (-1) = -a - 1 := by
  obtain ⟨x, rfl⟩ := Int.eq_ofNat_of_zero_le h0
  show IntKind.i64.wrap ((BitVec.ofInt 64 (x : Int) ^^^ BitVec.ofInt 64 (-1 : Int)).toNat : Int) = _
  rw [BitVec.toNat_xor, ofInt_u64 x (by omega), show (BitVec.ofInt 64 (-1 : Int)).toNat = 2 ^ 64 - 1 from by decide, Nat.xor_comm, xor_ones64 x (by omega), IntKind.wrap_i64]
  omega

theorem xor_ones32 (b : Nat) (hb : b < 2 ^ 32) : (2 ^ 32 - 1) ^^^ b = 2 ^ 32 - 1 - b := by
  apply Nat.eq_of_testBit_eq
  intro i
  rw [Nat.testBit_xor, Nat.testBit_two_pow_sub_one, show 2 ^ 32 - 1 - b = 2 ^ 32 - (b + 1) by omega, Nat.testBit_two_pow_sub_succ hb]
  by_cases hi : i < 32
  · simp [hi]
  · have : b.testBit i = false := Nat.testBit_lt_two_pow (Nat.lt_of_lt_of_le hb (Nat.pow_le_pow_right (by decide) (by omega)))
    simp [hi, this]

theorem i32_xor0 (a : Int) (h0 : 0 ≤ a) (h1 : a < 2147483648) : bits .xor .i32 a 0 = a := by
  obtain ⟨x, rfl⟩ := Int.eq_ofNat_of_zero_le h0
  show IntKind.i32.wrap ((BitVec.ofInt 32 (x : Int) ^^^ BitVec.ofInt 32 (0 : Int)).toNat : Int) = _
  rw [BitVec.toNat_xor, ofInt_u32 x (by omega), show (BitVec.ofInt 32 (0 : Int)).toNat = 0 from by decide, Nat.xor_zero, IntKind.wrap_i32]
  omega

theorem i32_xorm (a : Int) (h0 : 0 ≤ a) (h1 : a < 2147483648) : bits .xor .i32 a (-1) = -a - 1 := by
  obtain ⟨x, rfl⟩ := Int.eq_ofNat_of_zero_le h0
  show IntKind.i32.wrap ((BitVec.ofInt 32 (x : Int) ^^^ BitVec.ofInt 32 (-1 : Int)).toNat : Int) = _
  rw [BitVec.toNat_xor, ofInt_u32 x (by omega), show (BitVec.ofInt 32 (-1 : Int)).toNat = 2 ^ 32 - 1 from by decide, Nat.xor_comm, xor_ones32 x (by omega), IntKind.wrap_i32]
  omega

theorem zag_bits (n : Int) (h0 : 0 ≤ n) (h1 : n < 18446744073709551616) :
    bits BinOp.xor IntKind.i64 (n / 2) (wrap64 (-wrap64 (bits BinOp.and IntKind.u64 n 1))) = zagI n := by
  rw [and1 n h0 h1]
  by_cases h : n % 2 = 1
  · rw [h, show wrap64 (-wrap64 1) = -1 from by unfold wrap64; decide, i64_xorm _ (by omega) (by omega)]
    unfold zagI; rw [if_pos h]
  · rw [show n % 2 = 0 by omega, show wrap64 (-wrap64 0) = 0 from by unfold wrap64; decide, i64_xor0 _ (by omega) (by omega)]
    unfold zagI; rw [if_neg h]

theorem zag_bits32 (n : Int) (h0 : 0 ≤ n) (h1 : n < 4294967296) :
    bits BinOp.xor IntKind.i32 (n / 2) (wrap32 (-wrap32 (bits BinOp.and IntKind.u32 n 1))) = zagI n := by
  rw [and1_32 n h0 h1]
  by_cases h : n % 2 = 1
  · rw [h, show wrap32 (-wrap32 1) = -1 from by unfold wrap32; decide, i32_xorm _ (by omega) (by omega)]
    unfold zagI; rw [if_pos h]
  · rw [show n % 2 = 0 by omega, show wrap32 (-wrap32 0) = 0 from by unfold wrap32; decide, i32_xor0 _ (by omega) (by omega)]
    unfold zagI; rw [if_neg h]

/-- The lowest m bytes, the lowest first. -/
def littleB : Nat → Nat → List UInt8
  | 0, _ => []
  | m + 1, x => (x % 256).toUInt8 :: littleB m (x / 256)

theorem littleB_succ : ∀ (k x : Nat), littleB (k + 1) x = littleB k x ++ [(x / 256 ^ k % 256).toUInt8]
  | 0, x => by simp [littleB]
  | k + 1, x => by
    rw [littleB, littleB_succ k (x / 256), littleB, Nat.div_div_eq_div_mul, ← Nat.pow_succ']
    rfl

theorem littleB_length : ∀ (k x : Nat), (littleB k x).length = k
  | 0, _ => rfl
  | k + 1, x => by simp [littleB, littleB_length k]

theorem pow_256 (k : Nat) : 2 ^ (8 * k) = 256 ^ k := by rw [Nat.pow_mul]

/-- The word of the lowest bytes first. -/
def wordN : List UInt8 → Nat
  | [] => 0
  | b :: r => b.toNat + 256 * wordN r

theorem wordN_lt : ∀ l : List UInt8, wordN l < 256 ^ l.length
  | [] => by simp [wordN]
  | b :: r => by
    have := wordN_lt r
    have := b.toNat_lt
    rw [wordN, List.length_cons, Nat.pow_succ]
    omega

theorem wordN_snoc : ∀ (l : List UInt8) (b : UInt8), wordN (l ++ [b]) = wordN l + b.toNat * 256 ^ l.length
  | [], b => by simp [wordN]
  | a :: r, b => by
    rw [List.cons_append, wordN, wordN_snoc r b, wordN, List.length_cons, Nat.pow_succ, Nat.mul_add, Nat.mul_left_comm, Nat.mul_comm (256 ^ r.length) 256]
    omega

theorem wordN_little : ∀ (k x : Nat), wordN (littleB k x) = x % 256 ^ k
  | 0, x => by simp [wordN, littleB]; omega
  | k + 1, x => by
    rw [littleB, wordN, wordN_little k, Nat.pow_succ', Nat.mod_mul]
    have : (x % 256).toUInt8.toNat = x % 256 := by show x % 256 % 256 = _; omega
    rw [this]

theorem or_low (y z k : Nat) (hy : y < 2 ^ k) (hz : z * 2 ^ k < 18446744073709551616) (hy' : y < 18446744073709551616) :
    bits BinOp.or IntKind.u64 (y : Int) ((z * 2 ^ k : Nat) : Int) = ((y + z * 2 ^ k : Nat) : Int) := by
  rw [u64_or_nat _ _ hy' hz, Nat.or_comm, nat_join k _ _ (Nat.mul_mod_left _ _) hy, Nat.add_comm]

theorem word_or (l : List UInt8) (k : Nat) (x : UInt8) (hl : l.length = k) (hk : k < 8) :
    bits BinOp.or IntKind.u64 (wordN l : Int) (IntKind.u64.wrap (IntKind.u64.wrap (x.toNat : Int) * 2 ^ (8 * k))) = ((wordN (l ++ [x]) : Nat) : Int) := by
  have hx := x.toNat_lt
  have hw1 := wordN_lt l
  rw [hl] at hw1
  have hk7 : 256 ^ k ≤ 256 ^ 7 := Nat.pow_le_pow_right (by decide) (by omega)
  have hpz : x.toNat * 256 ^ k < 18446744073709551616 :=
    Nat.lt_of_le_of_lt (Nat.mul_le_mul (show x.toNat ≤ 255 by omega) hk7) (by decide)
  have hor := or_low (wordN l) x.toNat (8 * k) (by rw [pow_256]; exact hw1) (by rw [pow_256]; exact hpz) (Nat.lt_of_lt_of_le hw1 (Nat.le_trans hk7 (by decide)))
  have e : IntKind.u64.wrap (IntKind.u64.wrap (x.toNat : Int) * 2 ^ (8 * k)) = ((x.toNat * 2 ^ (8 * k) : Nat) : Int) := by
    have hp : (2 : Int) ^ (8 * k) = ((256 ^ k : Nat) : Int) := by rw [← pow_256]; simp
    have hxm : (x.toNat : Int) % 18446744073709551616 = (x.toNat : Int) := by omega
    rw [IntKind.wrap_u64, IntKind.wrap_u64, hp, pow_256, hxm, ← Int.natCast_mul, Int.emod_eq_of_lt (by omega) (by omega)]
  rw [e, hor, wordN_snoc, hl, pow_256]

theorem or_tag (x y : Int) (h0 : 0 ≤ x) (h1 : x < 2147483648) (h2 : 0 ≤ y) (h3 : y < 8) : bits BinOp.or IntKind.u64 (x * 8) y = 8 * x + y := by
  obtain ⟨a, rfl⟩ := Int.eq_ofNat_of_zero_le h0
  obtain ⟨b, rfl⟩ := Int.eq_ofNat_of_zero_le h2
  have h := or_low b a 3 (by omega) (by omega) (by omega)
  rw [show ((a : Int) * 8) = ((a * 2 ^ 3 : Nat) : Int) by omega, u64_or_nat _ _ (by omega) (by omega), Nat.or_comm, ← u64_or_nat _ _ (by omega) (by omega), h]
  omega

/-- Bit i of a word. -/
def bitB (x : Nat) (i : Int) : Bool := decide (0 ≤ i ∧ i < 64 ∧ x / 2 ^ i.toNat % 2 = 1)

/-- How many pieces of 7 bits. -/
def lenN (x : Nat) : Nat := (uvarint x).length

theorem lenN_small {x : Nat} (h : x < 128) : lenN x = 1 := by unfold lenN; rw [uvarint_small h]; rfl

theorem lenN_big {x : Nat} (h : 128 ≤ x) : lenN x = lenN (x / 128) + 1 := by unfold lenN; rw [uvarint_big h]; rfl

theorem lenN_pos (x : Nat) : 1 ≤ lenN x := uvarint_pos x

theorem lenN_le (x : Nat) (h : x < 18446744073709551616) : lenN x ≤ 10 := uvarint_length64 h

theorem bitLen_pos {x : Nat} (h : x ≠ 0) (hx : x < 2 ^ 64) : 1 ≤ Lib.bitLen x := (bitLenAux_bounds 64 x hx h).1

theorem lenN_bits (x : Nat) : x < 18446744073709551616 → max 1 ((Lib.bitLen x + 6) / 7) = lenN x := by
  induction x using Nat.strongRecOn with
  | _ x ih =>
    intro h
    by_cases hx : x < 128
    · have := Lib.bitLen_le x 7 (by omega) (by omega)
      rw [lenN_small hx]; omega
    · have h1 : Lib.bitLen x = 7 + Lib.bitLen (x / 128) := Lib.bitLen_shift 7 x (by omega) (by omega)
      have h2 := ih (x / 128) (by omega) (by omega)
      have h3 := bitLen_pos (x := x / 128) (by omega) (by omega)
      rw [lenN_big (by omega), ← h2, h1]
      omega

theorem take_snoc {α : Type} (l : List α) (k : Nat) (b : α) (h : l[k]? = some b) : l.take (k + 1) = l.take k ++ [b] := by
  rw [List.take_add_one, h]; rfl

end Go.Proofs.Ytlmmlmmadgcmcaa
