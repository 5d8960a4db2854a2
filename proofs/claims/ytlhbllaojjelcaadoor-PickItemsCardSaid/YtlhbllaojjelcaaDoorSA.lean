/- Plain words of layers 1 to 3, 5, 6, 8, 9. No program is named. -/
import Derived.Test.YtlhbllaojjelcaaDoorMap
import Derived.WalkKit
import Derived.Lib.Zigzag
import Derived.Laws.BitsAllLaws
import Derived.Lib.BitFns
import Derived.Lib.ItoaNum

/- Lists that are read one thing behind the other: a step at a place tells a thing and a code. No program is named. -/
namespace Go.Proofs.YtlhbllaojjelcaaDoor
set_option linter.unusedVariables false

section
variable {α : Type}

/-- Put ahead of what is read further on, unless that fails. -/
def pre (l : List α) (r : List α × Nat × Nat) : List α × Nat × Nat := if r.2.2 = 0 then (l ++ r.1, r.2.1, 0) else ([], r.2.1, r.2.2)

theorem pre_pre (l m : List α) (r : List α × Nat × Nat) : pre l (pre m r) = pre (l ++ m) r := by
  unfold pre
  by_cases h : r.2.2 = 0
  · simp [h]
  · simp [h]

def scanF (step : Nat → α × Nat) (to : α → Nat) (len : Nat) : Nat → Nat → List α × Nat × Nat
  | 0, _ => ([], 0, 0)
  | f + 1, p => if len ≤ p then ([], 0, 0) else if (step p).2 = 0 then pre [(step p).1] (scanF step to len f (to (step p).1)) else ([], p, (step p).2)

def scan (step : Nat → α × Nat) (to : α → Nat) (len p : Nat) : List α × Nat × Nat := scanF step to len (len - p) p

/-- Each step leads on. -/
def Onward (step : Nat → α × Nat) (to : α → Nat) (len : Nat) : Prop := ∀ p, p < len → (step p).2 = 0 → p < to (step p).1 ∧ to (step p).1 ≤ len

variable {step : Nat → α × Nat} {to : α → Nat} {len : Nat}

theorem scanF_fuel (hO : Onward step to len) : ∀ (f g p : Nat), len - p ≤ f → len - p ≤ g → scanF step to len f p = scanF step to len g p
  | 0, 0, _, _, _ => rfl
  | 0, g + 1, p, h, _ => by rw [scanF, scanF, if_pos (by omega)]
  | f + 1, 0, p, _, h => by rw [scanF, scanF, if_pos (by omega)]
  | f + 1, g + 1, p, h1, h2 => by
    rw [scanF, scanF]
    by_cases hp : len ≤ p
    · rw [if_pos hp, if_pos hp]
    · rw [if_neg hp, if_neg hp]
      by_cases hc : (step p).2 = 0
      · have := hO p (by omega) hc
        rw [if_pos hc, if_pos hc, scanF_fuel hO f g _ (by omega) (by omega)]
      · rw [if_neg hc, if_neg hc]

theorem scan_end {p : Nat} (h : len ≤ p) : scan step to len p = ([], 0, 0) := by
  unfold scan; rw [show len - p = 0 by omega]; rfl

theorem scan_ok (hO : Onward step to len) {p : Nat} (h : p < len) {x : α} (hs : step p = (x, 0)) : scan step to len p = pre [x] (scan step to len (to x)) := by
  have h1 := hO p h (by rw [hs])
  rw [hs] at h1
  simp only at h1
  unfold scan
  obtain ⟨k, hk⟩ : ∃ k, len - p = k + 1 := ⟨len - p - 1, by omega⟩
  rw [hk, scanF, if_neg (by omega), hs, if_pos rfl]
  simp only
  rw [scanF_fuel hO k (len - to x) _ (by omega) (Nat.le_refl _)]

theorem scan_fail {p : Nat} (h : p < len) {x : α} {C : Nat} (hs : step p = (x, C)) (hC : C ≠ 0) : scan step to len p = ([], p, C) := by
  unfold scan
  obtain ⟨k, hk⟩ : ∃ k, len - p = k + 1 := ⟨len - p - 1, by omega⟩
  rw [hk, scanF, if_neg (by omega), hs]
  simp only
  rw [if_neg hC]

theorem pre_fail (l : List α) {p C : Nat} (hC : C ≠ 0) : pre l ([], p, C) = ([], p, C) := by unfold pre; rw [if_neg hC]

theorem pre_end (l : List α) : pre l ([], 0, 0) = (l, 0, 0) := by unfold pre; simp

theorem pre_nil (r : List α × Nat × Nat) (h : r.2.2 ≠ 0 → r.1 = []) : pre [] r = r := by
  unfold pre
  by_cases h0 : r.2.2 = 0
  · rw [if_pos h0]; ext <;> simp [h0]
  · rw [if_neg h0]; rw [← h h0]

theorem scan_code (hO : Onward step to len) : ∀ (m p : Nat), len - p ≤ m → ((scan step to len p).2.2 ≠ 0 → (scan step to len p).1 = []) ∧ ((scan step to len p).2.2 = 0 → (scan step to len p).2.1 = 0) ∧ (p ≤ len → (scan step to len p).1.length ≤ len - p) ∧ (p ≤ len → (scan step to len p).2.1 ≤ len)
  | 0, p, h => by rw [scan_end (by omega)]; simp
  | m + 1, p, h => by
    by_cases hp : len ≤ p
    · rw [scan_end hp]; simp
    · rcases hs : step p with ⟨x, C⟩
      by_cases hC : C = 0
      · subst hC
        have h1 := hO p (by omega) (by rw [hs])
        rw [hs] at h1
        simp only at h1
        have ih := scan_code hO m (to x) (by omega)
        rw [scan_ok hO (by omega) hs]
        unfold pre
        by_cases h0 : (scan step to len (to x)).2.2 = 0
        · rw [if_pos h0]
          refine ⟨by simp, fun _ => ih.2.1 h0, fun _ => ?_, fun _ => ih.2.2.2 h1.2⟩
          have := ih.2.2.1 h1.2
          simp; omega
        · rw [if_neg h0]
          exact ⟨by simp, by simp [h0], by simp, fun _ => ih.2.2.2 h1.2⟩
      · rw [scan_fail (by omega) hs hC]
        exact ⟨by simp, by simp [hC], by simp, fun _ => by simp; omega⟩

theorem pre_scan (hO : Onward step to len) (p : Nat) : pre [] (scan step to len p) = scan step to len p := pre_nil _ (scan_code hO _ p (Nat.le_refl _)).1

/-- What holds of each thing that is read. -/
theorem scan_all (hO : Onward step to len) {P : α → Prop} (hP : ∀ p x, p < len → step p = (x, 0) → P x) : ∀ (m p : Nat), len - p ≤ m → ∀ x ∈ (scan step to len p).1, P x
  | 0, p, h => by rw [scan_end (by omega)]; simp
  | m + 1, p, h => by
    by_cases hp : len ≤ p
    · rw [scan_end hp]; simp
    · rcases hs : step p with ⟨x, C⟩
      by_cases hC : C = 0
      · subst hC
        have h1 := hO p (by omega) (by rw [hs])
        rw [hs] at h1
        simp only at h1
        have ih := scan_all hO hP m (to x) (by omega)
        rw [scan_ok hO (by omega) hs]
        unfold pre
        by_cases h0 : (scan step to len (to x)).2.2 = 0
        · rw [if_pos h0]
          intro y hy
          simp only [List.singleton_append, List.mem_cons] at hy
          rcases hy with rfl | hy
          · exact hP p _ (by omega) hs
          · exact ih y hy
        · rw [if_neg h0]; simp
      · rw [scan_fail (by omega) hs hC]; simp
end

end Go.Proofs.YtlhbllaojjelcaaDoor

/- Plain laws of layer 1: words of 64 bits as whole numbers. No program is named. -/
namespace Go.Proofs.YtlhbllaojjelcaaDoor
open Go.RowKit Go.Lib

theorem ret_int {k : IntKind} {a b : Int} (h : a = b) : Ending.returned (.int k a) = .returned (.int k b) := by rw [h]

theorem ret_bool {a b : Bool} (h : a = b) : Ending.returned (.bool a) = .returned (.bool b) := by rw [h]

/-- The lowest 32 bits, signed. -/
def sign32I (n : Int) : Int := if 2147483648 ≤ n % 4294967296 then n % 4294967296 - 4294967296 else n % 4294967296

/-- A signed number modulo 2^64. -/
def wideI (n : Int) : Int := if 0 ≤ n then n else n + 18446744073709551616

def zigI (n : Int) : Int := if 0 ≤ n then 2 * n else -2 * n - 1

def zagI (n : Int) : Int := if n % 2 = 1 then -(n / 2) - 1 else n / 2

theorem sign32I_wrap (n : Int) : wrap32 (n % 4294967296) = sign32I n := by
  unfold sign32I wrap32; split <;> omega

theorem sign32I_bd (n : Int) : -2147483648 ≤ sign32I n ∧ sign32I n < 2147483648 := by
  unfold sign32I; split <;> omega

theorem wideI_wrap (n : Int) (h0 : -9223372036854775808 ≤ n) (h1 : n < 9223372036854775808) : IntKind.u64.wrap n = wideI n := by
  rw [IntKind.wrap_u64]; unfold wideI; split <;> omega

theorem wideI_bd (n : Int) (h0 : -9223372036854775808 ≤ n) (h1 : n < 9223372036854775808) : 0 ≤ wideI n ∧ wideI n < 18446744073709551616 := by
  unfold wideI; split <;> omega

theorem zigI_bd (n : Int) (h0 : -9223372036854775808 ≤ n) (h1 : n < 9223372036854775808) : 0 ≤ zigI n ∧ zigI n < 18446744073709551616 := by
  unfold zigI; split <;> omega

theorem zagI_bd (n : Int) (h0 : 0 ≤ n) (h1 : n < 18446744073709551616) : -9223372036854775808 ≤ zagI n ∧ zagI n < 9223372036854775808 := by
  unfold zagI; split <;> omega

theorem zagI_bd32 (n : Int) (h0 : 0 ≤ n) (h1 : n < 4294967296) : -2147483648 ≤ zagI n ∧ zagI n < 2147483648 := by
  unfold zagI; split <;> omega

theorem zag_zig (n : Int) : zagI (zigI n) = n := by
  unfold zagI zigI; split <;> split <;> omega

theorem zig_zag (n : Int) (h : 0 ≤ n) : zigI (zagI n) = n := by
  unfold zagI zigI; split <;> split <;> omega

theorem sign_wide (n : Int) (h0 : -2147483648 ≤ n) (h1 : n < 2147483648) : sign32I (wideI n) = n := by
  unfold sign32I wideI; split <;> split <;> omega

theorem zig_bits (n : Int) (h0 : -9223372036854775808 ≤ n) (h1 : n < 9223372036854775808) :
    bits BinOp.xor IntKind.u64 (IntKind.u64.wrap (wrap64 (n * 2))) (IntKind.u64.wrap (n / 9223372036854775808)) = zigI n := by
  by_cases hn : 0 ≤ n
  · have e1 : IntKind.u64.wrap (wrap64 (n * 2)) = ((2 * n).toNat : Int) := by rw [IntKind.wrap_u64]; unfold wrap64; omega
    have e2 : IntKind.u64.wrap (n / 9223372036854775808) = ((0 : Nat) : Int) := by rw [IntKind.wrap_u64]; omega
    rw [e1, e2, u64_xor_nat _ _ (by omega) (by decide)]
    unfold zigI; rw [if_pos hn, Nat.xor_zero]; omega
  · have e1 : IntKind.u64.wrap (wrap64 (n * 2)) = ((2 * n + 18446744073709551616).toNat : Int) := by rw [IntKind.wrap_u64]; unfold wrap64; omega
    have e2 : IntKind.u64.wrap (n / 9223372036854775808) = ((2 ^ 64 - 1 : Nat) : Int) := by rw [IntKind.wrap_u64]; omega
    rw [e1, e2, u64_xor_nat _ _ (by omega) (by decide), Nat.xor_comm, xor_ones64 _ (by omega)]
    unfold zigI; rw [if_neg hn]; omega

theorem and1 (n : Int) (h0 : 0 ≤ n) (h1 : n < 18446744073709551616) : bits BinOp.and IntKind.u64 n 1 = n % 2 := u64_and1 n h0 h1

theorem and1_32 (n : Int) (h0 : 0 ≤ n) (h1 : n < 4294967296) : bits BinOp.and IntKind.u32 n 1 = n % 2 := by
  rw [u32_and n 1 h0 h1 (by decide) (by decide)]
  have := nat_mask1 n.toNat
  simp only [Int.toNat_one]; rw [this]; omega

theorem ofInt_i64 (a : Nat) (ha : a < 18446744073709551616) : (BitVec.ofInt 64 (a : Int)).toNat = a := ofInt_u64 a ha

theorem i64_xor0 (a : Int) (h0 : 0 ≤ a) (h1 : a < 9223372036854775808) : bits .xor .i64 a 0 = a := by
  obtain ⟨x, rfl⟩ := Int.eq_ofNat_of_zero_le h0
  show IntKind.i64.wrap ((BitVec.ofInt 64 (x : Int) ^^^ BitVec.ofInt 64 (0 : Int)).toNat : Int) = _
  rw [BitVec.toNat_xor, ofInt_u64 x (by omega), show (BitVec.ofInt 64 (0 : Int)).toNat = 0 from by decide, Nat.xor_zero, IntKind.wrap_i64]
  omega

theorem i64_xorm (a : Int) (h0 : 0 ≤ a) (h1 : a < 9223372036854775808) : bits .xor .i64 a (-1) = -a - 1 := by
  obtain ⟨x, rfl⟩ := Int.eq_ofNat_of_zero_le h0
  show IntKind.i64.wrap ((BitVec.ofInt 64 (x : Int) ^^^ BitVec.ofInt 64 (-1 : Int)).toNat : Int) = _
  rw [BitVec.toNat_xor, ofInt_u64 x (by omega), show (BitVec.ofInt 64 (-1 : Int)).toNat = 2 ^ 64 - 1 from by decide, Nat.xor_comm, xor_ones64 x (by omega), IntKind.wrap_i64]
  omega

theorem xor_ones32 (b : Nat) (hb : b < 2 ^ 32) : (2 ^ 32 - 1) ^^^ b = 2 ^ 32 - 1 - b := by
  apply Nat.eq_of_testBit_eq
  intro i
  rw [Nat.testBit_xor, Nat.testBit_two_pow_sub_one, show 2 ^ 32 - 1 - b = 2 ^ 32 - (b + 1) by omega, Nat.testBit_two_pow_sub_succ hb]
  by_cases hi : i < 32
  · simp [hi]
  · have : b.testBit i = false := Nat.testBit_lt_two_pow (Nat.lt_of_lt_of_le hb (Nat.pow_le_pow_right (by decide) (by omega)))
    simp [hi, this]

theorem i32_xor0 (a : Int) (h0 : 0 ≤ a) (h1 : a < 2147483648) : bits .xor .i32 a 0 = a := by
  obtain ⟨x, rfl⟩ := Int.eq_ofNat_of_zero_le h0
  show IntKind.i32.wrap ((BitVec.ofInt 32 (x : Int) ^^^ BitVec.ofInt 32 (0 : Int)).toNat : Int) = _
  rw [BitVec.toNat_xor, ofInt_u32 x (by omega), show (BitVec.ofInt 32 (0 : Int)).toNat = 0 from by decide, Nat.xor_zero, IntKind.wrap_i32]
  omega

theorem i32_xorm (a : Int) (h0 : 0 ≤ a) (h1 : a < 2147483648) : bits .xor .i32 a (-1) = -a - 1 := by
  obtain ⟨x, rfl⟩ := Int.eq_ofNat_of_zero_le h0
  show IntKind.i32.wrap ((BitVec.ofInt 32 (x : Int) ^^^ BitVec.ofInt 32 (-1 : Int)).toNat : Int) = _
  rw [BitVec.toNat_xor, ofInt_u32 x (by omega), show (BitVec.ofInt 32 (-1 : Int)).toNat = 2 ^ 32 - 1 from by decide, Nat.xor_comm, xor_ones32 x (by omega), IntKind.wrap_i32]
  omega

theorem zag_bits (n : Int) (h0 : 0 ≤ n) (h1 : n < 18446744073709551616) :
    bits BinOp.xor IntKind.i64 (n / 2) (wrap64 (-wrap64 (bits BinOp.and IntKind.u64 n 1))) = zagI n := by
  rw [and1 n h0 h1]
  by_cases h : n % 2 = 1
  · rw [h, show wrap64 (-wrap64 1) = -1 from by unfold wrap64; decide, i64_xorm _ (by omega) (by omega)]
    unfold zagI; rw [if_pos h]
  · rw [show n % 2 = 0 by omega, show wrap64 (-wrap64 0) = 0 from by unfold wrap64; decide, i64_xor0 _ (by omega) (by omega)]
    unfold zagI; rw [if_neg h]

theorem zag_bits32 (n : Int) (h0 : 0 ≤ n) (h1 : n < 4294967296) :
    bits BinOp.xor IntKind.i32 (n / 2) (wrap32 (-wrap32 (bits BinOp.and IntKind.u32 n 1))) = zagI n := by
  rw [and1_32 n h0 h1]
  by_cases h : n % 2 = 1
  · rw [h, show wrap32 (-wrap32 1) = -1 from by unfold wrap32; decide, i32_xorm _ (by omega) (by omega)]
    unfold zagI; rw [if_pos h]
  · rw [show n % 2 = 0 by omega, show wrap32 (-wrap32 0) = 0 from by unfold wrap32; decide, i32_xor0 _ (by omega) (by omega)]
    unfold zagI; rw [if_neg h]

/-- The lowest m bytes, the lowest first. -/
def littleB : Nat → Nat → List UInt8
  | 0, _ => []
  | m + 1, x => (x % 256).toUInt8 :: littleB m (x / 256)

theorem littleB_succ : ∀ (k x : Nat), littleB (k + 1) x = littleB k x ++ [(x / 256 ^ k % 256).toUInt8]
  | 0, x => by simp [littleB]
  | k + 1, x => by
    rw [littleB, littleB_succ k (x / 256), littleB, Nat.div_div_eq_div_mul, ← Nat.pow_succ']
    rfl

theorem littleB_length : ∀ (k x : Nat), (littleB k x).length = k
  | 0, _ => rfl
  | k + 1, x => by simp [littleB, littleB_length k]

theorem pow_256 (k : Nat) : 2 ^ (8 * k) = 256 ^ k := by rw [Nat.pow_mul]

/-- The word of the lowest bytes first. -/
def wordN : List UInt8 → Nat
  | [] => 0
  | b :: r => b.toNat + 256 * wordN r

theorem wordN_lt : ∀ l : List UInt8, wordN l < 256 ^ l.length
  | [] => by simp [wordN]
  | b :: r => by
    have := wordN_lt r
    have := b.toNat_lt
    rw [wordN, List.length_cons, Nat.pow_succ]
    omega

theorem wordN_snoc : ∀ (l : List UInt8) (b : UInt8), wordN (l ++ [b]) = wordN l + b.toNat * 256 ^ l.length
  | [], b => by simp [wordN]
  | a :: r, b => by
    rw [List.cons_append, wordN, wordN_snoc r b, wordN, List.length_cons, Nat.pow_succ, Nat.mul_add, Nat.mul_left_comm, Nat.mul_comm (256 ^ r.length) 256]
    omega

theorem wordN_little : ∀ (k x : Nat), wordN (littleB k x) = x % 256 ^ k
  | 0, x => by simp [wordN, littleB]; omega
  | k + 1, x => by
    rw [littleB, wordN, wordN_little k, Nat.pow_succ', Nat.mod_mul]
    have : (x % 256).toUInt8.toNat = x % 256 := by show x % 256 % 256 = _; omega
    rw [this]

theorem or_low (y z k : Nat) (hy : y < 2 ^ k) (hz : z * 2 ^ k < 18446744073709551616) (hy' : y < 18446744073709551616) :
    bits BinOp.or IntKind.u64 (y : Int) ((z * 2 ^ k : Nat) : Int) = ((y + z * 2 ^ k : Nat) : Int) := by
  rw [u64_or_nat _ _ hy' hz, Nat.or_comm, nat_join k _ _ (Nat.mul_mod_left _ _) hy, Nat.add_comm]

theorem word_or (l : List UInt8) (k : Nat) (x : UInt8) (hl : l.length = k) (hk : k < 8) :
    bits BinOp.or IntKind.u64 (wordN l : Int) (IntKind.u64.wrap (IntKind.u64.wrap (x.toNat : Int) * 2 ^ (8 * k))) = ((wordN (l ++ [x]) : Nat) : Int) := by
  have hx := x.toNat_lt
  have hw1 := wordN_lt l
  rw [hl] at hw1
  have hk7 : 256 ^ k ≤ 256 ^ 7 := Nat.pow_le_pow_right (by decide) (by omega)
  have hpz : x.toNat * 256 ^ k < 18446744073709551616 :=
    Nat.lt_of_le_of_lt (Nat.mul_le_mul (show x.toNat ≤ 255 by omega) hk7) (by decide)
  have hor := or_low (wordN l) x.toNat (8 * k) (by rw [pow_256]; exact hw1) (by rw [pow_256]; exact hpz) (Nat.lt_of_lt_of_le hw1 (Nat.le_trans hk7 (by decide)))
  have e : IntKind.u64.wrap (IntKind.u64.wrap (x.toNat : Int) * 2 ^ (8 * k)) = ((x.toNat * 2 ^ (8 * k) : Nat) : Int) := by
    have hp : (2 : Int) ^ (8 * k) = ((256 ^ k : Nat) : Int) := by rw [← pow_256]; simp
    have hxm : (x.toNat : Int) % 18446744073709551616 = (x.toNat : Int) := by omega
    rw [IntKind.wrap_u64, IntKind.wrap_u64, hp, pow_256, hxm, ← Int.natCast_mul, Int.emod_eq_of_lt (by omega) (by omega)]
  rw [e, hor, wordN_snoc, hl, pow_256]

theorem or_tag (x y : Int) (h0 : 0 ≤ x) (h1 : x < 2147483648) (h2 : 0 ≤ y) (h3 : y < 8) : bits BinOp.or IntKind.u64 (x * 8) y = 8 * x + y := by
  obtain ⟨a, rfl⟩ := Int.eq_ofNat_of_zero_le h0
  obtain ⟨b, rfl⟩ := Int.eq_ofNat_of_zero_le h2
  have h := or_low b a 3 (by omega) (by omega) (by omega)
  rw [show ((a : Int) * 8) = ((a * 2 ^ 3 : Nat) : Int) by omega, u64_or_nat _ _ (by omega) (by omega), Nat.or_comm, ← u64_or_nat _ _ (by omega) (by omega), h]
  omega

/-- Bit i of a word. -/
def bitB (x : Nat) (i : Int) : Bool := decide (0 ≤ i ∧ i < 64 ∧ x / 2 ^ i.toNat % 2 = 1)

/-- How many pieces of 7 bits. -/
def lenN (x : Nat) : Nat := (uvarint x).length

theorem lenN_small {x : Nat} (h : x < 128) : lenN x = 1 := by unfold lenN; rw [uvarint_small h]; rfl

theorem lenN_big {x : Nat} (h : 128 ≤ x) : lenN x = lenN (x / 128) + 1 := by unfold lenN; rw [uvarint_big h]; rfl

theorem lenN_pos (x : Nat) : 1 ≤ lenN x := uvarint_pos x

theorem lenN_le (x : Nat) (h : x < 18446744073709551616) : lenN x ≤ 10 := uvarint_length64 h

theorem bitLen_pos {x : Nat} (h : x ≠ 0) (hx : x < 2 ^ 64) : 1 ≤ Lib.bitLen x := (bitLenAux_bounds 64 x hx h).1

theorem lenN_bits (x : Nat) : x < 18446744073709551616 → max 1 ((Lib.bitLen x + 6) / 7) = lenN x := by
  induction x using Nat.strongRecOn with
  | _ x ih =>
    intro h
    by_cases hx : x < 128
    · have := Lib.bitLen_le x 7 (by omega) (by omega)
      rw [lenN_small hx]; omega
    · have h1 : Lib.bitLen x = 7 + Lib.bitLen (x / 128) := Lib.bitLen_shift 7 x (by omega) (by omega)
      have h2 := ih (x / 128) (by omega) (by omega)
      have h3 := bitLen_pos (x := x / 128) (by omega) (by omega)
      rw [lenN_big (by omega), ← h2, h1]
      omega

theorem take_snoc {α : Type} (l : List α) (k : Nat) (b : α) (h : l[k]? = some b) : l.take (k + 1) = l.take k ++ [b] := by
  rw [List.take_add_one, h]; rfl

end Go.Proofs.YtlhbllaojjelcaaDoor

/- Plain laws of layer 2: varints. No program is named. -/
namespace Go.Proofs.YtlhbllaojjelcaaDoor
open Go.RowKit Go.Lib
set_option linter.unusedVariables false

/-- The word of pieces of 7 bits, the lowest first. -/
def wordV : List UInt8 → Nat
  | [] => 0
  | b :: r => b.toNat % 128 + 128 * wordV r

theorem wordV_lt : ∀ l : List UInt8, wordV l < 128 ^ l.length
  | [] => by simp [wordV]
  | b :: r => by
    have := wordV_lt r
    rw [wordV, List.length_cons, Nat.pow_succ]
    omega

theorem wordV_snoc : ∀ (l : List UInt8) (b : UInt8), wordV (l ++ [b]) = wordV l + b.toNat % 128 * 128 ^ l.length
  | [], b => by simp [wordV]
  | a :: r, b => by
    rw [List.cons_append, wordV, wordV_snoc r b, wordV, List.length_cons, Nat.pow_succ, Nat.mul_add, Nat.mul_left_comm, Nat.mul_comm (128 ^ r.length) 128]
    omega

/-- A varint at the i-th byte: its word, how many bytes; the code. -/
def readI : Nat → List UInt8 → Nat × Nat × Nat
  | _, [] => (0, 0, 3)
  | i, b :: r =>
    if i = 9 ∧ 1 < b.toNat then (0, 0, 4)
    else if b.toNat < 128 then (b.toNat, 1, 0)
    else if (readI (i + 1) r).2.2 = 0 then (b.toNat % 128 + 128 * (readI (i + 1) r).1, (readI (i + 1) r).2.1 + 1, 0)
    else (0, 0, (readI (i + 1) r).2.2)

def readV (bs : List UInt8) : Nat × Nat × Nat := readI 0 bs

/-- The first k bytes say that more come. -/
def Cont (bs : List UInt8) (k : Nat) : Prop := ∀ j, j < k → ∃ x, bs[j]? = some x ∧ 128 ≤ x.toNat

theorem Cont.zero (bs : List UInt8) : Cont bs 0 := fun j h => absurd h (Nat.not_lt_zero j)

theorem Cont.succ {bs : List UInt8} {k : Nat} {x : UInt8} (h : Cont bs k) (hx : bs[k]? = some x) (hb : 128 ≤ x.toNat) : Cont bs (k + 1) := by
  intro j hj
  by_cases e : j = k
  · subst e; exact ⟨x, hx, hb⟩
  · exact h j (by omega)

theorem Cont.head {b : UInt8} {r : List UInt8} {k : Nat} (h : Cont (b :: r) (k + 1)) : 128 ≤ b.toNat ∧ Cont r k := by
  constructor
  · obtain ⟨x, hx, hb⟩ := h 0 (by omega)
    simp at hx; subst hx; exact hb
  · intro j hj
    obtain ⟨x, hx, hb⟩ := h (j + 1) (by omega)
    exact ⟨x, by simpa using hx, hb⟩

theorem Cont.le {bs : List UInt8} {k : Nat} (h : Cont bs k) : k ≤ bs.length := by
  rcases Nat.lt_or_ge bs.length k with hlt | hge
  · obtain ⟨x, hx, _⟩ := h bs.length hlt
    simp at hx
  · exact hge

theorem readI_over : ∀ (k i : Nat) (bs : List UInt8) (c : UInt8), Cont bs k → i + k = 9 → bs[k]? = some c → 1 < c.toNat → readI i bs = (0, 0, 4)
  | 0, i, bs, c, _, hi, hc, h1 => by
    match bs, hc with
    | b :: r, hc => simp at hc; subst hc; rw [readI, if_pos ⟨by omega, h1⟩]
  | k + 1, i, bs, c, h, hi, hc, h1 => by
    match bs, hc, h with
    | b :: r, hc, h =>
      have hh := h.head
      have ih := readI_over k (i + 1) r c hh.2 (by omega) (by simpa using hc) h1
      rw [readI, if_neg (by omega), if_neg (by omega), ih, if_neg (by decide)]

theorem readI_short : ∀ (k i : Nat) (bs : List UInt8), Cont bs k → i + k ≤ 9 → bs.length = k → readI i bs = (0, 0, 3)
  | 0, i, bs, _, _, hl => by
    have : bs = [] := List.eq_nil_of_length_eq_zero hl
    subst this; rfl
  | k + 1, i, bs, h, hi, hl => by
    match bs, hl, h with
    | b :: r, hl, h =>
      have hh := h.head
      have ih := readI_short k (i + 1) r hh.2 (by omega) (by simpa using hl)
      rw [readI, if_neg (by omega), if_neg (by omega), ih, if_neg (by decide)]

theorem readI_done : ∀ (k i : Nat) (bs : List UInt8) (c : UInt8), Cont bs k → i + k ≤ 9 → bs[k]? = some c → c.toNat < 128 → (i + k = 9 → c.toNat ≤ 1) →
    readI i bs = (wordV (bs.take (k + 1)), k + 1, 0)
  | 0, i, bs, c, _, hi, hc, h1, h9 => by
    match bs, hc with
    | b :: r, hc =>
      simp at hc; subst hc
      rw [readI, if_neg (by omega), if_pos h1]
      simp [wordV]; omega
  | k + 1, i, bs, c, h, hi, hc, h1, h9 => by
    match bs, hc, h with
    | b :: r, hc, h =>
      have hh := h.head
      have ih := readI_done k (i + 1) r c hh.2 (by omega) (by simpa using hc) h1 (fun e => h9 (by omega))
      rw [readI, if_neg (by omega), if_neg (by omega), ih, if_pos rfl, List.take_succ_cons, wordV]

theorem readV_over {bs : List UInt8} {c : UInt8} (h : Cont bs 9) (hc : bs[9]? = some c) (h1 : 1 < c.toNat) : readV bs = (0, 0, 4) := readI_over 9 0 bs c h rfl hc h1

theorem readV_short {bs : List UInt8} {k : Nat} (h : Cont bs k) (hk : k ≤ 9) (hl : bs.length = k) : readV bs = (0, 0, 3) := readI_short k 0 bs h (by omega) hl

theorem readV_done {bs : List UInt8} {k : Nat} {c : UInt8} (h : Cont bs k) (hk : k ≤ 9) (hc : bs[k]? = some c) (h1 : c.toNat < 128) (h9 : k = 9 → c.toNat ≤ 1) :
    readV bs = (wordV (bs.take (k + 1)), k + 1, 0) := readI_done k 0 bs c h (by omega) hc h1 (fun e => h9 (by omega))

/-- What any bytes begin with. -/
theorem readV_cases (bs : List UInt8) : readV bs = (0, 0, 4) ∨ readV bs = (0, 0, 3) ∨
    ∃ k c, Cont bs k ∧ k ≤ 9 ∧ bs[k]? = some c ∧ c.toNat < 128 ∧ (k = 9 → c.toNat ≤ 1) ∧ readV bs = (wordV (bs.take (k + 1)), k + 1, 0) := by
  have go : ∀ m k, m + k = 9 → Cont bs k → readV bs = (0, 0, 4) ∨ readV bs = (0, 0, 3) ∨
      ∃ k c, Cont bs k ∧ k ≤ 9 ∧ bs[k]? = some c ∧ c.toNat < 128 ∧ (k = 9 → c.toNat ≤ 1) ∧ readV bs = (wordV (bs.take (k + 1)), k + 1, 0) := by
    intro m
    induction m with
    | zero =>
      intro k hk h
      obtain rfl : k = 9 := by omega
      rcases hx : bs[9]? with _ | c
      · have := h.le
        have hl : bs.length = 9 := by
          have := List.getElem?_eq_none_iff.1 hx
          omega
        exact .inr (.inl (readV_short h (Nat.le_refl _) hl))
      · by_cases h1 : 1 < c.toNat
        · exact .inl (readV_over h hx h1)
        · exact .inr (.inr ⟨9, c, h, Nat.le_refl _, hx, by omega, fun _ => by omega, readV_done h (Nat.le_refl _) hx (by omega) (fun _ => by omega)⟩)
    | succ m ih =>
      intro k hk h
      rcases hx : bs[k]? with _ | c
      · have := h.le
        have hl : bs.length = k := by
          have := List.getElem?_eq_none_iff.1 hx
          omega
        exact .inr (.inl (readV_short h (by omega) hl))
      · by_cases h1 : c.toNat < 128
        · exact .inr (.inr ⟨k, c, h, by omega, hx, h1, fun _ => by omega, readV_done h (by omega) hx h1 (fun _ => by omega)⟩)
        · exact ih (k + 1) (by omega) (h.succ hx (by omega))
  exact go 9 0 rfl (Cont.zero bs)

theorem wordV_take_lt {bs : List UInt8} {k : Nat} {c : UInt8} (hk : k ≤ 9) (hc : bs[k]? = some c) (h9 : k = 9 → c.toNat ≤ 1) : wordV (bs.take (k + 1)) < 18446744073709551616 := by
  have hl : (bs.take k).length = k := by
    have := (List.getElem?_eq_some_iff.1 hc).1
    rw [List.length_take]; omega
  have h1 := wordV_lt (bs.take k)
  rw [take_snoc bs k c hc, wordV_snoc, hl]
  rw [hl] at h1
  by_cases e : k = 9
  · subst e
    have := h9 rfl
    have : c.toNat % 128 * 128 ^ 9 ≤ 1 * 128 ^ 9 := Nat.mul_le_mul (by omega) (Nat.le_refl _)
    have e1 : (128 : Nat) ^ 9 = 9223372036854775808 := by decide
    rw [e1] at *
    omega
  · have h2 : 128 ^ k ≤ 128 ^ 8 := Nat.pow_le_pow_right (by decide) (by omega)
    have h3 : c.toNat % 128 * 128 ^ k ≤ 127 * 128 ^ 8 := Nat.mul_le_mul (by omega) h2
    have e1 : (128 : Nat) ^ 8 = 72057594037927936 := by decide
    rw [e1] at *
    omega

/-- What is told of any bytes: the word fits, the count is within the bytes and 10, the code is Fine, Short or Over; beside an error the rest is zero. -/
theorem readV_bd (bs : List UInt8) : (readV bs).1 < 18446744073709551616 ∧ (readV bs).2.1 ≤ bs.length ∧ (readV bs).2.1 ≤ 10 ∧ (readV bs).2.2 ≤ 4 ∧
    ((readV bs).2.2 = 0 → 1 ≤ (readV bs).2.1) ∧ ((readV bs).2.2 ≠ 0 → (readV bs).1 = 0 ∧ (readV bs).2.1 = 0) := by
  rcases readV_cases bs with h | h | ⟨k, c, hC, hk, hc, h1, h9, h⟩
  · rw [h]; simp
  · rw [h]; simp
  · rw [h]
    have := (List.getElem?_eq_some_iff.1 hc).1
    refine ⟨wordV_take_lt hk hc h9, by show k + 1 ≤ _; omega, by show k + 1 ≤ _; omega, by simp, fun _ => by show 1 ≤ k + 1; omega, fun h => absurd rfl h⟩

theorem wordV_drop_le : ∀ (l : List UInt8) (j : Nat), wordV (l.drop j) ≤ wordV l
  | l, 0 => Nat.le_refl _
  | [], j + 1 => Nat.le_refl _
  | b :: r, j + 1 => by
    have := wordV_drop_le r j
    rw [List.drop_succ_cons, wordV]; omega

theorem wordV_step (l : List UInt8) (j : Nat) (x : UInt8) (h : l[j]? = some x) : wordV (l.drop j) = x.toNat % 128 + 128 * wordV (l.drop (j + 1)) := by
  have hj := (List.getElem?_eq_some_iff.1 h).1
  rw [List.drop_eq_getElem_cons hj, wordV]
  have : l[j] = x := by rw [List.getElem?_eq_getElem hj] at h; simpa using h
  rw [this]

theorem and127 (x : UInt8) : bits BinOp.and IntKind.u8 (x.toNat : Int) 127 = ((x.toNat % 128 : Nat) : Int) := by
  have h := x.toNat_lt
  rw [u8_and _ 127 (by omega) (by omega) (by decide) (by decide)]
  have e := nat_mask7 x.toNat
  rw [Int.toNat_natCast, show ((127 : Int)).toNat = 127 from rfl, e]

theorem pow_128 (k : Nat) : 2 ^ (7 * k) = 128 ^ k := by rw [Nat.pow_mul]

/-- The step of reading: one piece more. -/
theorem read_or (l : List UInt8) (k : Nat) (x : UInt8) (hl : l.length = k) (hk : k ≤ 9) (h9 : k = 9 → x.toNat ≤ 1) :
    bits BinOp.or IntKind.u64 (wordV l : Int) (IntKind.u64.wrap (((x.toNat % 128 : Nat) : Int) * 2 ^ (7 * k))) = ((wordV (l ++ [x]) : Nat) : Int) := by
  have hx := x.toNat_lt
  have hw1 := wordV_lt l
  rw [hl] at hw1
  have hp : x.toNat % 128 * 128 ^ k < 18446744073709551616 := by
    by_cases e : k = 9
    · subst e
      have := h9 rfl
      have h2 : x.toNat % 128 * 128 ^ 9 ≤ 1 * 128 ^ 9 := Nat.mul_le_mul (by omega) (Nat.le_refl _)
      exact Nat.lt_of_le_of_lt h2 (by decide)
    · have h2 : 128 ^ k ≤ 128 ^ 8 := Nat.pow_le_pow_right (by decide) (by omega)
      exact Nat.lt_of_le_of_lt (Nat.mul_le_mul (show x.toNat % 128 ≤ 127 by omega) h2) (by decide)
  have h64 : wordV l < 18446744073709551616 := Nat.lt_of_lt_of_le hw1 (Nat.le_trans (Nat.pow_le_pow_right (by decide) hk) (by decide))
  have hor := or_low (wordV l) (x.toNat % 128) (7 * k) (by rw [pow_128]; exact hw1) (by rw [pow_128]; exact hp) h64
  have e : IntKind.u64.wrap (((x.toNat % 128 : Nat) : Int) * 2 ^ (7 * k)) = ((x.toNat % 128 * 2 ^ (7 * k) : Nat) : Int) := by
    have hq : (2 : Int) ^ (7 * k) = ((128 ^ k : Nat) : Int) := by rw [← pow_128]; simp
    rw [IntKind.wrap_u64, hq, pow_128, ← Int.natCast_mul, Int.emod_eq_of_lt (by omega) (by omega)]
  rw [e, hor, wordV_snoc, hl, pow_128]

theorem read_or' (l : List UInt8) (k : Nat) (x : UInt8) (hl : l.length = k) (hk : k ≤ 9) (h9 : k = 9 → x.toNat ≤ 1) :
    bits BinOp.or IntKind.u64 (wordV l : Int) (IntKind.u64.wrap (IntKind.u64.wrap (bits BinOp.and IntKind.u8 (x.toNat : Int) 127) * 2 ^ (7 * k))) = ((wordV (l ++ [x]) : Nat) : Int) := by
  have hx := x.toNat_lt
  have e : IntKind.u64.wrap ((x.toNat % 128 : Nat) : Int) = ((x.toNat % 128 : Nat) : Int) := by rw [IntKind.wrap_u64]; omega
  rw [and127, e, read_or l k x hl hk h9]

theorem or128 (x : Nat) : bits BinOp.or IntKind.u8 ((x : Int) % 256) 128 = ((x % 128 + 128 : Nat) : Int) := by
  have h := u8_or128_any ((x : Int) % 256) (by omega) (by omega)
  rw [h]; omega

theorem uvarint_ne (x : Nat) : uvarint x ≠ [] := by
  intro h
  have := uvarint_pos x
  rw [h] at this
  simp at this

/-- The minimal varint reads as its word, whatever stands behind it. -/
theorem readI_uvarint : ∀ (x i : Nat) (more : List UInt8), i ≤ 9 → x < 2 ^ (64 - 7 * i) → readI i (uvarint x ++ more) = (x, (uvarint x).length, 0) := by
  intro x
  induction x using Nat.strongRecOn with
  | _ x ih =>
    intro i more hi hx
    by_cases h : x < 128
    · rw [uvarint_small h, List.singleton_append, readI, toNat_u8' x (by omega), if_neg, if_pos h]
      · rfl
      · rintro ⟨rfl, h1⟩
        simp at hx
        omega
    · have hi8 : i ≤ 8 := by
        rcases Nat.lt_or_ge i 9 with h | h
        · omega
        · obtain rfl : i = 9 := by omega
          simp at hx; omega
      have hb : (x % 128 + 128).toUInt8.toNat = x % 128 + 128 := toNat_u8' _ (by omega)
      have hx' : x / 128 < 2 ^ (64 - 7 * (i + 1)) := by
        have : 2 ^ (64 - 7 * i) = 2 ^ (64 - 7 * (i + 1)) * 128 := by
          rw [show 64 - 7 * i = (64 - 7 * (i + 1)) + 7 by omega, Nat.pow_add]
        rw [this] at hx
        exact Nat.div_lt_of_lt_mul (by rw [Nat.mul_comm]; exact hx)
      have := ih (x / 128) (by omega) (i + 1) more (by omega) hx'
      rw [uvarint_big (by omega), List.cons_append, readI, hb, if_neg (by omega), if_neg (by omega), this, if_pos rfl]
      simp only [List.length_cons]
      congr 1
      omega
where toNat_u8' (x : Nat) (h : x < 256) : x.toUInt8.toNat = x := by show x % 256 = x; omega

theorem readV_uvarint (x : Nat) (more : List UInt8) (h : x < 18446744073709551616) : readV (uvarint x ++ more) = (x, (uvarint x).length, 0) :=
  readI_uvarint x 0 more (by omega) (by simpa using h)

/-- A varint is the minimal one of its word just if its last piece isn't 0, or it has one alone. -/
theorem uvarint_wordV : ∀ (k : Nat) (l : List UInt8) (c : UInt8), Cont l k → l[k]? = some c → c.toNat < 128 → l.length = k + 1 → (uvarint (wordV l) = l ↔ (k = 0 ∨ c ≠ 0)) ∧ (c ≠ 0 → 1 ≤ wordV l) ∧ (c = 0 → k = 0 → wordV l = 0)
  | 0, l, c, _, hc, h1, hl => by
    match l, hl, hc with
    | [b], _, hc =>
      simp at hc; subst hc
      have e : wordV [b] = b.toNat := by simp [wordV]; omega
      rw [e, uvarint_small h1]
      refine ⟨⟨fun _ => .inl rfl, fun _ => by simp⟩, ?_, ?_⟩
      · intro h
        rcases Nat.eq_zero_or_pos b.toNat with h0 | h0
        · exact absurd (UInt8.toNat_inj.1 (by simpa using h0)) h
        · exact h0
      · intro h _; subst h; rfl
  | k + 1, l, c, hC, hc, h1, hl => by
    match l, hl, hc, hC with
    | b :: r, hl, hc, hC =>
      have hh := hC.head
      have ih := uvarint_wordV k r c hh.2 (by simpa using hc) h1 (by simpa using hl)
      have hb := b.toNat_lt
      rw [wordV]
      refine ⟨?_, fun h => ?_, fun _ h => by omega⟩
      · by_cases h0 : wordV r = 0
        · have hc0 : c = 0 := by
            rcases Decidable.em (c = 0) with h | h
            · exact h
            · have := ih.2.1 h; omega
          rw [h0, uvarint_small (by omega)]
          constructor
          · intro h
            have := congrArg List.length h
            rw [List.length_cons, List.length_cons, List.length_nil] at this
            rw [List.length_cons] at hl
            omega
          · rintro (h | h)
            · omega
            · exact absurd hc0 h
        · have e1 : (b.toNat % 128 + 128 * wordV r) % 128 + 128 = b.toNat := by omega
          have e2 : (b.toNat % 128 + 128 * wordV r) / 128 = wordV r := by omega
          rw [uvarint_big (by omega), e1, e2]
          have e3 : b.toNat.toUInt8 = b := by simp
          rw [e3, List.cons.injEq]
          constructor
          · rintro ⟨_, h⟩
            rcases ih.1.1 h with hk | hk
            · right
              intro hc0
              exact h0 (ih.2.2 hc0 hk)
            · exact .inr hk
          · rintro (h | h)
            · omega
            · exact ⟨rfl, ih.1.2 (.inr h)⟩
      · have := ih.2.1 h
        omega

/-- All varints of any bytes, or why they end. -/
def allF : Nat → List UInt8 → List Nat × Nat
  | 0, _ => ([], 0)
  | f + 1, bs =>
    if bs = [] then ([], 0)
    else if (readV bs).2.2 ≠ 0 then ([], (readV bs).2.2)
    else if (allF f (bs.drop (readV bs).2.1)).2 ≠ 0 then ([], (allF f (bs.drop (readV bs).2.1)).2)
    else ((readV bs).1 :: (allF f (bs.drop (readV bs).2.1)).1, 0)

theorem allF_fuel : ∀ (f g : Nat) (bs : List UInt8), bs.length ≤ f → bs.length ≤ g → allF f bs = allF g bs
  | 0, g, bs, h, _ => by
    have : bs = [] := List.eq_nil_of_length_eq_zero (by omega)
    subst this
    cases g <;> simp [allF]
  | f + 1, 0, bs, _, h => by
    have : bs = [] := List.eq_nil_of_length_eq_zero (by omega)
    subst this
    simp [allF]
  | f + 1, g + 1, bs, hf, hg => by
    rw [allF, allF]
    by_cases h : bs = []
    · rw [if_pos h, if_pos h]
    · rw [if_neg h, if_neg h]
      by_cases hc : (readV bs).2.2 = 0
      · have hb := (readV_bd bs).2.2.2.2.1 hc
        have hl : 0 < bs.length := List.length_pos_iff.2 h
        have ih := allF_fuel f g (bs.drop (readV bs).2.1) (by rw [List.length_drop]; omega) (by rw [List.length_drop]; omega)
        rw [ih]
      · rw [if_pos hc, if_pos hc]

def allV (bs : List UInt8) : List Nat × Nat := allF bs.length bs

/-- Words read so far, and what the rest gives. -/
def comb (l : List Nat) (r : List Nat × Nat) : List Nat × Nat := if r.2 ≠ 0 then ([], r.2) else (l ++ r.1, 0)

theorem comb_comb (l m : List Nat) (r : List Nat × Nat) : comb l (comb m r) = comb (l ++ m) r := by
  unfold comb
  by_cases h : r.2 = 0
  · simp [h]
  · simp [h]

theorem allV_nil : allV [] = ([], 0) := rfl

theorem allF_code : ∀ (f : Nat) (bs : List UInt8), (allF f bs).2 ≠ 0 → (allF f bs).1 = []
  | 0, bs, h => by simp [allF] at h
  | f + 1, bs, h => by
    rw [allF] at h ⊢
    split
    · rfl
    · split
      · rfl
      · split
        · rfl
        · rename_i h1 h2 h3
          rw [if_neg h1, if_neg h2, if_neg h3] at h
          exact absurd rfl h

theorem comb_nil (bs : List UInt8) : comb [] (allV bs) = allV bs := by
  unfold comb
  split
  · rename_i h
    have := allF_code _ _ h
    exact Prod.ext this.symm rfl
  · rename_i h
    exact Prod.ext rfl (by simpa using (Eq.symm (by simpa using h)))

theorem allV_step {bs : List UInt8} (h : bs ≠ []) {W N : Nat} (hv : readV bs = (W, N, 0)) : allV bs = comb [W] (allV (bs.drop N)) := by
  have hl : 0 < bs.length := List.length_pos_iff.2 h
  have hb := (readV_bd bs).2.2.2.2.1 (by rw [hv])
  rw [hv] at hb
  obtain ⟨m, hm⟩ : ∃ m, bs.length = m + 1 := ⟨bs.length - 1, by omega⟩
  have e : allF m (bs.drop N) = allV (bs.drop N) := by
    unfold allV
    apply allF_fuel
    · rw [List.length_drop]; simp at hb; omega
    · exact Nat.le_refl _
  unfold allV comb
  rw [hm, allF, if_neg h, hv, if_neg (by simp), e]
  rfl

theorem allV_fail {bs : List UInt8} (h : bs ≠ []) {W N C : Nat} (hv : readV bs = (W, N, C)) (hC : C ≠ 0) : allV bs = ([], C) := by
  have hl : 0 < bs.length := List.length_pos_iff.2 h
  obtain ⟨m, hm⟩ : ∃ m, bs.length = m + 1 := ⟨bs.length - 1, by omega⟩
  unfold allV
  rw [hm, allF, if_neg h, hv, if_pos hC]

theorem comb_fail {l : List Nat} {C : Nat} (hC : C ≠ 0) : comb l ([], C) = ([], C) := by
  unfold comb
  rw [if_pos hC]

/-- Varints, one behind the other. -/
theorem allV_uvarints : ∀ (l : List Nat), (∀ x ∈ l, x < 18446744073709551616) → allV (l.flatMap uvarint) = (l, 0)
  | [], _ => rfl
  | x :: r, h => by
    have hx := h x (by simp)
    have ih := allV_uvarints r (fun y hy => h y (by simp [hy]))
    have hv := readV_uvarint x (r.flatMap uvarint) hx
    rw [List.flatMap_cons, allV_step (by simp [uvarint_ne]) hv, List.drop_left, ih]
    rfl

theorem allF_bd : ∀ (f : Nat) (bs : List UInt8), (allF f bs).2 ≤ 4 ∧ (allF f bs).1.length ≤ bs.length ∧ ∀ x ∈ (allF f bs).1, x < 18446744073709551616
  | 0, bs => by simp [allF]
  | f + 1, bs => by
    have hb := readV_bd bs
    have ih := allF_bd f (bs.drop (readV bs).2.1)
    rw [allF]
    split
    · simp
    · split
      · simp; exact hb.2.2.2.1
      · split
        · simp; exact ih.1
        · rename_i h1 h2 h3
          have h2' : (readV bs).2.2 = 0 := by simpa using h2
          have := hb.2.2.2.2.1 h2'
          have := hb.2.1
          refine ⟨by simp, ?_, ?_⟩
          · have := ih.2.1
            rw [List.length_drop] at this
            simp only [List.length_cons]
            omega
          · intro x hx
            rcases List.mem_cons.1 hx with rfl | hx
            · exact hb.1
            · exact ih.2.2 x hx

theorem cont_uvarint (x : Nat) : Cont (uvarint x) ((uvarint x).length - 1) := by
  induction x using Nat.strongRecOn with
  | _ x ih =>
    by_cases h : x < 128
    · rw [uvarint_small h]; exact Cont.zero _
    · have ih' := ih (x / 128) (by omega)
      have hp := uvarint_pos (x / 128)
      rw [uvarint_big (by omega)]
      intro j hj
      match j with
      | 0 => exact ⟨_, rfl, by show 128 ≤ (x % 128 + 128) % 256; omega⟩
      | j + 1 =>
        obtain ⟨y, hy, hb⟩ := ih' j (by simp at hj; omega)
        exact ⟨y, by simpa using hy, hb⟩

theorem readV_less (x : Nat) (h : x < 18446744073709551616) : readV ((uvarint x).take ((uvarint x).length - 1)) = (0, 0, 3) := by
  have hle := uvarint_length64 h
  refine readV_short (k := (uvarint x).length - 1) ?_ (by omega) (by rw [List.length_take]; omega)
  intro j hj
  obtain ⟨y, hy, hb⟩ := cont_uvarint x j hj
  exact ⟨y, by rw [List.getElem?_take_of_lt hj]; exact hy, hb⟩

theorem allV_less : ∀ (l : List Nat) (t : List UInt8), (∀ x ∈ l, x < 18446744073709551616) → t ≠ [] → readV t = (0, 0, 3) → allV (l.flatMap uvarint ++ t) = ([], 3)
  | [], t, _, hne, ht => by simpa using allV_fail hne ht (by decide)
  | x :: r, t, h, hne, ht => by
    have hx := h x (by simp)
    have ih := allV_less r t (fun y hy => h y (by simp [hy])) hne ht
    have hv := readV_uvarint x (r.flatMap uvarint ++ t) hx
    rw [List.flatMap_cons, List.append_assoc, allV_step (by simp [uvarint_ne]) hv, List.drop_left, ih]
    exact comb_fail (by decide)

theorem flatMap_le : ∀ (l : List Nat), (∀ x ∈ l, x < 18446744073709551616) → (l.flatMap uvarint).length ≤ 10 * l.length
  | [], _ => by simp
  | x :: r, h => by
    have := uvarint_length64 (h x (by simp))
    have := flatMap_le r (fun y hy => h y (by simp [hy]))
    rw [List.flatMap_cons, List.length_append, List.length_cons]
    omega

/-- Right tag? -/
def rightB (number wire : Int) : Bool := decide (1 ≤ number ∧ number ≤ 536870911 ∧ (wire = 0 ∨ wire = 1 ∨ wire = 2 ∨ wire = 5))

/-- The tag that any bytes begin with: number, wire type, how many bytes; the code. -/
def tagV (bs : List UInt8) : Nat × Nat × Nat × Nat :=
  if (readV bs).2.2 ≠ 0 then (0, 0, 0, (readV bs).2.2)
  else if rightB ((readV bs).1 / 8 : Nat) ((readV bs).1 % 8 : Nat) = true then ((readV bs).1 / 8, (readV bs).1 % 8, (readV bs).2.1, 0)
  else (0, 0, 0, 5)

theorem tagV_bd (bs : List UInt8) : (tagV bs).2.2.2 ≤ 5 ∧ (tagV bs).2.2.1 ≤ bs.length ∧ (tagV bs).2.2.1 ≤ 10 ∧ (tagV bs).1 ≤ 536870911 ∧ (tagV bs).2.1 ≤ 5 ∧
    ((tagV bs).2.2.2 = 0 → 1 ≤ (tagV bs).2.2.1 ∧ rightB (tagV bs).1 (tagV bs).2.1 = true) := by
  have h := readV_bd bs
  unfold tagV
  split
  · rename_i hc
    refine ⟨by show (readV bs).2.2 ≤ 5; omega, by simp, by simp, by simp, by simp, fun h0 => absurd h0 hc⟩
  · rename_i hc
    have hc : (readV bs).2.2 = 0 := by simpa using hc
    split
    · rename_i hr
      have hr' := hr
      unfold rightB at hr'
      have hd := of_decide_eq_true hr'
      refine ⟨by simp, h.2.1, h.2.2.1, ?_, ?_, fun _ => ⟨h.2.2.2.2.1 hc, hr⟩⟩
      · show (readV bs).1 / 8 ≤ _; omega
      · show (readV bs).1 % 8 ≤ _; omega
    · simp

theorem and7 (x : Nat) (h : x < 18446744073709551616) : bits BinOp.and IntKind.u64 (x : Int) 7 = (x : Int) % 8 := by
  rw [u64_and _ 7 (by omega) (by omega) (by decide) (by decide)]
  have e := nat_mask3 x
  rw [Int.toNat_natCast, show ((7 : Int)).toNat = 7 from rfl, e]; omega

theorem minimal_eq (bs : List UInt8) : (decide ((readV bs).2.2 = 0 ∧ (readV bs).2.1 = bs.length ∧ (bs.length = 1 ∨ bs.getLast? ≠ some 0))) = decide ((readV bs).2.2 = 0 ∧ (readV bs).2.1 = bs.length ∧ bs = uvarint (readV bs).1) := by
  rcases readV_cases bs with h | h | ⟨k, c, hC, hk, hc, h1, h9, h⟩
  · rw [h]; simp
  · rw [h]; simp
  · rw [h]
    by_cases hl : k + 1 = bs.length
    · have ht : bs.take (k + 1) = bs := List.take_of_length_le (by omega)
      have hu := (uvarint_wordV k bs c hC hc h1 hl.symm).1
      have hlast : bs.getLast? = some c := by rw [List.getLast?_eq_getElem?, ← hl]; exact hc
      rw [Bool.eq_iff_iff]
      simp only [decide_eq_true_eq, true_and, ht, hlast]
      constructor
      · rintro ⟨_, h⟩
        refine ⟨hl, (hu.2 ?_).symm⟩
        rcases h with h | h
        · left; omega
        · right; intro h0; exact h (by rw [h0])
      · rintro ⟨_, h⟩
        refine ⟨hl, ?_⟩
        rcases hu.1 h.symm with h | h
        · left; omega
        · right; intro h0; exact h (by simpa using h0)
    · rw [Bool.eq_iff_iff]
      simp only [decide_eq_true_eq, true_and]
      constructor
      · rintro ⟨h, _⟩; exact absurd h hl
      · rintro ⟨h, _⟩; exact absurd h hl

end Go.Proofs.YtlhbllaojjelcaaDoor

/- Plain laws of layer 5: records. No program is named. -/
namespace Go.Proofs.YtlhbllaojjelcaaDoor
open Go.RowKit Go.Lib
set_option linter.unusedVariables false

/-- The value at the head of bytes: how many bytes stand ahead, how many it has; the code. -/
def sizeV (wire : Nat) (bs : List UInt8) : Nat × Nat × Nat :=
  if wire = 0 then (0, (readV bs).2.1, (readV bs).2.2)
  else if wire = 1 then (0, 8, 0)
  else if wire = 5 then (0, 4, 0)
  else ((readV bs).2.1, (readV bs).1, (readV bs).2.2)

theorem sizeV_bd (wire : Nat) (bs : List UInt8) : (sizeV wire bs).1 ≤ bs.length ∧ (sizeV wire bs).1 ≤ 10 ∧ (sizeV wire bs).2.1 < 18446744073709551616 ∧ (sizeV wire bs).2.2 ≤ 4 := by
  have h := readV_bd bs
  unfold sizeV
  split
  · exact ⟨by simp, by simp, by simp only; omega, h.2.2.2.1⟩
  · split
    · simp
    · split
      · simp
      · exact ⟨h.2.1, h.2.2.1, h.1, h.2.2.2.1⟩

structure Rec where
  n : Nat
  w : Nat
  f : Nat
  a : Nat
  t : Nat
  deriving DecidableEq

def Rec.zero : Rec := ⟨0, 0, 0, 0, 0⟩

/-- The record at the head of bytes: number, wire type, where its value begins, where it ends; the code. -/
def headV (bs : List UInt8) : Nat × Nat × Nat × Nat × Nat :=
  if (tagV bs).2.2.2 ≠ 0 then (0, 0, 0, 0, (tagV bs).2.2.2)
  else if (sizeV (tagV bs).2.1 (bs.drop (tagV bs).2.2.1)).2.2 ≠ 0 then (0, 0, 0, 0, (sizeV (tagV bs).2.1 (bs.drop (tagV bs).2.2.1)).2.2)
  else if bs.length - ((tagV bs).2.2.1 + (sizeV (tagV bs).2.1 (bs.drop (tagV bs).2.2.1)).1) < (sizeV (tagV bs).2.1 (bs.drop (tagV bs).2.2.1)).2.1 then (0, 0, 0, 0, 3)
  else ((tagV bs).1, (tagV bs).2.1, (tagV bs).2.2.1 + (sizeV (tagV bs).2.1 (bs.drop (tagV bs).2.2.1)).1, (tagV bs).2.2.1 + (sizeV (tagV bs).2.1 (bs.drop (tagV bs).2.2.1)).1 + (sizeV (tagV bs).2.1 (bs.drop (tagV bs).2.2.1)).2.1, 0)

theorem headV_tag {bs : List UInt8} {T V N C : Nat} (h : tagV bs = (T, V, N, C)) (hC : C ≠ 0) : headV bs = (0, 0, 0, 0, C) := by
  unfold headV; rw [h]; rw [if_pos hC]

theorem headV_size {bs : List UInt8} {T V N a g C : Nat} (h : tagV bs = (T, V, N, 0)) (hs : sizeV V (bs.drop N) = (a, g, C)) (hC : C ≠ 0) : headV bs = (0, 0, 0, 0, C) := by
  unfold headV; rw [h]; simp only; rw [hs, if_neg (by simp), if_pos hC]

theorem headV_short {bs : List UInt8} {T V N a g : Nat} (h : tagV bs = (T, V, N, 0)) (hs : sizeV V (bs.drop N) = (a, g, 0)) (hl : bs.length - (N + a) < g) : headV bs = (0, 0, 0, 0, 3) := by
  unfold headV; rw [h]; simp only; rw [hs, if_neg (by simp), if_neg (by simp), if_pos hl]

theorem headV_ok {bs : List UInt8} {T V N a g : Nat} (h : tagV bs = (T, V, N, 0)) (hs : sizeV V (bs.drop N) = (a, g, 0)) (hl : ¬ bs.length - (N + a) < g) : headV bs = (T, V, N + a, N + a + g, 0) := by
  unfold headV; rw [h]; simp only; rw [hs, if_neg (by simp), if_neg (by simp), if_neg hl]

def shiftR (p : Nat) (h : Nat × Nat × Nat × Nat × Nat) : Rec × Nat := if h.2.2.2.2 = 0 then (⟨h.1, h.2.1, p, p + h.2.2.1, p + h.2.2.2.1⟩, 0) else (Rec.zero, h.2.2.2.2)

/-- The record at a place among bytes; the code. -/
def nextV (bs : List UInt8) (p : Nat) : Rec × Nat := shiftR p (headV (bs.drop p))

def nextI (bs : List UInt8) (p : Int) : Rec × Nat := if p < 0 ∨ (bs.length : Int) ≤ p then (Rec.zero, 2) else nextV bs p.toNat

/-- What a record's head says. -/
theorem headV_cases (bs : List UInt8) : (∃ C, headV bs = (0, 0, 0, 0, C) ∧ C ≠ 0 ∧ C ≤ 5) ∨
    ∃ T V N a g, tagV bs = (T, V, N, 0) ∧ sizeV V (bs.drop N) = (a, g, 0) ∧ N + a + g ≤ bs.length ∧ 1 ≤ N ∧ headV bs = (T, V, N + a, N + a + g, 0) := by
  rcases ht : tagV bs with ⟨T, V, N, C⟩
  have tb := tagV_bd bs
  rw [ht] at tb
  simp only at tb
  by_cases hC : C = 0
  · subst hC
    rcases hs : sizeV V (bs.drop N) with ⟨a, g, D⟩
    have sb := sizeV_bd V (bs.drop N)
    rw [hs, List.length_drop] at sb
    simp only at sb
    by_cases hD : D = 0
    · subst hD
      by_cases hl : bs.length - (N + a) < g
      · exact .inl ⟨3, headV_short ht hs hl, by omega, by omega⟩
      · refine .inr ⟨T, V, N, a, g, rfl, hs, by omega, ?_, headV_ok ht hs hl⟩
        have := tb.2.2.2.2.2 rfl
        omega
    · exact .inl ⟨D, headV_size ht hs hD, hD, by omega⟩
  · exact .inl ⟨C, headV_tag ht hC, hC, tb.1⟩

theorem headV_bd {bs : List UInt8} {T V a t : Nat} (h : headV bs = (T, V, a, t, 0)) : 1 ≤ a ∧ a ≤ t ∧ t ≤ bs.length := by
  rcases headV_cases bs with ⟨C, h1, h2, _⟩ | ⟨T', V', N, a', g, _, _, h3, h4, h5⟩
  · rw [h] at h1; simp only [Prod.mk.injEq] at h1; exact absurd h1.2.2.2.2.symm h2
  · rw [h] at h5; simp only [Prod.mk.injEq] at h5; omega

theorem headV_le (bs : List UInt8) : (headV bs).2.2.2.2 ≤ 5 := by
  rcases headV_cases bs with ⟨C, h1, _, h2⟩ | ⟨T', V', N, a', g, _, _, h3, h4, h5⟩
  · rw [h1]; exact h2
  · rw [h5]; simp

theorem nextV_ok {bs : List UInt8} {p : Nat} {r : Rec} (h : nextV bs p = (r, 0)) : headV (bs.drop p) = (r.n, r.w, r.a - p, r.t - p, 0) ∧ r.f = p ∧ p < r.a ∧ r.a ≤ r.t ∧ r.t ≤ bs.length := by
  unfold nextV shiftR at h
  by_cases hc : (headV (bs.drop p)).2.2.2.2 = 0
  · rw [if_pos hc] at h
    simp only [Prod.mk.injEq, and_true] at h
    rcases hh : headV (bs.drop p) with ⟨T, V, a, t, C⟩
    rw [hh] at h hc
    simp only at h hc
    subst hc
    have hb := headV_bd hh
    rw [List.length_drop] at hb
    subst h
    simp only
    refine ⟨by simp, trivial, by omega, by omega, by omega⟩
  · rw [if_neg hc] at h
    simp only [Prod.mk.injEq] at h
    exact absurd h.2 hc

theorem nextV_le (bs : List UInt8) (p : Nat) : (nextV bs p).2 ≤ 5 := by
  unfold nextV shiftR
  have := headV_le (bs.drop p)
  split
  · simp
  · exact this

theorem nextV_zero {bs : List UInt8} {p : Nat} (h : (nextV bs p).2 ≠ 0) : (nextV bs p).1 = Rec.zero := by
  unfold nextV shiftR at h ⊢
  split at h
  · simp at h
  · rename_i hc; rw [if_neg hc]

theorem nextV_onward (bs : List UInt8) : Onward (nextV bs) Rec.t bs.length := by
  intro p hp hc
  have := nextV_ok (bs := bs) (p := p) (r := (nextV bs p).1) (by rw [← hc])
  omega

/-- All records, or where and why they end. -/
def splitV (bs : List UInt8) : List Rec × Nat × Nat := scan (nextV bs) Rec.t bs.length 0

end Go.Proofs.YtlhbllaojjelcaaDoor

/- Plain laws of layer 5: records of bytes behind others; a record put alone. No program is named. -/
namespace Go.Proofs.YtlhbllaojjelcaaDoor
open Go.RowKit Go.Lib
set_option linter.unusedVariables false

theorem Cont.append {bs : List UInt8} {k : Nat} (h : Cont bs k) (more : List UInt8) : Cont (bs ++ more) k := fun j hj => by
  obtain ⟨x, hx, hb⟩ := h j hj
  exact ⟨x, by rw [List.getElem?_append_left (List.getElem?_eq_some_iff.1 hx).1]; exact hx, hb⟩

theorem Cont.taken {bs : List UInt8} {k m : Nat} (h : Cont bs k) (hm : k ≤ m) : Cont (bs.take m) k := fun j hj => by
  obtain ⟨x, hx, hb⟩ := h j hj
  exact ⟨x, by rw [List.getElem?_take_of_lt (by omega)]; exact hx, hb⟩

/-- Bytes behind a varint play no part. -/
theorem readV_append {bs : List UInt8} {W N : Nat} (h : readV bs = (W, N, 0)) (more : List UInt8) : readV (bs ++ more) = (W, N, 0) := by
  rcases readV_cases bs with h1 | h1 | ⟨k, c, hC, hk, hc, h128, h9, h1⟩
  · rw [h1] at h; cases h
  · rw [h1] at h; cases h
  · have hlt := (List.getElem?_eq_some_iff.1 hc).1
    have h2 := readV_done (bs := bs ++ more) (hC.append more) hk (by rw [List.getElem?_append_left hlt]; exact hc) h128 h9
    rw [h2, ← h, h1, List.take_append_of_le_length (by omega)]

theorem readV_take {bs : List UInt8} {W N : Nat} (h : readV bs = (W, N, 0)) : readV (bs.take N) = (W, N, 0) := by
  rcases readV_cases bs with h1 | h1 | ⟨k, c, hC, hk, hc, h128, h9, h1⟩
  · rw [h1] at h; cases h
  · rw [h1] at h; cases h
  · rw [h1] at h
    simp only [Prod.mk.injEq, and_true] at h
    obtain ⟨rfl, rfl⟩ := h
    have h2 := readV_done (bs := bs.take (k + 1)) (hC.taken (by omega)) hk (by rw [List.getElem?_take_of_lt (by omega)]; exact hc) h128 h9
    rw [h2, List.take_take, Nat.min_self]

theorem uvarint_le : ∀ (k x : Nat), x < 128 ^ (k + 1) → (uvarint x).length ≤ k + 1
  | 0, x, h => by rw [uvarint_small (by simpa using h)]; simp
  | k + 1, x, h => by
    by_cases hx : x < 128
    · rw [uvarint_small hx]; simp
    · rw [uvarint_big (by omega), List.length_cons]
      have := uvarint_le k (x / 128) (by rw [Nat.div_lt_iff_lt_mul (by decide)]; rw [Nat.pow_succ] at h; exact h)
      omega

/-- A varint's word has no shorter bytes than its minimal ones. -/
theorem readV_minimal {bs : List UInt8} {W N : Nat} (h : readV bs = (W, N, 0)) : (uvarint W).length ≤ N := by
  rcases readV_cases bs with h1 | h1 | ⟨k, c, hC, hk, hc, h128, h9, h1⟩
  · rw [h1] at h; cases h
  · rw [h1] at h; cases h
  · rw [h1] at h
    simp only [Prod.mk.injEq, and_true] at h
    obtain ⟨rfl, rfl⟩ := h
    have hlt := (List.getElem?_eq_some_iff.1 hc).1
    have := wordV_lt (bs.take (k + 1))
    rw [List.length_take, Nat.min_eq_left (by omega)] at this
    exact uvarint_le k _ this

theorem tagV_inv {bs : List UInt8} {T V N : Nat} (h : tagV bs = (T, V, N, 0)) : ∃ W, readV bs = (W, N, 0) ∧ W / 8 = T ∧ W % 8 = V ∧ rightB (T : Int) (V : Int) = true := by
  rcases hv : readV bs with ⟨W, M, C⟩
  unfold tagV at h
  rw [hv] at h
  simp only at h
  by_cases hC : C = 0
  · subst hC
    rw [if_neg (by simp)] at h
    by_cases hr : rightB ((W / 8 : Nat) : Int) ((W % 8 : Nat) : Int) = true
    · rw [if_pos hr] at h
      simp only [Prod.mk.injEq, and_true] at h
      obtain ⟨rfl, rfl, rfl⟩ := h
      exact ⟨W, rfl, rfl, rfl, hr⟩
    · rw [if_neg hr] at h
      simp at h
  · rw [if_pos hC] at h
    simp only [Prod.mk.injEq] at h
    exact absurd h.2.2.2 hC

theorem tagV_of {bs : List UInt8} {W N : Nat} (h : readV bs = (W, N, 0)) (hr : rightB ((W / 8 : Nat) : Int) ((W % 8 : Nat) : Int) = true) : tagV bs = (W / 8, W % 8, N, 0) := by
  unfold tagV; rw [h]; simp only; rw [if_neg (by simp), if_pos hr]

theorem tagV_append {bs : List UInt8} {T V N : Nat} (h : tagV bs = (T, V, N, 0)) (more : List UInt8) : tagV (bs ++ more) = (T, V, N, 0) := by
  obtain ⟨W, hv, rfl, rfl, hr⟩ := tagV_inv h
  exact tagV_of (readV_append hv more) hr

theorem sizeV_append {V : Nat} {bs : List UInt8} {a g : Nat} (h : sizeV V bs = (a, g, 0)) (more : List UInt8) : sizeV V (bs ++ more) = (a, g, 0) := by
  have key : (readV bs).2.2 = 0 → readV (bs ++ more) = readV bs := by
    intro h0
    rcases hv : readV bs with ⟨W, N, C⟩
    rw [hv] at h0
    simp only at h0
    subst h0
    exact readV_append hv more
  unfold sizeV at h ⊢
  by_cases e0 : V = 0
  · rw [if_pos e0] at h ⊢
    rw [key (by simpa using congrArg (fun x => x.2.2) h)]
    exact h
  · rw [if_neg e0] at h ⊢
    by_cases e1 : V = 1
    · rw [if_pos e1] at h ⊢; exact h
    · rw [if_neg e1] at h ⊢
      by_cases e5 : V = 5
      · rw [if_pos e5] at h ⊢; exact h
      · rw [if_neg e5] at h ⊢
        rw [key (by simpa using congrArg (fun x => x.2.2) h)]
        exact h

/-- Bytes behind a record play no part. -/
theorem headV_append {bs : List UInt8} {T V a t : Nat} (h : headV bs = (T, V, a, t, 0)) (more : List UInt8) : headV (bs ++ more) = (T, V, a, t, 0) := by
  rcases headV_cases bs with ⟨C, h1, h2, _⟩ | ⟨T', V', N, a', g, h1, h2, h3, h4, h5⟩
  · rw [h1] at h; simp only [Prod.mk.injEq] at h; exact absurd h.2.2.2.2 h2
  · rw [h5] at h
    rw [← h]
    have hN : N ≤ bs.length := by omega
    exact headV_ok (tagV_append h1 more) (by rw [List.drop_append_of_le_length hN]; exact sizeV_append h2 more) (by rw [List.length_append]; omega)

def Rec.shift (k : Nat) (r : Rec) : Rec := ⟨r.n, r.w, r.f + k, r.a + k, r.t + k⟩

theorem nextV_left {a : List UInt8} {p : Nat} {r : Rec} (hp : p < a.length) (h : nextV a p = (r, 0)) (b : List UInt8) : nextV (a ++ b) p = (r, 0) := by
  obtain ⟨h1, hf, h2⟩ := nextV_ok h
  have h3 := headV_append h1 b
  rw [← List.drop_append_of_le_length (by omega)] at h3
  unfold nextV
  rw [h3]
  obtain ⟨rn, rw_, rf, ra, rt⟩ := r
  simp only at h2 hf
  simp [shiftR]
  omega

theorem nextV_right (a b : List UInt8) (q : Nat) : nextV (a ++ b) (a.length + q) = (if (nextV b q).2 = 0 then (nextV b q).1.shift a.length else Rec.zero, (nextV b q).2) := by
  unfold nextV
  have : (a ++ b).drop (a.length + q) = b.drop q := by rw [List.drop_append, List.drop_of_length_le (by omega)]; simp
  rw [this]
  unfold shiftR
  by_cases h : (headV (b.drop q)).2.2.2.2 = 0
  · simp only [if_pos h, if_true, Rec.shift]
    congr 2 <;> omega
  · simp only [if_neg h]

theorem scan_left (a b : List UInt8) : ∀ (m p : Nat), a.length - p ≤ m → p ≤ a.length → (scan (nextV a) Rec.t a.length p).2.2 = 0 →
    scan (nextV (a ++ b)) Rec.t (a ++ b).length p = pre (scan (nextV a) Rec.t a.length p).1 (scan (nextV (a ++ b)) Rec.t (a ++ b).length a.length) := by
  intro m
  induction m with
  | zero =>
    intro p hm hp h0
    obtain rfl : p = a.length := by omega
    rw [scan_end (step := nextV a) (Nat.le_refl _), pre_scan (nextV_onward _)]
  | succ m ih =>
    intro p hm hp h0
    by_cases he : p = a.length
    · subst he
      rw [scan_end (step := nextV a) (Nat.le_refl _), pre_scan (nextV_onward _)]
    · rcases hs : nextV a p with ⟨r, C⟩
      have hlt : p < a.length := by omega
      by_cases hC : C = 0
      · subst hC
        have h1 := nextV_onward a p hlt (by rw [hs])
        rw [hs] at h1
        simp only at h1
        have hok := scan_ok (nextV_onward a) hlt hs
        have hok2 := scan_ok (nextV_onward (a ++ b)) (p := p) (by rw [List.length_append]; omega) (nextV_left hlt hs b)
        rw [hok] at h0
        have h00 : (scan (nextV a) Rec.t a.length r.t).2.2 = 0 := by
          unfold pre at h0
          by_cases h : (scan (nextV a) Rec.t a.length r.t).2.2 = 0
          · exact h
          · rw [if_neg h] at h0; exact h0
        rw [hok, hok2, ih r.t (by omega) h1.2 h00, pre_pre]
        unfold pre
        rw [if_pos h00]
      · rw [scan_fail hlt hs hC] at h0
        exact absurd h0 hC

theorem scan_right (a b : List UInt8) : ∀ (m q : Nat), b.length - q ≤ m → q ≤ b.length →
    scan (nextV (a ++ b)) Rec.t (a ++ b).length (a.length + q) = ((scan (nextV b) Rec.t b.length q).1.map (Rec.shift a.length), (if (scan (nextV b) Rec.t b.length q).2.2 = 0 then 0 else a.length + (scan (nextV b) Rec.t b.length q).2.1), (scan (nextV b) Rec.t b.length q).2.2) := by
  intro m
  induction m with
  | zero =>
    intro q hm hq
    rw [scan_end (by rw [List.length_append]; omega), scan_end (by omega)]
    rfl
  | succ m ih =>
    intro q hm hq
    by_cases he : q = b.length
    · subst he
      rw [scan_end (by rw [List.length_append]; omega), scan_end (by omega)]
      rfl
    · rcases hs : nextV b q with ⟨r, C⟩
      have hlt : q < b.length := by omega
      have hr := nextV_right a b q
      rw [hs] at hr
      simp only at hr
      by_cases hC : C = 0
      · subst hC
        rw [if_pos rfl] at hr
        have h1 := nextV_onward b q hlt (by rw [hs])
        rw [hs] at h1
        simp only at h1
        have hok := scan_ok (nextV_onward b) hlt hs
        have hok2 := scan_ok (nextV_onward (a ++ b)) (p := a.length + q) (by rw [List.length_append]; omega) hr
        rw [hok, hok2]
        have := ih r.t (by omega) h1.2
        rw [show (r.shift a.length).t = a.length + r.t from by simp [Rec.shift]; omega, this]
        unfold pre
        by_cases h0 : (scan (nextV b) Rec.t b.length r.t).2.2 = 0
        · simp [h0]
        · simp [h0]
      · rw [scan_fail hlt hs hC, scan_fail (by rw [List.length_append]; omega) hr hC]
        simp [hC]

/-- Records of bytes behind other records are theirs, each so much further on. -/
theorem splitV_append {a b : List UInt8} (h : (splitV a).2.2 = 0) :
    splitV (a ++ b) = if (splitV b).2.2 = 0 then ((splitV a).1 ++ (splitV b).1.map (Rec.shift a.length), 0, 0) else ([], a.length + (splitV b).2.1, (splitV b).2.2) := by
  have hr := scan_right a b b.length 0 (by omega) (by omega)
  rw [Nat.add_zero] at hr
  unfold splitV at h ⊢
  rw [scan_left a b a.length 0 (by omega) (by omega) h, hr]
  unfold pre
  by_cases h0 : (scan (nextV b) Rec.t b.length 0).2.2 = 0
  · simp [h0]
  · simp [h0]

theorem splitV_all (bs : List UInt8) : ∀ r ∈ (splitV bs).1, r.f < r.a ∧ r.a ≤ r.t ∧ r.t ≤ bs.length :=
  scan_all (nextV_onward bs) (fun p x hp h => by have := nextV_ok h; omega) bs.length 0 (by omega)

end Go.Proofs.YtlhbllaojjelcaaDoor

/- Plain laws of layer 6: kinds. No program is named. -/
namespace Go.Proofs.YtlhbllaojjelcaaDoor
open Go.RowKit
set_option linter.unusedVariables false

/-- The kinds: their numbers, names, wire types, and how many bits their words have. -/
def formL : List (Int × ByteArray × Int × Int) := [
  (1, ⟨#[105, 110, 116, 51, 50]⟩, 0, 32),
  (2, ⟨#[105, 110, 116, 54, 52]⟩, 0, 64),
  (3, ⟨#[117, 105, 110, 116, 51, 50]⟩, 0, 32),
  (4, ⟨#[117, 105, 110, 116, 54, 52]⟩, 0, 64),
  (5, ⟨#[115, 105, 110, 116, 51, 50]⟩, 0, 32),
  (6, ⟨#[115, 105, 110, 116, 54, 52]⟩, 0, 64),
  (7, ⟨#[98, 111, 111, 108]⟩, 0, 1),
  (8, ⟨#[101, 110, 117, 109]⟩, 0, 32),
  (9, ⟨#[102, 105, 120, 101, 100, 51, 50]⟩, 5, 32),
  (10, ⟨#[115, 102, 105, 120, 101, 100, 51, 50]⟩, 5, 32),
  (11, ⟨#[102, 108, 111, 97, 116]⟩, 5, 32),
  (12, ⟨#[102, 105, 120, 101, 100, 54, 52]⟩, 1, 64),
  (13, ⟨#[115, 102, 105, 120, 101, 100, 54, 52]⟩, 1, 64),
  (14, ⟨#[100, 111, 117, 98, 108, 101]⟩, 1, 64),
  (15, ⟨#[115, 116, 114, 105, 110, 103]⟩, 2, 0),
  (16, ⟨#[98, 121, 116, 101, 115]⟩, 2, 0),
  (17, ⟨#[109, 101, 115, 115, 97, 103, 101]⟩, 2, 0)]

/-- A form as the program holds it. -/
def formV (p : ByteArray × Int × Int) : Value := .agg #[.string p.1, .int .i64 p.2.1, .int .i64 p.2.2]

def formsM : List (Int × Value) := formL.map fun p => (p.1, formV p.2)

/-- The form of a kind; of none: nothing. -/
def formOf (k : Int) : ByteArray × Int × Int := ((formL.find? fun p => decide (k = p.1)).map (·.2)).getD (⟨#[]⟩, 0, 0)

theorem valI_map (k : Int) : ∀ (l : List (Int × ByteArray × Int × Int)), valI k (l.map fun p => (p.1, formV p.2)) = ((l.find? fun p => decide (k = p.1)).map (·.2)).map formV
  | [] => rfl
  | p :: r => by
    rw [List.map_cons, valI, List.find?_cons]
    by_cases h : k = p.1
    · rw [if_pos h, decide_eq_true h]; rfl
    · rw [if_neg h, decide_eq_false h]; exact valI_map k r

theorem valI_forms (k : Int) : (valI k formsM).getD (formV (⟨#[]⟩, 0, 0)) = formV (formOf k) := by
  unfold formsM formOf
  rw [valI_map]
  generalize (formL.find? fun p => decide (k = p.1)).map (·.2) = o
  cases o <;> rfl

/-- Right kind? -/
def kindB (k : Int) : Bool := decide (1 ≤ k ∧ k ≤ 17)

theorem kind_cases {k : Int} (h : 1 ≤ k ∧ k ≤ 17) : k = 1 ∨ k = 2 ∨ k = 3 ∨ k = 4 ∨ k = 5 ∨ k = 6 ∨ k = 7 ∨ k = 8 ∨ k = 9 ∨ k = 10 ∨ k = 11 ∨ k = 12 ∨ k = 13 ∨ k = 14 ∨ k = 15 ∨ k = 16 ∨ k = 17 := by omega

theorem form_none {k : Int} (h : ¬ (1 ≤ k ∧ k ≤ 17)) : (formL.find? fun p => decide (k = p.1)) = none := by
  rw [List.find?_eq_none]
  intro p hp
  have : 1 ≤ p.1 ∧ p.1 ≤ 17 := by
    have hall : ∀ p ∈ formL, 1 ≤ p.1 ∧ p.1 ≤ 17 := by decide
    exact hall p hp
  simp only [decide_eq_true_eq]
  omega

theorem valI_some (k : Int) : (valI k formsM).isSome = kindB k := by
  unfold formsM
  rw [valI_map, Option.isSome_map, Option.isSome_map]
  by_cases h : 1 ≤ k ∧ k ≤ 17
  · have e : kindB k = true := decide_eq_true h
    rw [e]
    rcases kind_cases h with h | h | h | h | h | h | h | h | h | h | h | h | h | h | h | h | h <;> subst h <;> decide
  · have e : kindB k = false := decide_eq_false h
    rw [form_none h, e]; rfl

/-- Wire type of a kind. -/
def wireI (k : Int) : Int := if k ≤ 8 then 0 else if k ≤ 11 then 5 else if k ≤ 14 then 1 else 2

theorem formOf_wire {k : Int} (h : 1 ≤ k ∧ k ≤ 17) : (formOf k).2.1 = wireI k := by
  rcases kind_cases h with h | h | h | h | h | h | h | h | h | h | h | h | h | h | h | h | h <;> subst h <;> decide

theorem formOf_none {k : Int} (h : ¬ (1 ≤ k ∧ k ≤ 17)) : formOf k = (⟨#[]⟩, 0, 0) := by
  unfold formOf
  rw [form_none h]; rfl

/-- Number's kind? -/
def numberB (k : Int) : Bool := decide (1 ≤ k ∧ k ≤ 14)

/-- The canonical word of a number's kind. -/
def canonN (k : Int) (w : Nat) : Nat :=
  if k = 1 ∨ k = 8 then (wideI (sign32I w)).toNat
  else if k = 7 then (if w = 0 then 0 else 1)
  else if k = 3 ∨ k = 5 ∨ k = 9 ∨ k = 10 ∨ k = 11 then w % 4294967296
  else w

theorem formOf_bits {k : Int} (h : 1 ≤ k ∧ k ≤ 14) : ((formOf k).2.2 = 32 ↔ (k = 1 ∨ k = 3 ∨ k = 5 ∨ k = 8 ∨ k = 9 ∨ k = 10 ∨ k = 11)) := by
  rcases kind_cases (k := k) ⟨h.1, by omega⟩ with h | h | h | h | h | h | h | h | h | h | h | h | h | h | h | h | h <;> subst h <;> first | decide | omega

theorem sign32I_wide_lt (w : Nat) : 0 ≤ wideI (sign32I w) ∧ wideI (sign32I w) < 18446744073709551616 := by
  have := sign32I_bd w
  exact wideI_bd _ (by omega) (by omega)

theorem canonN_lt (k : Int) {w : Nat} (h : w < 18446744073709551616) : canonN k w < 18446744073709551616 := by
  have := sign32I_wide_lt w
  unfold canonN
  split
  · omega
  · split
    · split <;> omega
    · split <;> omega

/-- A word as a number of two's complement. -/
def twosI (w : Nat) : Int := if w < 9223372036854775808 then (w : Int) else (w : Int) - 18446744073709551616

/-- What a word means, signed; whether the kind is signed. -/
def signedI (k : Int) (w : Nat) : Int :=
  if k = 1 ∨ k = 8 ∨ k = 10 then sign32I w
  else if k = 2 ∨ k = 13 then twosI w
  else if k = 5 then zagI (w % 4294967296)
  else if k = 6 then zagI w
  else 0

def signedB (k : Int) : Bool := decide (k = 1 ∨ k = 8 ∨ k = 10 ∨ k = 2 ∨ k = 13 ∨ k = 5 ∨ k = 6)

theorem number_kind {k : Int} (h : numberB k = true) : 1 ≤ k ∧ k ≤ 14 := of_decide_eq_true h

theorem signed_number {k : Int} (h : numberB k = false) (x : Nat) : signedB k = false ∧ signedI k x = 0 := by
  have hn : ¬ (1 ≤ k ∧ k ≤ 14) := of_decide_eq_false h
  constructor
  · exact decide_eq_false (by omega)
  · unfold signedI
    rw [if_neg (by omega), if_neg (by omega), if_neg (by omega), if_neg (by omega)]

theorem canonN_stays {k : Int} {x : Nat} (hx : x < 18446744073709551616) : canonN k (canonN k x) = canonN k x ∧ signedI k (canonN k x) = signedI k x := by
  have key : ((wideI (sign32I x)).toNat : Int) = wideI (sign32I x) := by have := sign32I_wide_lt x; omega
  have e1 : sign32I ((wideI (sign32I x)).toNat : Int) = sign32I x := by
    rw [key]
    unfold wideI sign32I
    repeat' split
    all_goals omega
  unfold canonN signedI
  by_cases h1 : k = 1 ∨ k = 8
  · simp only [if_pos h1, e1]
    refine ⟨trivial, ?_⟩
    rw [if_pos (by omega), if_pos (by omega)]
  · by_cases h7 : k = 7
    · subst h7
      simp only [if_neg h1]
      by_cases h0 : x = 0
      · subst h0; simp
      · simp [h0]
    · by_cases h3 : k = 3 ∨ k = 5 ∨ k = 9 ∨ k = 10 ∨ k = 11
      · simp only [if_neg h1, if_neg h7, if_pos h3]
        refine ⟨Nat.mod_mod _ _, ?_⟩
        have a1 : (((x % 4294967296 : Nat) : Nat) : Int) = (x : Int) % 4294967296 := by omega
        rcases h3 with h | h | h | h | h
        · subst h; simp
        · subst h; simp [a1]
        · subst h; simp
        · subst h
          rw [if_pos (by decide), if_pos (by decide), a1]
          unfold sign32I
          split <;> split <;> omega
        · subst h; simp
      · simp only [if_neg h1, if_neg h7, if_neg h3]
        trivial

/-- The name of the kind k's number; 0: no kind has it. -/
def isKind (s : ByteArray) (K : Nat) : Prop := K ≤ 17 ∧ ∀ j : Nat, 1 ≤ j → j ≤ 17 → ((formOf (j : Nat)).1 = s ↔ j = K)

theorem names_inj {j k : Nat} (h1 : 1 ≤ j) (h2 : j ≤ 17) (h3 : 1 ≤ k) (h4 : k ≤ 17) (h : (formOf (j : Nat)).1 = (formOf (k : Nat)).1) : j = k := by
  have hall : ∀ a ∈ (List.range 17), ∀ b ∈ (List.range 17), (formOf ((a + 1 : Nat) : Int)).1.data.toList = (formOf ((b + 1 : Nat) : Int)).1.data.toList → a = b := by decide +kernel
  have := hall (j - 1) (by simp; omega) (k - 1) (by simp; omega) (by rw [show j - 1 + 1 = j by omega, show k - 1 + 1 = k by omega, h])
  omega

theorem isKind_name {k : Nat} (h3 : 1 ≤ k) (h4 : k ≤ 17) : isKind (formOf (k : Nat)).1 k :=
  ⟨h4, fun j h1 h2 => ⟨fun h => names_inj h1 h2 h3 h4 h, fun h => by rw [h]⟩⟩

theorem isKind_has (s : ByteArray) : ∃ K, isKind s K := by
  by_cases h : ∃ k : Nat, 1 ≤ k ∧ k ≤ 17 ∧ (formOf (k : Nat)).1 = s
  · obtain ⟨k, h1, h2, rfl⟩ := h
    exact ⟨k, isKind_name h1 h2⟩
  · refine ⟨0, by omega, fun j h1 h2 => ⟨fun e => absurd ⟨j, h1, h2, e⟩ h, fun e => by omega⟩⟩

end Go.Proofs.YtlhbllaojjelcaaDoor

/- Plain laws of layer 8: scalars. No program is named. -/
namespace Go.Proofs.YtlhbllaojjelcaaDoor
open Go.RowKit Go.Lib
set_option linter.unusedVariables false

/-- The canonical bytes of a word of a number's kind. -/
def putS (k : Int) (w : Nat) : List UInt8 := if 12 ≤ k then littleB 8 (canonN k w) else if 9 ≤ k then littleB 4 (canonN k w) else uvarint (canonN k w)

/-- The word of bytes of a kind; the code. -/
def readS (k : Int) (bs : List UInt8) : Nat × Nat :=
  if numberB k = false then (0, 2)
  else if 12 ≤ k then (if bs.length = 8 then (canonN k (wordN bs), 0) else (0, 12))
  else if 9 ≤ k then (if bs.length = 4 then (canonN k (wordN bs), 0) else (0, 12))
  else (if (readV bs).2.2 = 0 ∧ (readV bs).2.1 = bs.length then (canonN k (readV bs).1, 0) else (0, 12))

def canonB (k : Int) (bs : List UInt8) : Bool := decide ((readS k bs).2 = 0 ∧ bs = putS k (readS k bs).1)

theorem putS_length {k : Int} {w : Nat} (hw : w < 18446744073709551616) : 1 ≤ (putS k w).length ∧ (putS k w).length ≤ 10 := by
  unfold putS
  split
  · rw [littleB_length]; omega
  · split
    · rw [littleB_length]; omega
    · exact ⟨uvarint_pos _, uvarint_length64 (canonN_lt k hw)⟩

theorem readS_bd (k : Int) (bs : List UInt8) : (readS k bs).1 < 18446744073709551616 ∧ (readS k bs).2 ≤ 12 := by
  have h := (readV_bd bs).1
  unfold readS
  split
  · simp
  · split
    · split
      · rename_i hl
        have := wordN_lt bs
        rw [hl] at this
        exact ⟨canonN_lt k (by simpa using this), by simp⟩
      · simp
    · split
      · split
        · rename_i hl
          have := wordN_lt bs
          rw [hl] at this
          exact ⟨canonN_lt k (Nat.lt_of_lt_of_le this (by decide)), by simp⟩
        · simp
      · split
        · exact ⟨canonN_lt k h, by simp⟩
        · simp

theorem readS_canon (k : Int) (bs : List UInt8) : canonN k (readS k bs).1 = (readS k bs).1 := by
  have h := (readV_bd bs).1
  have h0 : canonN k 0 = 0 := by
    have := canonN_stays (k := k) (x := 0) (by decide)
    unfold canonN wideI sign32I
    repeat' split
    all_goals simp_all
  have hw : ∀ x : Nat, x < 18446744073709551616 → canonN k (canonN k x) = canonN k x := fun x hx => (canonN_stays hx).1
  unfold readS
  split
  · exact h0
  · split
    · split
      · rename_i hl
        have := wordN_lt bs
        rw [hl] at this
        exact hw _ (by simpa using this)
      · exact h0
    · split
      · split
        · rename_i hl
          have := wordN_lt bs
          rw [hl] at this
          exact hw _ (Nat.lt_of_lt_of_le this (by decide))
        · exact h0
      · split
        · exact hw _ h
        · exact h0

theorem canonN_32 {k : Int} (h1 : 9 ≤ k) (h2 : k < 12) (w : Nat) : canonN k w < 4294967296 := by
  have : k = 9 ∨ k = 10 ∨ k = 11 := by omega
  unfold canonN
  rcases this with rfl | rfl | rfl <;> simp <;> omega

/-- What is put is read. -/
theorem readS_put {k : Int} (hk : numberB k = true) {w : Nat} (hw : w < 18446744073709551616) : readS k (putS k w) = (canonN k w, 0) := by
  have hc := canonN_lt k hw
  have hs := (canonN_stays (k := k) hw).1
  unfold readS
  rw [hk]
  rw [if_neg (by simp)]
  by_cases h12 : 12 ≤ k
  · rw [if_pos h12]
    have hp : putS k w = littleB 8 (canonN k w) := by unfold putS; rw [if_pos h12]
    rw [hp, if_pos (littleB_length _ _), wordN_little, Nat.mod_eq_of_lt (by simpa using hc), hs]
  · rw [if_neg h12]
    by_cases h9 : 9 ≤ k
    · rw [if_pos h9]
      have hp : putS k w = littleB 4 (canonN k w) := by unfold putS; rw [if_neg h12, if_pos h9]
      rw [hp, if_pos (littleB_length _ _), wordN_little, Nat.mod_eq_of_lt (by simpa using canonN_32 h9 (by omega) w), hs]
    · rw [if_neg h9]
      have hp : putS k w = uvarint (canonN k w) := by unfold putS; rw [if_neg h12, if_neg h9]
      have hr := readV_uvarint (canonN k w) [] hc
      rw [List.append_nil] at hr
      rw [hp, hr, if_pos ⟨rfl, rfl⟩, hs]

theorem putS_canon (k : Int) {w : Nat} (hw : w < 18446744073709551616) : putS k (canonN k w) = putS k w := by
  unfold putS
  rw [(canonN_stays hw).1]

end Go.Proofs.YtlhbllaojjelcaaDoor

/- Plain words of layer 9: runs of numbers. No program is named. -/
namespace Go.Proofs.YtlhbllaojjelcaaDoor
open Go.RowKit
set_option linter.unusedVariables false

/-- How many bytes the first value of a run has; the code. -/
def stepN (k : Int) (bs : List UInt8) : Nat × Nat :=
  if k < 9 then ((readV bs).2.1, (readV bs).2.2) else if k < 12 then (if bs.length < 4 then (0, 3) else (4, 0)) else (if bs.length < 8 then (0, 3) else (8, 0))

theorem stepN_bd (k : Int) (bs : List UInt8) : ((stepN k bs).2 = 0 ∧ 1 ≤ (stepN k bs).1 ∧ (stepN k bs).1 ≤ bs.length) ∨ ((stepN k bs).2 ≠ 0 ∧ (stepN k bs).1 = 0 ∧ (stepN k bs).2 ≤ 4) := by
  unfold stepN
  split
  · have h := readV_bd bs
    by_cases h0 : (readV bs).2.2 = 0
    · exact .inl ⟨h0, h.2.2.2.2.1 h0, h.2.1⟩
    · exact .inr ⟨h0, (h.2.2.2.2.2 h0).2, h.2.2.2.1⟩
  · split
    · split
      · exact .inr ⟨by simp, rfl, by simp⟩
      · exact .inl ⟨rfl, by simp, by simp only; omega⟩
    · split
      · exact .inr ⟨by simp, rfl, by simp⟩
      · exact .inl ⟨rfl, by simp, by simp only; omega⟩

/-- The values of a run, up to the first that isn't there: each one's bytes; why it isn't there. -/
def valsF (k : Int) : Nat → List UInt8 → List (List UInt8 × Nat)
  | 0, _ => []
  | f + 1, bs => if bs = [] then [] else if (stepN k bs).2 = 0 then (bs.take (stepN k bs).1, 0) :: valsF k f (bs.drop (stepN k bs).1) else [([], (stepN k bs).2)]

theorem valsF_fuel (k : Int) : ∀ (f g : Nat) (bs : List UInt8), bs.length ≤ f → bs.length ≤ g → valsF k f bs = valsF k g bs
  | 0, 0, _, _, _ => rfl
  | 0, g + 1, bs, h, _ => by rw [List.eq_nil_of_length_eq_zero (by omega : bs.length = 0)]; rfl
  | f + 1, 0, bs, _, h => by rw [List.eq_nil_of_length_eq_zero (by omega : bs.length = 0)]; rfl
  | f + 1, g + 1, bs, h1, h2 => by
    unfold valsF
    by_cases hb : bs = []
    · rw [if_pos hb, if_pos hb]
    · rw [if_neg hb, if_neg hb]
      by_cases hc : (stepN k bs).2 = 0
      · have := stepN_bd k bs
        rw [if_pos hc, if_pos hc, valsF_fuel k f g _ (by rw [List.length_drop]; omega) (by rw [List.length_drop]; omega)]
      · rw [if_neg hc, if_neg hc]

def valsV (k : Int) (bs : List UInt8) : List (List UInt8 × Nat) := if numberB k = false then [([], 2)] else valsF k bs.length bs

/-- The code of a run. -/
def codeV (k : Int) (bs : List UInt8) : Nat := match (valsV k bs).getLast? with
  | none => 0
  | some v => v.2

theorem valsF_last (k : Int) : ∀ (f : Nat) (bs : List UInt8) (j : Nat) (x : List UInt8 × Nat), (valsF k f bs)[j]? = some x → x.2 ≠ 0 → (valsF k f bs).getLast? = some x
  | 0, bs, j, x, h, _ => by simp [valsF] at h
  | f + 1, bs, j, x, h, hx => by
    unfold valsF at h ⊢
    by_cases hb : bs = []
    · rw [if_pos hb] at h; simp at h
    · rw [if_neg hb] at h ⊢
      by_cases hc : (stepN k bs).2 = 0
      · rw [if_pos hc] at h ⊢
        cases j with
        | zero => simp only [List.getElem?_cons_zero, Option.some.injEq] at h; subst h; exact absurd rfl hx
        | succ j =>
          rw [List.getElem?_cons_succ] at h
          have ih := valsF_last k f _ j x h hx
          rw [List.getLast?_cons, ih]
          rfl
      · rw [if_neg hc] at h ⊢
        cases j with
        | zero => simp only [List.getElem?_cons_zero, Option.some.injEq] at h; subst h; rfl
        | succ j => simp at h

theorem codeV_bad {k : Int} {bs : List UInt8} {j : Nat} {x : List UInt8 × Nat} (h : (valsV k bs)[j]? = some x) (hx : x.2 ≠ 0) : codeV k bs = x.2 := by
  have hl : (valsV k bs).getLast? = some x := by
    unfold valsV at h ⊢
    by_cases hk : numberB k = false
    · rw [if_pos hk] at h ⊢
      cases j with
      | zero => simp only [List.getElem?_cons_zero, Option.some.injEq] at h; subst h; rfl
      | succ j => simp at h
    · rw [if_neg hk] at h ⊢
      exact valsF_last k _ bs j x h hx
  unfold codeV
  rw [hl]

theorem codeV_fine {k : Int} {bs : List UInt8} (h : ∀ (j : Nat) x, (valsV k bs)[j]? = some x → x.2 = 0) : codeV k bs = 0 := by
  unfold codeV
  rcases hl : (valsV k bs).getLast? with _ | x
  · rfl
  · obtain ⟨j, hj⟩ := List.getElem?_of_mem (List.mem_of_getLast? hl)
    exact h j x hj

/-- How many values a run has, if it is one. -/
def countV (k : Int) (bs : List UInt8) : Nat := if codeV k bs = 0 then (valsV k bs).length else 0

theorem valsF_len (k : Int) : ∀ (f : Nat) (bs : List UInt8), (valsF k f bs).length ≤ f
  | 0, bs => by simp [valsF]
  | f + 1, bs => by
    unfold valsF
    split
    · simp
    · split
      · have := valsF_len k f (bs.drop (stepN k bs).1); simp only [List.length_cons]; omega
      · simp

theorem valsV_len (k : Int) (bs : List UInt8) : (valsV k bs).length ≤ bs.length + 1 := by
  unfold valsV
  split
  · simp
  · have := valsF_len k bs.length bs; omega

end Go.Proofs.YtlhbllaojjelcaaDoor

/- Plain words of layer 9: words packed. No program is named. -/
namespace Go.Proofs.YtlhbllaojjelcaaDoor
open Go.RowKit
set_option linter.unusedVariables false

/-- The bytes of words. -/
def packW (k : Int) : List Nat → List UInt8
  | [] => []
  | x :: l => putS k x ++ packW k l

theorem packW_snoc (k : Int) (x : Nat) : ∀ l : List Nat, packW k (l ++ [x]) = packW k l ++ putS k x
  | [] => by simp [packW]
  | y :: l => by simp [packW, packW_snoc k x l]

theorem packW_le (k : Int) : ∀ l : List Nat, (∀ x ∈ l, x < 18446744073709551616) → (packW k l).length ≤ 10 * l.length
  | [], _ => by simp [packW]
  | y :: l, h => by
    have h1 := (putS_length (k := k) (h y (List.mem_cons_self ..))).2
    have h2 := packW_le k l (fun x hx => h x (List.mem_cons_of_mem _ hx))
    simp only [packW, List.length_append, List.length_cons]
    omega

end Go.Proofs.YtlhbllaojjelcaaDoor

/- Plain words of layer 9: packed words read back. No program is named. -/
namespace Go.Proofs.YtlhbllaojjelcaaDoor
open Go.RowKit
set_option linter.unusedVariables false

theorem stepN_put {k : Int} {x : Nat} (hx : x < 18446744073709551616) (more : List UInt8) : stepN k (putS k x ++ more) = ((putS k x).length, 0) := by
  by_cases h9 : k < 9
  · have hp : putS k x = Lib.uvarint (canonN k x) := by unfold putS; rw [if_neg (by omega), if_neg (by omega)]
    unfold stepN
    rw [hp, if_pos h9, readV_uvarint _ _ (canonN_lt k hx)]
  · by_cases h12 : k < 12
    · have hp : putS k x = littleB 4 (canonN k x) := by unfold putS; rw [if_neg (by omega), if_pos (by omega)]
      unfold stepN
      rw [hp, if_neg h9, if_pos h12, littleB_length, if_neg (by rw [List.length_append, littleB_length]; omega)]
    · have hp : putS k x = littleB 8 (canonN k x) := by unfold putS; rw [if_pos (by omega)]
      unfold stepN
      rw [hp, if_neg h9, if_neg h12, littleB_length, if_neg (by rw [List.length_append, littleB_length]; omega)]

theorem valsF_ok {k : Int} {g n : Nat} {bs : List UInt8} (hb : bs ≠ []) (h : stepN k bs = (n, 0)) : valsF k (g + 1) bs = (bs.take n, 0) :: valsF k g (bs.drop n) := by
  conv => lhs; unfold valsF
  rw [if_neg hb, h, if_pos rfl]

theorem valsF_pack {k : Int} : ∀ (ws : List Nat) (f : Nat), (∀ x ∈ ws, x < 18446744073709551616) → (packW k ws).length ≤ f → valsF k f (packW k ws) = ws.map fun x => (putS k x, 0)
  | [], f, _, _ => by cases f <;> rfl
  | x :: l, f, h, hf => by
    have hx := h x (List.mem_cons_self ..)
    have h1 := (putS_length (k := k) hx).1
    simp only [packW, List.length_append] at hf
    obtain ⟨g, rfl⟩ : ∃ g, f = g + 1 := ⟨f - 1, by omega⟩
    have hne : putS k x ++ packW k l ≠ [] := by
      intro e
      have := congrArg List.length e
      simp only [List.length_append, List.length_nil] at this
      omega
    simp only [packW]
    rw [valsF_ok hne (stepN_put hx _)]
    simp only [List.take_left, List.drop_left, List.map_cons]
    rw [valsF_pack l g (fun y hy => h y (List.mem_cons_of_mem _ hy)) (by omega)]

theorem valsV_pack {k : Int} {ws : List Nat} (hk : numberB k = true) (h : ∀ x ∈ ws, x < 18446744073709551616) : valsV k (packW k ws) = ws.map fun x => (putS k x, 0) := by
  unfold valsV
  rw [if_neg (by rw [hk]; simp), valsF_pack ws _ h (Nat.le_refl _)]

end Go.Proofs.YtlhbllaojjelcaaDoor

/- Plain words of layer 9: where a run's values end. No program is named. -/
namespace Go.Proofs.YtlhbllaojjelcaaDoor
open Go.RowKit
set_option linter.unusedVariables false

def sumL : List (List UInt8 × Nat) → Nat
  | [] => 0
  | v :: l => v.1.length + sumL l

theorem sumL_snoc (x : List UInt8 × Nat) : ∀ l, sumL (l ++ [x]) = sumL l + x.1.length
  | [] => by simp [sumL]
  | y :: l => by simp [sumL, sumL_snoc x l]; omega

/-- Where each value ends. -/
def endsOf (a : Nat) : List (List UInt8 × Nat) → List Nat
  | [] => []
  | v :: l => (a + v.1.length) :: endsOf (a + v.1.length) l

theorem endsOf_snoc (x : List UInt8 × Nat) : ∀ (l : List (List UInt8 × Nat)) (a : Nat), endsOf a (l ++ [x]) = endsOf a l ++ [a + sumL l + x.1.length]
  | [], a => by simp [endsOf, sumL]
  | y :: l, a => by simp [endsOf, sumL, endsOf_snoc x l]; omega

theorem endsOf_len : ∀ (l : List (List UInt8 × Nat)) (a : Nat), (endsOf a l).length = l.length
  | [], a => rfl
  | y :: l, a => by simp [endsOf, endsOf_len l]

/-- The ends of a run, if it is one; the code. -/
def endsV (k : Int) (bs : List UInt8) : List Nat × Nat := (if codeV k bs = 0 then endsOf 0 (valsV k bs) else [], codeV k bs)

/-- So far: these values, all there, of so many bytes. -/
structure SoFar (k : Int) (bs : List UInt8) (d : List (List UInt8 × Nat)) (p : Nat) : Prop where
  list : valsV k bs = d ++ valsF k (bs.drop p).length (bs.drop p)
  fine : ∀ x ∈ d, x.2 = 0
  sum : p = sumL d
  len : d.length ≤ p

theorem SoFar.start {k : Int} (hk : numberB k = true) (bs : List UInt8) : SoFar k bs [] 0 :=
  ⟨by unfold valsV; rw [if_neg (by rw [hk]; simp)]; rfl, fun x h => (by cases h), rfl, Nat.le_refl _⟩

theorem SoFar.ends {k : Int} {bs : List UInt8} {d : List (List UInt8 × Nat)} {p : Nat} (h : SoFar k bs d p) (hp : p = bs.length) : endsV k bs = (endsOf 0 d, 0) := by
  have e : valsV k bs = d := by
    rw [h.list, List.drop_of_length_le (by omega)]
    simp [valsF]
  have hc : codeV k bs = 0 := codeV_fine (fun j x hx => by rw [e] at hx; exact h.fine x (List.mem_of_getElem? hx))
  unfold endsV
  rw [hc, if_pos rfl, e]

theorem SoFar.bad {k : Int} {bs : List UInt8} {d : List (List UInt8 × Nat)} {p C : Nat} (h : SoFar k bs d p) (hp : p < bs.length) (hs : stepN k (bs.drop p) = (0, C)) (hC : C ≠ 0) : endsV k bs = ([], C) := by
  have hl : (bs.drop p).length = (bs.drop p).length - 1 + 1 := by rw [List.length_drop]; omega
  have hne : bs.drop p ≠ [] := by
    intro e
    rw [e] at hl
    simp at hl
  have e1 : valsF k ((bs.drop p).length - 1 + 1) (bs.drop p) = [([], C)] := by
    conv => lhs; unfold valsF
    rw [if_neg hne, hs, if_neg hC]
  have e : valsV k bs = d ++ [([], C)] := by rw [h.list, hl, e1]
  have hc : codeV k bs = C := codeV_bad (j := d.length) (x := ([], C)) (by rw [e]; simp) hC
  unfold endsV
  rw [hc, if_neg hC]

theorem SoFar.more {k : Int} {bs : List UInt8} {d : List (List UInt8 × Nat)} {p N : Nat} (h : SoFar k bs d p) (hp : p < bs.length) (hs : stepN k (bs.drop p) = (N, 0)) : SoFar k bs (d ++ [((bs.drop p).take N, 0)]) (p + N) ∧ endsOf 0 (d ++ [((bs.drop p).take N, 0)]) = endsOf 0 d ++ [p + N] := by
  have hl : (bs.drop p).length = (bs.drop p).length - 1 + 1 := by rw [List.length_drop]; omega
  have hne : bs.drop p ≠ [] := by
    intro e
    rw [e] at hl
    simp at hl
  have hbd := stepN_bd k (bs.drop p)
  rw [hs] at hbd
  simp only at hbd
  have hN : 1 ≤ N ∧ N ≤ (bs.drop p).length := by omega
  have ht : ((bs.drop p).take N).length = N := by rw [List.length_take]; omega
  refine ⟨⟨?_, fun x hx => ?_, ?_, ?_⟩, ?_⟩
  · rw [h.list]
    conv => lhs; rw [hl, valsF_ok hne hs]
    rw [List.drop_drop, List.append_assoc]
    congr 2
    exact valsF_fuel k _ _ _ (by simp only [List.length_drop]; omega) (Nat.le_refl _)
  · rcases List.mem_append.1 hx with hx | hx
    · exact h.fine x hx
    · simp only [List.mem_singleton] at hx; subst hx; rfl
  · rw [sumL_snoc, ht, ← h.sum]
  · have := h.len
    rw [List.length_append]
    simp only [List.length_singleton]
    omega
  · rw [endsOf_snoc, ht, ← h.sum]
    simp

end Go.Proofs.YtlhbllaojjelcaaDoor

/- Plain words of layer 9: a run is its values, one behind the other. No program is named. -/
namespace Go.Proofs.YtlhbllaojjelcaaDoor
open Go.RowKit
set_option linter.unusedVariables false

def joinL (l : List (List UInt8 × Nat)) : List UInt8 := l.flatMap (·.1)

theorem joinL_length : ∀ l, (joinL l).length = sumL l
  | [] => rfl
  | v :: l => by
    have := joinL_length l
    unfold joinL at this ⊢
    simp only [List.flatMap_cons, List.length_append, sumL]
    omega

theorem valsF_join {k : Int} : ∀ (f : Nat) (bs : List UInt8), bs.length ≤ f → (∀ x ∈ valsF k f bs, x.2 = 0) → joinL (valsF k f bs) = bs
  | 0, bs, h, _ => by rw [List.eq_nil_of_length_eq_zero (by omega : bs.length = 0)]; rfl
  | f + 1, bs, h, hf => by
    by_cases hb : bs = []
    · subst hb; simp [valsF, joinL]
    · rcases hs : stepN k bs with ⟨N, C⟩
      have hbd := stepN_bd k bs
      rw [hs] at hbd
      simp only at hbd
      by_cases hC : C = 0
      · subst hC
        rw [valsF_ok hb hs] at hf ⊢
        have ih := valsF_join f (bs.drop N) (by rw [List.length_drop]; omega) (fun x hx => hf x (List.mem_cons_of_mem _ hx))
        unfold joinL at ih ⊢
        rw [List.flatMap_cons, ih]
        exact List.take_append_drop N bs
      · have e : valsF k (f + 1) bs = [([], C)] := by
          conv => lhs; unfold valsF
          rw [if_neg hb, hs, if_neg hC]
        rw [e] at hf
        exact absurd (hf _ (List.mem_singleton.2 rfl)) hC

theorem codeV_all {k : Int} {bs : List UInt8} (h : codeV k bs = 0) : ∀ x ∈ valsV k bs, x.2 = 0 := by
  intro x hx
  obtain ⟨j, hj⟩ := List.getElem?_of_mem hx
  by_cases h0 : x.2 = 0
  · exact h0
  · have := codeV_bad hj h0
    omega

theorem codeV_number {k : Int} {bs : List UInt8} (h : codeV k bs = 0) : numberB k = true := by
  rcases hk : numberB k with _ | _
  · have : codeV k bs = 2 := codeV_bad (j := 0) (x := ([], 2)) (by unfold valsV; rw [if_pos hk]; rfl) (by simp)
    omega
  · rfl

theorem codeV_no {k : Int} {bs : List UInt8} (hk : numberB k = false) : codeV k bs = 2 :=
  codeV_bad (j := 0) (x := ([], 2)) (by unfold valsV; rw [if_pos hk]; rfl) (by simp)

theorem valsV_join {k : Int} {bs : List UInt8} (h : codeV k bs = 0) : joinL (valsV k bs) = bs := by
  have ha := codeV_all h
  unfold valsV at ha ⊢
  rw [if_neg (by rw [codeV_number h]; simp)] at ha ⊢
  exact valsF_join _ bs (Nat.le_refl _) ha

theorem endsOf_at : ∀ (l : List (List UInt8 × Nat)) (a p : Nat), p < l.length → (endsOf a l)[p]? = some (a + sumL (l.take (p + 1)))
  | v :: l, a, 0, _ => by simp [endsOf, sumL]
  | v :: l, a, p + 1, h => by
    simp only [List.length_cons] at h
    simp only [endsOf, List.getElem?_cons_succ, endsOf_at l (a + v.1.length) p (by omega), List.take_succ_cons, sumL]
    rw [Nat.add_assoc]

theorem joinL_cut : ∀ (l : List (List UInt8 × Nat)) (p : Nat) (x : List UInt8 × Nat), l[p]? = some x → ((joinL l).take (sumL (l.take (p + 1)))).drop (sumL (l.take p)) = x.1 ∧ sumL (l.take (p + 1)) = sumL (l.take p) + x.1.length ∧ sumL (l.take (p + 1)) ≤ (joinL l).length
  | v :: l, 0, x, h => by
    simp only [List.getElem?_cons_zero, Option.some.injEq] at h
    subst h
    simp [joinL, sumL]
  | v :: l, p + 1, x, h => by
    rw [List.getElem?_cons_succ] at h
    obtain ⟨h1, h2, h3⟩ := joinL_cut l p x h
    have e : joinL (v :: l) = v.1 ++ joinL l := rfl
    simp only [List.take_succ_cons, sumL, e, List.length_append]
    refine ⟨?_, by omega, by omega⟩
    rw [List.take_length_add_append, List.drop_length_add_append]
    exact h1

end Go.Proofs.YtlhbllaojjelcaaDoor

/- Plain words of layer 9: a run is canonical just when its words packed are its bytes. No program is named. -/
namespace Go.Proofs.YtlhbllaojjelcaaDoor
open Go.RowKit
set_option linter.unusedVariables false

theorem halves {A B bs : List UInt8} {N : Nat} (h : A ++ B = bs) (hN : N = A.length) : bs.take N = A ∧ bs.drop N = B := by
  subst h hN
  exact ⟨List.take_left, List.drop_left⟩

/-- Each of these values is its word, packed, just when they all are, one behind the other. -/
theorem all_packed {k : Int} : ∀ (f : Nat) (bs : List UInt8), bs.length ≤ f → (∀ x ∈ valsF k f bs, x.2 = 0) →
    ((∀ x ∈ valsF k f bs, x.1 = putS k (readS k x.1).1) ↔ packW k ((valsF k f bs).map fun v => (readS k v.1).1) = bs)
  | 0, bs, h, _ => by rw [List.eq_nil_of_length_eq_zero (by omega : bs.length = 0)]; simp [valsF, packW]
  | f + 1, bs, h, hf => by
    by_cases hb : bs = []
    · subst hb; simp [valsF, packW]
    · rcases hs : stepN k bs with ⟨N, C⟩
      have hbd := stepN_bd k bs
      rw [hs] at hbd
      simp only at hbd
      by_cases hC : C = 0
      · subst hC
        rw [valsF_ok hb hs] at hf ⊢
        have ih := all_packed f (bs.drop N) (by rw [List.length_drop]; omega) (fun x hx => hf x (List.mem_cons_of_mem _ hx))
        have hw := (readS_bd k (bs.take N)).1
        simp only [List.map_cons, packW, List.mem_cons, forall_eq_or_imp]
        constructor
        · rintro ⟨h1, h2⟩
          rw [← h1, ih.1 h2, List.take_append_drop]
        · intro he
          have hst := stepN_put (k := k) hw (packW k ((valsF k f (bs.drop N)).map fun v => (readS k v.1).1))
          rw [he, hs] at hst
          have hN : N = (putS k (readS k (bs.take N)).1).length := congrArg Prod.fst hst
          obtain ⟨t1, t2⟩ := halves he hN
          exact ⟨t1, ih.2 t2.symm⟩
      · have e : valsF k (f + 1) bs = [([], C)] := by
          conv => lhs; unfold valsF
          rw [if_neg hb, hs, if_neg hC]
        rw [e] at hf
        exact absurd (hf _ (List.mem_singleton.2 rfl)) hC

end Go.Proofs.YtlhbllaojjelcaaDoor

/- Plain words of layer 9: where a run is cut. No program is named. -/
namespace Go.Proofs.YtlhbllaojjelcaaDoor
open Go.RowKit
set_option linter.unusedVariables false

theorem sumL_take : ∀ (l : List (List UInt8 × Nat)) (q : Nat), sumL (l.take q) ≤ sumL l
  | [], q => by simp [sumL]
  | v :: l, 0 => by simp [sumL]
  | v :: l, q + 1 => by
    have := sumL_take l q
    simp only [List.take_succ_cons, sumL]
    omega

theorem sumL_valsF (k : Int) : ∀ (f : Nat) (bs : List UInt8), sumL (valsF k f bs) ≤ bs.length
  | 0, bs => by simp [valsF, sumL]
  | f + 1, bs => by
    unfold valsF
    by_cases hb : bs = []
    · rw [if_pos hb]; simp [sumL]
    · rw [if_neg hb]
      have hbd := stepN_bd k bs
      by_cases hc : (stepN k bs).2 = 0
      · rw [if_pos hc]
        have := sumL_valsF k f (bs.drop (stepN k bs).1)
        simp only [sumL, List.length_take, List.length_drop] at this ⊢
        omega
      · rw [if_neg hc]; simp [sumL]

theorem sumL_valsV (k : Int) (bs : List UInt8) : sumL (valsV k bs) ≤ bs.length := by
  unfold valsV
  split
  · simp [sumL]
  · exact sumL_valsF k _ bs

/-- How many are still to come ahead of the cut, behind j values. -/
def leftI (n : Int) (j : Nat) : Int := if n < 0 then n else ((n.toNat - j : Nat) : Int)

/-- Where the cut stands behind j values. -/
def atV (k : Int) (bs : List UInt8) (n : Int) (j : Nat) : Nat := sumL ((valsV k bs).take (min j n.toNat))

theorem leftI_zero (n : Int) : leftI n 0 = n := by unfold leftI; split <;> omega

theorem atV_zero (k : Int) (bs : List UInt8) (n : Int) : atV k bs n 0 = 0 := by simp [atV, sumL]

theorem leftI_bd (n : Int) (j : Nat) (h : -9223372036854775808 ≤ n ∧ n < 9223372036854775808) : -9223372036854775808 ≤ leftI n j ∧ leftI n j < 9223372036854775808 := by unfold leftI; split <;> omega

theorem atV_le (k : Int) (bs : List UInt8) (n : Int) (j : Nat) : atV k bs n j ≤ bs.length := Nat.le_trans (sumL_take _ _) (sumL_valsV k bs)

theorem sumL_take_succ {l : List (List UInt8 × Nat)} {j : Nat} {x : List UInt8 × Nat} (h : l[j]? = some x) : sumL (l.take (j + 1)) = sumL (l.take j) + x.1.length := by
  rw [List.take_add_one, h]
  exact sumL_snoc x _

theorem cut_more {k : Int} {bs : List UInt8} {n : Int} {j : Nat} {x : List UInt8 × Nat} (h : (valsV k bs)[j]? = some x) (hp : 0 < leftI n j) : leftI n (j + 1) = leftI n j - 1 ∧ atV k bs n (j + 1) = atV k bs n j + x.1.length := by
  unfold leftI at hp ⊢
  unfold atV
  by_cases hn : n < 0
  · rw [if_pos hn] at hp
    omega
  · rw [if_neg hn] at hp ⊢
    rw [if_neg hn]
    refine ⟨by omega, ?_⟩
    rw [Nat.min_eq_left (by omega : j + 1 ≤ n.toNat), Nat.min_eq_left (by omega : j ≤ n.toNat)]
    exact sumL_take_succ h

theorem cut_same {k : Int} {bs : List UInt8} {n : Int} {j : Nat} (hp : ¬ 0 < leftI n j) : leftI n (j + 1) = leftI n j ∧ atV k bs n (j + 1) = atV k bs n j := by
  unfold leftI at hp ⊢
  unfold atV
  by_cases hn : n < 0
  · rw [if_pos hn, if_pos hn]
    refine ⟨rfl, ?_⟩
    rw [show n.toNat = 0 by omega]
    simp
  · rw [if_neg hn] at hp ⊢
    rw [if_neg hn]
    refine ⟨by omega, ?_⟩
    rw [Nat.min_eq_right (by omega : n.toNat ≤ j + 1), Nat.min_eq_right (by omega : n.toNat ≤ j)]

/-- Where the cut stands, if it can be made. -/
theorem atV_end {k : Int} {bs : List UInt8} {n : Int} {j : Nat} (hn : 0 ≤ n) (hj : n ≤ j) : atV k bs n j = sumL ((valsV k bs).take n.toNat) := by
  unfold atV
  rw [Nat.min_eq_right (by omega)]

end Go.Proofs.YtlhbllaojjelcaaDoor

/- Plain words of layer 9: two runs, one behind the other. No program is named. -/
namespace Go.Proofs.YtlhbllaojjelcaaDoor
open Go.RowKit
set_option linter.unusedVariables false

theorem stepN_append {k : Int} {bs : List UInt8} {N : Nat} (h : stepN k bs = (N, 0)) (more : List UInt8) : stepN k (bs ++ more) = (N, 0) := by
  unfold stepN at h ⊢
  by_cases h9 : k < 9
  · rw [if_pos h9] at h ⊢
    rcases hv : readV bs with ⟨W, n, C⟩
    rw [hv] at h
    cases h
    rw [readV_append hv]
  · rw [if_neg h9] at h ⊢
    by_cases h12 : k < 12
    · rw [if_pos h12] at h ⊢
      by_cases hl : bs.length < 4
      · rw [if_pos hl] at h; cases h
      · rw [if_neg hl] at h
        rw [if_neg (by rw [List.length_append]; omega)]
        exact h
    · rw [if_neg h12] at h ⊢
      by_cases hl : bs.length < 8
      · rw [if_pos hl] at h; cases h
      · rw [if_neg hl] at h
        rw [if_neg (by rw [List.length_append]; omega)]
        exact h

theorem valsF_append {k : Int} (more : List UInt8) : ∀ (f g : Nat) (bs : List UInt8), bs.length ≤ f → (bs ++ more).length ≤ g → (∀ x ∈ valsF k f bs, x.2 = 0) → valsF k g (bs ++ more) = valsF k f bs ++ valsF k more.length more
  | 0, g, bs, h, hg, _ => by
    rw [List.eq_nil_of_length_eq_zero (by omega : bs.length = 0)]
    simp only [List.nil_append, List.length_append] at hg ⊢
    exact valsF_fuel k g _ more (by omega) (Nat.le_refl _)
  | f + 1, g, bs, h, hg, hf => by
    by_cases hb : bs = []
    · subst hb
      have : valsF k (f + 1) [] = [] := by unfold valsF; rw [if_pos rfl]
      rw [this]
      simp only [List.nil_append] at hg ⊢
      exact valsF_fuel k g _ more (by omega) (Nat.le_refl _)
    · rcases hs : stepN k bs with ⟨N, C⟩
      have hbd := stepN_bd k bs
      rw [hs] at hbd
      simp only at hbd
      by_cases hC : C = 0
      · subst hC
        rw [List.length_append] at hg
        obtain ⟨g, rfl⟩ : ∃ g', g = g' + 1 := ⟨g - 1, by omega⟩
        rw [valsF_ok hb hs] at hf ⊢
        rw [valsF_ok (by simp [hb]) (stepN_append hs more)]
        rw [List.take_append_of_le_length (by omega), List.drop_append_of_le_length (by omega), List.cons_append]
        congr 1
        exact valsF_append more f g (bs.drop N) (by rw [List.length_drop]; omega) (by rw [List.length_append, List.length_drop]; omega) (fun x hx => hf x (List.mem_cons_of_mem _ hx))
      · have e : valsF k (f + 1) bs = [([], C)] := by
          conv => lhs; unfold valsF
          rw [if_neg hb, hs, if_neg hC]
        rw [e] at hf
        exact absurd (hf _ (List.mem_singleton.2 rfl)) hC

theorem valsV_append {k : Int} {a : List UInt8} (h : codeV k a = 0) (b : List UInt8) : valsV k (a ++ b) = valsV k a ++ valsV k b := by
  have hk := codeV_number h
  have ha := codeV_all h
  unfold valsV at ha ⊢
  rw [if_neg (by rw [hk]; simp)] at ha ⊢
  rw [if_neg (by rw [hk]; simp), if_neg (by rw [hk]; simp)]
  exact valsF_append b _ _ a (Nat.le_refl _) (Nat.le_refl _) ha

theorem codeV_append {k : Int} {a : List UInt8} (h : codeV k a = 0) (b : List UInt8) : codeV k (a ++ b) = codeV k b := by
  have hv := valsV_append h b
  have ha := codeV_all h
  by_cases hb : valsV k b = []
  · have h1 : codeV k b = 0 := by unfold codeV; rw [hb]; rfl
    rw [h1]
    refine codeV_fine (fun j x hx => ?_)
    rw [hv, hb, List.append_nil] at hx
    exact ha x (List.mem_of_getElem? hx)
  · unfold codeV
    rw [hv, List.getLast?_append]
    rcases hl : (valsV k b).getLast? with _ | x
    · exact absurd (List.getLast?_eq_none_iff.1 hl) hb
    · rfl

theorem cut_append {k : Int} {a : List UInt8} (ha : codeV k a = 0) (b : List UInt8) : sumL ((valsV k (a ++ b)).take (valsV k a).length) = a.length := by
  rw [valsV_append ha, List.take_left, ← joinL_length, valsV_join ha]

end Go.Proofs.YtlhbllaojjelcaaDoor
