/- Plain laws of layer 4: code points' bytes. No program is named. -/
import Derived.Test.YtcbpbpeogfbpiaaTLib

namespace Go.Proofs.Ytcbpbpeogfbpiaa
open Go.RowKit
set_option linter.unusedVariables false

/-- How many bytes a code point has by its first byte, and that byte's bits. -/
def headN (b : Nat) : Nat × Nat :=
  if b < 128 then (1, b) else if b / 32 = 6 then (2, b % 32) else if b / 16 = 14 then (3, b % 16) else if b / 8 = 30 then (4, b % 8) else (0, 0)

def leastN (n : Nat) : Nat := if n ≤ 1 then 0 else if n = 2 then 128 else if n = 3 then 2048 else 65536

def tailB (c : UInt8) : Bool := decide (c.toNat / 64 = 2)

/-- The bits of a head and of some tails. -/
def joinN (r : Nat) : List UInt8 → Nat
  | [] => r
  | c :: l => joinN (r * 64 + c.toNat % 64) l

/-- A code point? -/
def pointB (n R : Nat) : Bool := !(decide (R < leastN n) || decide (1114111 < R) || (decide (55296 ≤ R) && decide (R ≤ 57343)))

/-- How many bytes the next code point has; 0: there is none. -/
def nextU : List UInt8 → Nat
  | [] => 0
  | b :: t => if (headN b.toNat).1 = 0 ∨ t.length + 1 < (headN b.toNat).1 then 0
      else if (t.take ((headN b.toNat).1 - 1)).all tailB = true ∧ pointB (headN b.toNat).1 (joinN (headN b.toNat).2 (t.take ((headN b.toNat).1 - 1))) = true then (headN b.toNat).1 else 0

theorem nextU_cons (b : UInt8) (t : List UInt8) : nextU (b :: t) = if (headN b.toNat).1 = 0 ∨ t.length + 1 < (headN b.toNat).1 then 0
      else if (t.take ((headN b.toNat).1 - 1)).all tailB = true ∧ pointB (headN b.toNat).1 (joinN (headN b.toNat).2 (t.take ((headN b.toNat).1 - 1))) = true then (headN b.toNat).1 else 0 := rfl

theorem headN_bd (b : Nat) (h : b < 256) : (headN b).1 ≤ 4 ∧ (headN b).2 < 128 ∧ ((headN b).2 + 1) * 64 ^ ((headN b).1 - 1) ≤ 2097152 := by
  unfold headN
  repeat' split
  all_goals simp only
  all_goals omega

theorem joinN_lt : ∀ (l : List UInt8) (r : Nat), joinN r l + 1 ≤ (r + 1) * 64 ^ l.length
  | [], r => by simp [joinN]
  | c :: l, r => by
    have := joinN_lt l (r * 64 + c.toNat % 64)
    rw [joinN, List.length_cons, Nat.pow_succ]
    have h : (r * 64 + c.toNat % 64 + 1) * 64 ^ l.length ≤ (r + 1) * (64 ^ l.length * 64) := by
      rw [Nat.mul_comm (64 ^ l.length) 64, ← Nat.mul_assoc]
      exact Nat.mul_le_mul_right _ (by omega)
    omega

theorem joinN_snoc : ∀ (l : List UInt8) (r : Nat) (c : UInt8), joinN r (l ++ [c]) = joinN r l * 64 + c.toNat % 64
  | [], r, c => rfl
  | d :: l, r, c => by
    rw [List.cons_append, joinN, joinN]
    exact joinN_snoc l _ c

theorem nextU_le (bs : List UInt8) : nextU bs ≤ bs.length ∧ nextU bs ≤ 4 := by
  cases bs with
  | nil => exact ⟨Nat.le_refl _, by decide⟩
  | cons b t =>
    have := (headN_bd b.toNat b.toNat_lt).1
    rw [nextU_cons]
    split
    · exact ⟨Nat.zero_le _, Nat.zero_le _⟩
    · split
      · simp only [List.length_cons]; omega
      · exact ⟨Nat.zero_le _, Nat.zero_le _⟩

/-- The place and the count of the walk over code points, as long as they have room. -/
def walkV (bs : List UInt8) (room : Nat) : Nat × Nat :=
  if h : nextU bs = 0 ∨ room < nextU bs then (0, 0)
  else
    let p := walkV (bs.drop (nextU bs)) (room - nextU bs)
    (nextU bs + p.1, p.2 + 1)
termination_by bs.length
decreasing_by
  have := nextU_le bs
  rw [List.length_drop]; omega

theorem walkV_stop {bs : List UInt8} {room : Nat} (h : nextU bs = 0 ∨ room < nextU bs) : walkV bs room = (0, 0) := by
  rw [walkV, dif_pos h]

theorem walkV_step {bs : List UInt8} {room : Nat} (h : ¬ (nextU bs = 0 ∨ room < nextU bs)) : walkV bs room = (nextU bs + (walkV (bs.drop (nextU bs)) (room - nextU bs)).1, (walkV (bs.drop (nextU bs)) (room - nextU bs)).2 + 1) := by
  rw [walkV, dif_neg h]

/-- Right text? -/
def rightT (bs : List UInt8) : Bool := decide ((walkV bs bs.length).1 = bs.length)

theorem point_iff (n R : Nat) : pointB n R = true ↔ leastN n ≤ R ∧ R ≤ 1114111 ∧ (R < 55296 ∨ 57343 < R) := by
  unfold pointB
  simp
  omega

end Go.Proofs.Ytcbpbpeogfbpiaa
