/- Plain laws of layer 8: scalars. No program is named. -/
import Derived.Test.YtlmmlmmadgcmcaaS5b
import Derived.Test.YtlmmlmmadgcmcaaS6
namespace Go.Proofs.Ytlmmlmmadgcmcaa
open Go.RowKit Go.Lib
set_option linter.unusedVariables false

/-- The canonical bytes of a word of a number's kind. -/
def putS (k : Int) (w : Nat) : List UInt8 := if 12 ≤ k then littleB 8 (canonN k w) else if 9 ≤ k then littleB 4 (canonN k w) else uvarint (canonN k w)

/-- The word of bytes of a kind; the code. -/
def readS (k : Int) (bs : List UInt8) : Nat × Nat :=
  if numberB k = false then (0, 2)
  else if 12 ≤ k then (if bs.length = 8 then (canonN k (wordN bs), 0) else (0, 12))
  else if 9 ≤ k then (if bs.length = 4 then (canonN k (wordN bs), 0) else (0, 12))
  else (if (readV bs).2.2 = 0 ∧ (readV bs).2.1 = bs.length then (canonN k (readV bs).1, 0) else (0, 12))

def canonB (k : Int) (bs : List UInt8) : Bool := decide ((readS k bs).2 = 0 ∧ bs = putS k (readS k bs).1)

theorem putS_length {k : Int} {w : Nat} (hw : w < 18446744073709551616) : 1 ≤ (putS k w).length ∧ (putS k w).length ≤ 10 := by
  unfold putS
  split
  · rw [littleB_length]; omega
  · split
    · rw [littleB_length]; omega
    · exact ⟨uvarint_pos _, uvarint_length64 (canonN_lt k hw)⟩

theorem readS_bd (k : Int) (bs : List UInt8) : (readS k bs).1 < 18446744073709551616 ∧ (readS k bs).2 ≤ 12 := by
  have h := (readV_bd bs).1
  unfold readS
  split
  · simp
  · split
    · split
      · rename_i hl
        have := wordN_lt bs
        rw [hl] at this
        exact ⟨canonN_lt k (by simpa using this), by simp⟩
      · simp
    · split
      · split
        · rename_i hl
          have := wordN_lt bs
          rw [hl] at this
          exact ⟨canonN_lt k (Nat.lt_of_lt_of_le this (by decide)), by simp⟩
        · simp
      · split
        · exact ⟨canonN_lt k h, by simp⟩
        · simp

theorem readS_canon (k : Int) (bs : List UInt8) : canonN k (readS k bs).1 = (readS k bs).1 := by
  have h := (readV_bd bs).1
  have h0 : canonN k 0 = 0 := by
    have := canonN_stays (k := k) (x := 0) (by decide)
    unfold canonN wideI sign32I
    repeat' split
    all_goals simp_all
  have hw : ∀ x : Nat, x < 18446744073709551616 → canonN k (canonN k x) = canonN k x := fun x hx => (canonN_stays hx).1
  unfold readS
  split
  · exact h0
  · split
    · split
      · rename_i hl
        have := wordN_lt bs
        rw [hl] at this
        exact hw _ (by simpa using this)
      · exact h0
    · split
      · split
        · rename_i hl
          have := wordN_lt bs
          rw [hl] at this
          exact hw _ (Nat.lt_of_lt_of_le this (by decide))
        · exact h0
      · split
        · exact hw _ h
        · exact h0

theorem canonN_32 {k : Int} (h1 : 9 ≤ k) (h2 : k < 12) (w : Nat) : canonN k w < 4294967296 := by
  have : k = 9 ∨ k = 10 ∨ k = 11 := by omega
  unfold canonN
  rcases this with rfl | rfl | rfl <;> simp <;> omega

/-- What is put is read. -/
theorem readS_put {k : Int} (hk : numberB k = true) {w : Nat} (hw : w < 18446744073709551616) : readS k (putS k w) = (canonN k w, 0) := by
  have hc := canonN_lt k hw
  have hs := (canonN_stays (k := k) hw).1
  unfold readS
  rw [hk]
  rw [if_neg (by simp)]
  by_cases h12 : 12 ≤ k
  · rw [if_pos h12]
    have hp : putS k w = littleB 8 (canonN k w) := by unfold putS; rw [if_pos h12]
    rw [hp, if_pos (littleB_length _ _), wordN_little, Nat.mod_eq_of_lt (by simpa using hc), hs]
  · rw [if_neg h12]
    by_cases h9 : 9 ≤ k
    · rw [if_pos h9]
      have hp : putS k w = littleB 4 (canonN k w) := by unfold putS; rw [if_neg h12, if_pos h9]
      rw [hp, if_pos (littleB_length _ _), wordN_little, Nat.mod_eq_of_lt (by simpa using canonN_32 h9 (by omega) w), hs]
    · rw [if_neg h9]
      have hp : putS k w = uvarint (canonN k w) := by unfold putS; rw [if_neg h12, if_neg h9]
      have hr := readV_uvarint (canonN k w) [] hc
      rw [List.append_nil] at hr
      rw [hp, hr, if_pos ⟨rfl, rfl⟩, hs]

theorem putS_canon (k : Int) {w : Nat} (hw : w < 18446744073709551616) : putS k (canonN k w) = putS k w := by
  unfold putS
  rw [(canonN_stays hw).1]

end Go.Proofs.Ytlmmlmmadgcmcaa
