/- Contracts of layer 8: scalars. -/
import Derived.Test.YtpgbhgimjpbhoaaWA
import Derived.Test.YtpgbhgimjpbhoaaW5
import Derived.Test.YtpgbhgimjpbhoaaW6
import Derived.Test.YtpgbhgimjpbhoaaSA
namespace Go.Proofs.Ytpgbhgimjpbhoaa
open Go.RowKit
set_option linter.unusedVariables false

theorem kWireN {k W : Int} {w : World} (hk : numberB k = true) (hw : wireI k = W) :
    Calls Try.prog 102 #[.int .i64 k] w fun e w' => e = .returned (.tuple #[.int .i64 W, .int .u8 0]) ∧ Ext w w' := by
  have h := kWire k w
  have hb := number_kind hk
  have hkb : kindB k = true := by unfold kindB; exact decide_eq_true (by omega)
  unfold wireOr at h
  rw [hkb] at h
  simp only [if_true, hw] at h
  exact h

theorem kWireRN {k W : Int} {w : World} (hk : numberB k = true) (hw : wireI k = W) :
    Calls Try.prog 94 #[.int .i64 k] w fun e w' => e = .returned (.int .i64 W) ∧ w = w' := by
  have hb := number_kind hk
  have hkb : kindB k = true := by unfold kindB; exact decide_eq_true (by omega)
  have h := kWireR hkb w
  rwa [hw] at h

/-- A number's kind, by its wire type. -/
theorem number_three {k : Int} (hk : numberB k = true) : (12 ≤ k ∧ wireI k = 1) ∨ (¬ 12 ≤ k ∧ 9 ≤ k ∧ wireI k = 5) ∨ (¬ 12 ≤ k ∧ ¬ 9 ≤ k ∧ wireI k = 0) := by
  have hb := number_kind hk
  unfold wireI
  by_cases h12 : 12 ≤ k
  · exact .inl ⟨h12, by rw [if_neg (by omega), if_neg (by omega), if_pos (by omega)]⟩
  · by_cases h9 : 9 ≤ k
    · exact .inr (.inl ⟨h12, h9, by rw [if_neg (by omega), if_pos (by omega)]⟩)
    · exact .inr (.inr ⟨h12, h9, by rw [if_pos (by omega)]⟩)

theorem readS_no {k : Int} (hk : numberB k = false) (bs : List UInt8) : readS k bs = (0, 2) := by unfold readS; rw [if_pos hk]

theorem readS_12 {k : Int} (hk : numberB k = true) (h : 12 ≤ k) (bs : List UInt8) : readS k bs = if bs.length = 8 then (canonN k (wordN bs), 0) else (0, 12) := by unfold readS; rw [hk, if_neg (by simp), if_pos h]

theorem readS_9 {k : Int} (hk : numberB k = true) (h : ¬ 12 ≤ k) (h9 : 9 ≤ k) (bs : List UInt8) : readS k bs = if bs.length = 4 then (canonN k (wordN bs), 0) else (0, 12) := by unfold readS; rw [hk, if_neg (by simp), if_neg h, if_pos h9]

theorem readS_0 {k : Int} (hk : numberB k = true) (h : ¬ 12 ≤ k) (h9 : ¬ 9 ≤ k) {bs : List UInt8} {W N C : Nat} (hv : readV bs = (W, N, C)) : readS k bs = if C = 0 ∧ N = bs.length then (canonN k W, 0) else (0, 12) := by unfold readS; rw [hk, if_neg (by simp), if_neg h, if_neg h9, hv]

theorem putS_12 {k : Int} (h : 12 ≤ k) (x : Nat) : putS k x = littleB 8 (canonN k x) := by unfold putS; rw [if_pos h]

theorem putS_9 {k : Int} (h : ¬ 12 ≤ k) (h9 : 9 ≤ k) (x : Nat) : putS k x = littleB 4 (canonN k x) := by unfold putS; rw [if_neg h, if_pos h9]

theorem putS_0 {k : Int} (h : ¬ 12 ≤ k) (h9 : ¬ 9 ≤ k) (x : Nat) : putS k x = Lib.uvarint (canonN k x) := by unfold putS; rw [if_neg h, if_neg h9]

theorem sRead_number {k : Int} {bs : List UInt8} (h : (readS k bs).2 = 0) : numberB k = true := by
  rcases hk : numberB k with _ | _
  · rw [readS_no hk] at h; simp at h
  · rfl

end Go.Proofs.Ytpgbhgimjpbhoaa
