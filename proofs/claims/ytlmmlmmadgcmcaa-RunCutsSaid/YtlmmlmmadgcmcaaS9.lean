/- Plain words of layer 9: runs of numbers. No program is named. -/
import Derived.Test.YtlmmlmmadgcmcaaS8
import Derived.Test.YtlmmlmmadgcmcaaS6
namespace Go.Proofs.Ytlmmlmmadgcmcaa
open Go.RowKit
set_option linter.unusedVariables false

/-- How many bytes the first value of a run has; the code. -/
def stepN (k : Int) (bs : List UInt8) : Nat × Nat :=
  if k < 9 then ((readV bs).2.1, (readV bs).2.2) else if k < 12 then (if bs.length < 4 then (0, 3) else (4, 0)) else (if bs.length < 8 then (0, 3) else (8, 0))

theorem stepN_bd (k : Int) (bs : List UInt8) : ((stepN k bs).2 = 0 ∧ 1 ≤ (stepN k bs).1 ∧ (stepN k bs).1 ≤ bs.length) ∨ ((stepN k bs).2 ≠ 0 ∧ (stepN k bs).1 = 0 ∧ (stepN k bs).2 ≤ 4) := by
  unfold stepN
  split
  · have h := readV_bd bs
    by_cases h0 : (readV bs).2.2 = 0
    · exact .inl ⟨h0, h.2.2.2.2.1 h0, h.2.1⟩
    · exact .inr ⟨h0, (h.2.2.2.2.2 h0).2, h.2.2.2.1⟩
  · split
    · split
      · exact .inr ⟨by simp, rfl, by simp⟩
      · exact .inl ⟨rfl, by simp, by simp only; omega⟩
    · split
      · exact .inr ⟨by simp, rfl, by simp⟩
      · exact .inl ⟨rfl, by simp, by simp only; omega⟩

/-- The values of a run, up to the first that isn't there: each one's bytes; why it isn't there. -/
def valsF (k : Int) : Nat → List UInt8 → List (List UInt8 × Nat)
  | 0, _ => []
  | f + 1, bs => if bs = [] then [] else if (stepN k bs).2 = 0 then (bs.take (stepN k bs).1, 0) :: valsF k f (bs.drop (stepN k bs).1) else [([], (stepN k bs).2)]

theorem valsF_fuel (k : Int) : ∀ (f g : Nat) (bs : List UInt8), bs.length ≤ f → bs.length ≤ g → valsF k f bs = valsF k g bs
  | 0, 0, _, _, _ => rfl
  | 0, g + 1, bs, h, _ => by rw [List.eq_nil_of_length_eq_zero (by omega : bs.length = 0)]; rfl
  | f + 1, 0, bs, _, h => by rw [List.eq_nil_of_length_eq_zero (by omega : bs.length = 0)]; rfl
  | f + 1, g + 1, bs, h1, h2 => by
    unfold valsF
    by_cases hb : bs = []
    · rw [if_pos hb, if_pos hb]
    · rw [if_neg hb, if_neg hb]
      by_cases hc : (stepN k bs).2 = 0
      · have := stepN_bd k bs
        rw [if_pos hc, if_pos hc, valsF_fuel k f g _ (by rw [List.length_drop]; omega) (by rw [List.length_drop]; omega)]
      · rw [if_neg hc, if_neg hc]

def valsV (k : Int) (bs : List UInt8) : List (List UInt8 × Nat) := if numberB k = false then [([], 2)] else valsF k bs.length bs

/-- The code of a run. -/
def codeV (k : Int) (bs : List UInt8) : Nat := match (valsV k bs).getLast? with
  | none => 0
  | some v => v.2

theorem valsF_last (k : Int) : ∀ (f : Nat) (bs : List UInt8) (j : Nat) (x : List UInt8 × Nat), (valsF k f bs)[j]? = some x → x.2 ≠ 0 → (valsF k f bs).getLast? = some x
  | 0, bs, j, x, h, _ => by simp [valsF] at h
  | f + 1, bs, j, x, h, hx => by
    unfold valsF at h ⊢
    by_cases hb : bs = []
    · rw [if_pos hb] at h; simp at h
    · rw [if_neg hb] at h ⊢
      by_cases hc : (stepN k bs).2 = 0
      · rw [if_pos hc] at h ⊢
        cases j with
        | zero => simp only [List.getElem?_cons_zero, Option.some.injEq] at h; subst h; exact absurd rfl hx
        | succ j =>
          rw [List.getElem?_cons_succ] at h
          have ih := valsF_last k f _ j x h hx
          rw [List.getLast?_cons, ih]
          rfl
      · rw [if_neg hc] at h ⊢
        cases j with
        | zero => simp only [List.getElem?_cons_zero, Option.some.injEq] at h; subst h; rfl
        | succ j => simp at h

theorem codeV_bad {k : Int} {bs : List UInt8} {j : Nat} {x : List UInt8 × Nat} (h : (valsV k bs)[j]? = some x) (hx : x.2 ≠ 0) : codeV k bs = x.2 := by
  have hl : (valsV k bs).getLast? = some x := by
    unfold valsV at h ⊢
    by_cases hk : numberB k = false
    · rw [if_pos hk] at h ⊢
      cases j with
      | zero => simp only [List.getElem?_cons_zero, Option.some.injEq] at h; subst h; rfl
      | succ j => simp at h
    · rw [if_neg hk] at h ⊢
      exact valsF_last k _ bs j x h hx
  unfold codeV
  rw [hl]

theorem codeV_fine {k : Int} {bs : List UInt8} (h : ∀ (j : Nat) x, (valsV k bs)[j]? = some x → x.2 = 0) : codeV k bs = 0 := by
  unfold codeV
  rcases hl : (valsV k bs).getLast? with _ | x
  · rfl
  · obtain ⟨j, hj⟩ := List.getElem?_of_mem (List.mem_of_getLast? hl)
    exact h j x hj

/-- How many values a run has, if it is one. -/
def countV (k : Int) (bs : List UInt8) : Nat := if codeV k bs = 0 then (valsV k bs).length else 0

theorem valsF_len (k : Int) : ∀ (f : Nat) (bs : List UInt8), (valsF k f bs).length ≤ f
  | 0, bs => by simp [valsF]
  | f + 1, bs => by
    unfold valsF
    split
    · simp
    · split
      · have := valsF_len k f (bs.drop (stepN k bs).1); simp only [List.length_cons]; omega
      · simp

theorem valsV_len (k : Int) (bs : List UInt8) : (valsV k bs).length ≤ bs.length + 1 := by
  unfold valsV
  split
  · simp
  · have := valsF_len k bs.length bs; omega

end Go.Proofs.Ytlmmlmmadgcmcaa
