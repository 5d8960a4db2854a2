/- Plain laws of layer 5: records. No program is named. -/
import Derived.Test.YtlmmlmmadgcmcaaS2
import Derived.Test.YtlmmlmmadgcmcaaScan
namespace Go.Proofs.Ytlmmlmmadgcmcaa
open Go.RowKit Go.Lib
set_option linter.unusedVariables false

/-- The value at the head of bytes: how many bytes stand ahead, how many it has; the code. -/
def sizeV (wire : Nat) (bs : List UInt8) : Nat × Nat × Nat :=
  if wire = 0 then (0, (readV bs).2.1, (readV bs).2.2)
  else if wire = 1 then (0, 8, 0)
  else if wire = 5 then (0, 4, 0)
  else ((readV bs).2.1, (readV bs).1, (readV bs).2.2)

theorem sizeV_bd (wire : Nat) (bs : List UInt8) : (sizeV wire bs).1 ≤ bs.length ∧ (sizeV wire bs).1 ≤ 10 ∧ (sizeV wire bs).2.1 < 18446744073709551616 ∧ (sizeV wire bs).2.2 ≤ 4 := by
  have h := readV_bd bs
  unfold sizeV
  split
  · exact ⟨by simp, by simp, by simp only; omega, h.2.2.2.1⟩
  · split
    · simp
    · split
      · simp
      · exact ⟨h.2.1, h.2.2.1, h.1, h.2.2.2.1⟩

structure Rec where
  n : Nat
  w : Nat
  f : Nat
  a : Nat
  t : Nat
  deriving DecidableEq

def Rec.zero : Rec := ⟨0, 0, 0, 0, 0⟩

/-- The record at the head of bytes: number, wire type, where its value begins, where it ends; the code. -/
def headV (bs : List UInt8) : Nat × Nat × Nat × Nat × Nat :=
  if (tagV bs).2.2.2 ≠ 0 then (0, 0, 0, 0, (tagV bs).2.2.2)
  else if (sizeV (tagV bs).2.1 (bs.drop (tagV bs).2.2.1)).2.2 ≠ 0 then (0, 0, 0, 0, (sizeV (tagV bs).2.1 (bs.drop (tagV bs).2.2.1)).2.2)
  else if bs.length - ((tagV bs).2.2.1 + (sizeV (tagV bs).2.1 (bs.drop (tagV bs).2.2.1)).1) < (sizeV (tagV bs).2.1 (bs.drop (tagV bs).2.2.1)).2.1 then (0, 0, 0, 0, 3)
  else ((tagV bs).1, (tagV bs).2.1, (tagV bs).2.2.1 + (sizeV (tagV bs).2.1 (bs.drop (tagV bs).2.2.1)).1, (tagV bs).2.2.1 + (sizeV (tagV bs).2.1 (bs.drop (tagV bs).2.2.1)).1 + (sizeV (tagV bs).2.1 (bs.drop (tagV bs).2.2.1)).2.1, 0)

theorem headV_tag {bs : List UInt8} {T V N C : Nat} (h : tagV bs = (T, V, N, C)) (hC : C ≠ 0) : headV bs = (0, 0, 0, 0, C) := by
  unfold headV; rw [h]; rw [if_pos hC]

theorem headV_size {bs : List UInt8} {T V N a g C : Nat} (h : tagV bs = (T, V, N, 0)) (hs : sizeV V (bs.drop N) = (a, g, C)) (hC : C ≠ 0) : headV bs = (0, 0, 0, 0, C) := by
  unfold headV; rw [h]; simp only; rw [hs, if_neg (by simp), if_pos hC]

theorem headV_short {bs : List UInt8} {T V N a g : Nat} (h : tagV bs = (T, V, N, 0)) (hs : sizeV V (bs.drop N) = (a, g, 0)) (hl : bs.length - (N + a) < g) : headV bs = (0, 0, 0, 0, 3) := by
  unfold headV; rw [h]; simp only; rw [hs, if_neg (by simp), if_neg (by simp), if_pos hl]

theorem headV_ok {bs : List UInt8} {T V N a g : Nat} (h : tagV bs = (T, V, N, 0)) (hs : sizeV V (bs.drop N) = (a, g, 0)) (hl : ¬ bs.length - (N + a) < g) : headV bs = (T, V, N + a, N + a + g, 0) := by
  unfold headV; rw [h]; simp only; rw [hs, if_neg (by simp), if_neg (by simp), if_neg hl]

def shiftR (p : Nat) (h : Nat × Nat × Nat × Nat × Nat) : Rec × Nat := if h.2.2.2.2 = 0 then (⟨h.1, h.2.1, p, p + h.2.2.1, p + h.2.2.2.1⟩, 0) else (Rec.zero, h.2.2.2.2)

/-- The record at a place among bytes; the code. -/
def nextV (bs : List UInt8) (p : Nat) : Rec × Nat := shiftR p (headV (bs.drop p))

def nextI (bs : List UInt8) (p : Int) : Rec × Nat := if p < 0 ∨ (bs.length : Int) ≤ p then (Rec.zero, 2) else nextV bs p.toNat

/-- What a record's head says. -/
theorem headV_cases (bs : List UInt8) : (∃ C, headV bs = (0, 0, 0, 0, C) ∧ C ≠ 0 ∧ C ≤ 5) ∨
    ∃ T V N a g, tagV bs = (T, V, N, 0) ∧ sizeV V (bs.drop N) = (a, g, 0) ∧ N + a + g ≤ bs.length ∧ 1 ≤ N ∧ headV bs = (T, V, N + a, N + a + g, 0) := by
  rcases ht : tagV bs with ⟨T, V, N, C⟩
  have tb := tagV_bd bs
  rw [ht] at tb
  simp only at tb
  by_cases hC : C = 0
  · subst hC
    rcases hs : sizeV V (bs.drop N) with ⟨a, g, D⟩
    have sb := sizeV_bd V (bs.drop N)
    rw [hs, List.length_drop] at sb
    simp only at sb
    by_cases hD : D = 0
    · subst hD
      by_cases hl : bs.length - (N + a) < g
      · exact .inl ⟨3, headV_short ht hs hl, by omega, by omega⟩
      · refine .inr ⟨T, V, N, a, g, rfl, hs, by omega, ?_, headV_ok ht hs hl⟩
        have := tb.2.2.2.2.2 rfl
        omega
    · exact .inl ⟨D, headV_size ht hs hD, hD, by omega⟩
  · exact .inl ⟨C, headV_tag ht hC, hC, tb.1⟩

theorem headV_bd {bs : List UInt8} {T V a t : Nat} (h : headV bs = (T, V, a, t, 0)) : 1 ≤ a ∧ a ≤ t ∧ t ≤ bs.length := by
  rcases headV_cases bs with ⟨C, h1, h2, _⟩ | ⟨T', V', N, a', g, _, _, h3, h4, h5⟩
  · rw [h] at h1; simp only [Prod.mk.injEq] at h1; exact absurd h1.2.2.2.2.symm h2
  · rw [h] at h5; simp only [Prod.mk.injEq] at h5; omega

theorem headV_le (bs : List UInt8) : (headV bs).2.2.2.2 ≤ 5 := by
  rcases headV_cases bs with ⟨C, h1, _, h2⟩ | ⟨T', V', N, a', g, _, _, h3, h4, h5⟩
  · rw [h1]; exact h2
  · rw [h5]; simp

theorem nextV_ok {bs : List UInt8} {p : Nat} {r : Rec} (h : nextV bs p = (r, 0)) : headV (bs.drop p) = (r.n, r.w, r.a - p, r.t - p, 0) ∧ r.f = p ∧ p < r.a ∧ r.a ≤ r.t ∧ r.t ≤ bs.length := by
  unfold nextV shiftR at h
  by_cases hc : (headV (bs.drop p)).2.2.2.2 = 0
  · rw [if_pos hc] at h
    simp only [Prod.mk.injEq, and_true] at h
    rcases hh : headV (bs.drop p) with ⟨T, V, a, t, C⟩
    rw [hh] at h hc
    simp only at h hc
    subst hc
    have hb := headV_bd hh
    rw [List.length_drop] at hb
    subst h
    simp only
    refine ⟨by simp, trivial, by omega, by omega, by omega⟩
  · rw [if_neg hc] at h
    simp only [Prod.mk.injEq] at h
    exact absurd h.2 hc

theorem nextV_le (bs : List UInt8) (p : Nat) : (nextV bs p).2 ≤ 5 := by
  unfold nextV shiftR
  have := headV_le (bs.drop p)
  split
  · simp
  · exact this

theorem nextV_zero {bs : List UInt8} {p : Nat} (h : (nextV bs p).2 ≠ 0) : (nextV bs p).1 = Rec.zero := by
  unfold nextV shiftR at h ⊢
  split at h
  · simp at h
  · rename_i hc; rw [if_neg hc]

theorem nextV_onward (bs : List UInt8) : Onward (nextV bs) Rec.t bs.length := by
  intro p hp hc
  have := nextV_ok (bs := bs) (p := p) (r := (nextV bs p).1) (by rw [← hc])
  omega

/-- All records, or where and why they end. -/
def splitV (bs : List UInt8) : List Rec × Nat × Nat := scan (nextV bs) Rec.t bs.length 0

end Go.Proofs.Ytlmmlmmadgcmcaa
