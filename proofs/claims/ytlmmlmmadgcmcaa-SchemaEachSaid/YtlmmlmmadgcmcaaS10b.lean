/- Plain laws of layer 10: all views. No program is named. -/
import Derived.Test.YtlmmlmmadgcmcaaS10
namespace Go.Proofs.Ytlmmlmmadgcmcaa
open Go.RowKit Go.Lib
set_option linter.unusedVariables false

theorem seenV_of {l : List FieldD} {r : Rec} {v : ViewD} (h : seenV l r = (v, 0)) : v.r = r := by
  rcases idxB_cases (numP (r.n : Int)) l with ⟨h1, _⟩ | ⟨k, f, h1, h2, _⟩
  · rw [seenV_none h1] at h; cases h; rfl
  · rw [seenV_some h1 h2] at h
    split at h
    · cases h; rfl
    · split at h
      · cases h; rfl
      · cases h

theorem seenV_le (l : List FieldD) (r : Rec) : (seenV l r).2 ≤ 6 := by
  rcases idxB_cases (numP (r.n : Int)) l with ⟨h1, _⟩ | ⟨k, f, h1, h2, _⟩
  · rw [seenV_none h1]; simp
  · rw [seenV_some h1 h2]
    split
    · simp
    · split <;> simp

theorem lookV_of {l : List FieldD} {bs : List UInt8} {p : Nat} {v : ViewD} (h : lookV l bs p = (v, 0)) : nextV bs p = (v.r, 0) ∧ seenV l v.r = (v, 0) := by
  unfold lookV at h
  by_cases hc : (nextV bs p).2 = 0
  · rw [if_pos hc] at h
    have hr := seenV_of h
    rw [hr]
    exact ⟨by rw [← hc], h⟩
  · rw [if_neg hc] at h
    simp only [Prod.mk.injEq] at h
    exact absurd h.2 hc

theorem lookV_le (l : List FieldD) (bs : List UInt8) (p : Nat) : (lookV l bs p).2 ≤ 6 := by
  unfold lookV
  split
  · exact seenV_le l _
  · have := nextV_le bs p
    show (nextV bs p).2 ≤ 6
    omega

def ViewD.to (v : ViewD) : Nat := v.r.t

theorem lookV_onward (l : List FieldD) (bs : List UInt8) : Onward (lookV l bs) ViewD.to bs.length := by
  intro p hp hc
  have h := lookV_of (l := l) (bs := bs) (p := p) (v := (lookV l bs p).1) (by rw [← hc])
  have := nextV_ok h.1
  unfold ViewD.to
  omega

theorem nextI_nat {bs : List UInt8} {p : Nat} (hp : p < bs.length) : nextI bs (p : Int) = nextV bs p := by
  unfold nextI
  rw [if_neg (by omega), Int.toNat_natCast]

theorem lookI_nat {l : List FieldD} {bs : List UInt8} {p : Nat} (hp : p < bs.length) : lookI l bs (p : Int) = lookV l bs p := by
  unfold lookI lookV
  rw [nextI_nat hp]

theorem lookI_le (l : List FieldD) (bs : List UInt8) (p : Int) : (lookI l bs p).2 ≤ 6 := by
  have h5 : (nextI bs p).2 ≤ 5 := by
    unfold nextI
    split
    · simp
    · exact nextV_le bs _
  unfold lookI
  split
  · exact seenV_le l _
  · show (nextI bs p).2 ≤ 6
    omega

/-- All views, or where and why there are none. -/
def viewsV (l : List FieldD) (bs : List UInt8) : List ViewD × Nat × Nat := scan (lookV l bs) ViewD.to bs.length 0

theorem viewsV_bd (l : List FieldD) (bs : List UInt8) : (viewsV l bs).2.1 ≤ bs.length ∧ (viewsV l bs).1.length ≤ bs.length ∧ ((viewsV l bs).2.2 ≠ 0 → (viewsV l bs).1 = []) ∧ ((viewsV l bs).2.2 = 0 → (viewsV l bs).2.1 = 0) := by
  have h := scan_code (lookV_onward l bs) bs.length 0 (by omega)
  unfold viewsV
  exact ⟨h.2.2.2 (by omega), by have := h.2.2.1 (by omega); omega, h.1, h.2.1⟩

theorem scan_le' {α : Type} {step : Nat → α × Nat} {to : α → Nat} {len m : Nat} (hO : Onward step to len) (h : ∀ p, (step p).2 ≤ m) : ∀ (k p : Nat), len - p ≤ k → (scan step to len p).2.2 ≤ m
  | 0, p, hk => by rw [scan_end (by omega)]; simp
  | k + 1, p, hk => by
    by_cases hp : len ≤ p
    · rw [scan_end hp]; simp
    · rcases hs : step p with ⟨x, C⟩
      have hC := h p
      rw [hs] at hC
      by_cases h0 : C = 0
      · subst h0
        have h1 := hO p (by omega) (by rw [hs])
        rw [hs] at h1
        rw [scan_ok hO (by omega) hs]
        have ih := scan_le' hO h k (to x) (by simp only at h1; omega)
        unfold pre
        split
        · simp
        · exact ih
      · rw [scan_fail (by omega) hs h0]
        exact hC

theorem viewsV_le (l : List FieldD) (bs : List UInt8) : (viewsV l bs).2.2 ≤ 6 := scan_le' (lookV_onward l bs) (lookV_le l bs) bs.length 0 (by omega)

end Go.Proofs.Ytlmmlmmadgcmcaa
