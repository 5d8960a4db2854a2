/- Lists that are read one thing behind the other: a step at a place tells a thing and a code. No program is named. -/
import Derived.WalkKit
namespace Go.Proofs.Ytlmmlmmadgcmcaa
set_option linter.unusedVariables false

section
variable {α : Type}

/-- Put ahead of what is read further on, unless that fails. -/
def pre (l : List α) (r : List α × Nat × Nat) : List α × Nat × Nat := if r.2.2 = 0 then (l ++ r.1, r.2.1, 0) else ([], r.2.1, r.2.2)

theorem pre_pre (l m : List α) (r : List α × Nat × Nat) : pre l (pre m r) = pre (l ++ m) r := by
  unfold pre
  by_cases h : r.2.2 = 0
  · simp [h]
  · simp [h]

def scanF (step : Nat → α × Nat) (to : α → Nat) (len : Nat) : Nat → Nat → List α × Nat × Nat
  | 0, _ => ([], 0, 0)
  | f + 1, p => if len ≤ p then ([], 0, 0) else if (step p).2 = 0 then pre [(step p).1] (scanF step to len f (to (step p).1)) else ([], p, (step p).2)

def scan (step : Nat → α × Nat) (to : α → Nat) (len p : Nat) : List α × Nat × Nat := scanF step to len (len - p) p

/-- Each step leads on. -/
def Onward (step : Nat → α × Nat) (to : α → Nat) (len : Nat) : Prop := ∀ p, p < len → (step p).2 = 0 → p < to (step p).1 ∧ to (step p).1 ≤ len

variable {step : Nat → α × Nat} {to : α → Nat} {len : Nat}

theorem scanF_fuel (hO : Onward step to len) : ∀ (f g p : Nat), len - p ≤ f → len - p ≤ g → scanF step to len f p = scanF step to len g p
  | 0, 0, _, _, _ => rfl
  | 0, g + 1, p, h, _ => by rw [scanF, scanF, if_pos (by omega)]
  | f + 1, 0, p, _, h => by rw [scanF, scanF, if_pos (by omega)]
  | f + 1, g + 1, p, h1, h2 => by
    rw [scanF, scanF]
    by_cases hp : len ≤ p
    · rw [if_pos hp, if_pos hp]
    · rw [if_neg hp, if_neg hp]
      by_cases hc : (step p).2 = 0
      · have := hO p (by omega) hc
        rw [if_pos hc, if_pos hc, scanF_fuel hO f g _ (by omega) (by omega)]
      · rw [if_neg hc, if_neg hc]

theorem scan_end {p : Nat} (h : len ≤ p) : scan step to len p = ([], 0, 0) := by
  unfold scan; rw [show len - p = 0 by omega]; rfl

theorem scan_ok (hO : Onward step to len) {p : Nat} (h : p < len) {x : α} (hs : step p = (x, 0)) : scan step to len p = pre [x] (scan step to len (to x)) := by
  have h1 := hO p h (by rw [hs])
  rw [hs] at h1
  simp only at h1
  unfold scan
  obtain ⟨k, hk⟩ : ∃ k, len - p = k + 1 := ⟨len - p - 1, by omega⟩
  rw [hk, scanF, if_neg (by omega), hs, if_pos rfl]
  simp only
  rw [scanF_fuel hO k (len - to x) _ (by omega) (Nat.le_refl _)]

theorem scan_fail {p : Nat} (h : p < len) {x : α} {C : Nat} (hs : step p = (x, C)) (hC : C ≠ 0) : scan step to len p = ([], p, C) := by
  unfold scan
  obtain ⟨k, hk⟩ : ∃ k, len - p = k + 1 := ⟨len - p - 1, by omega⟩
  rw [hk, scanF, if_neg (by omega), hs]
  simp only
  rw [if_neg hC]

theorem pre_fail (l : List α) {p C : Nat} (hC : C ≠ 0) : pre l ([], p, C) = ([], p, C) := by unfold pre; rw [if_neg hC]

theorem pre_end (l : List α) : pre l ([], 0, 0) = (l, 0, 0) := by unfold pre; simp

theorem pre_nil (r : List α × Nat × Nat) (h : r.2.2 ≠ 0 → r.1 = []) : pre [] r = r := by
  unfold pre
  by_cases h0 : r.2.2 = 0
  · rw [if_pos h0]; ext <;> simp [h0]
  · rw [if_neg h0]; rw [← h h0]

theorem scan_code (hO : Onward step to len) : ∀ (m p : Nat), len - p ≤ m → ((scan step to len p).2.2 ≠ 0 → (scan step to len p).1 = []) ∧ ((scan step to len p).2.2 = 0 → (scan step to len p).2.1 = 0) ∧ (p ≤ len → (scan step to len p).1.length ≤ len - p) ∧ (p ≤ len → (scan step to len p).2.1 ≤ len)
  | 0, p, h => by rw [scan_end (by omega)]; simp
  | m + 1, p, h => by
    by_cases hp : len ≤ p
    · rw [scan_end hp]; simp
    · rcases hs : step p with ⟨x, C⟩
      by_cases hC : C = 0
      · subst hC
        have h1 := hO p (by omega) (by rw [hs])
        rw [hs] at h1
        simp only at h1
        have ih := scan_code hO m (to x) (by omega)
        rw [scan_ok hO (by omega) hs]
        unfold pre
        by_cases h0 : (scan step to len (to x)).2.2 = 0
        · rw [if_pos h0]
          refine ⟨by simp, fun _ => ih.2.1 h0, fun _ => ?_, fun _ => ih.2.2.2 h1.2⟩
          have := ih.2.2.1 h1.2
          simp; omega
        · rw [if_neg h0]
          exact ⟨by simp, by simp [h0], by simp, fun _ => ih.2.2.2 h1.2⟩
      · rw [scan_fail (by omega) hs hC]
        exact ⟨by simp, by simp [hC], by simp, fun _ => by simp; omega⟩

theorem pre_scan (hO : Onward step to len) (p : Nat) : pre [] (scan step to len p) = scan step to len p := pre_nil _ (scan_code hO _ p (Nat.le_refl _)).1

/-- What holds of each thing that is read. -/
theorem scan_all (hO : Onward step to len) {P : α → Prop} (hP : ∀ p x, p < len → step p = (x, 0) → P x) : ∀ (m p : Nat), len - p ≤ m → ∀ x ∈ (scan step to len p).1, P x
  | 0, p, h => by rw [scan_end (by omega)]; simp
  | m + 1, p, h => by
    by_cases hp : len ≤ p
    · rw [scan_end hp]; simp
    · rcases hs : step p with ⟨x, C⟩
      by_cases hC : C = 0
      · subst hC
        have h1 := hO p (by omega) (by rw [hs])
        rw [hs] at h1
        simp only at h1
        have ih := scan_all hO hP m (to x) (by omega)
        rw [scan_ok hO (by omega) hs]
        unfold pre
        by_cases h0 : (scan step to len (to x)).2.2 = 0
        · rw [if_pos h0]
          intro y hy
          simp only [List.singleton_append, List.mem_cons] at hy
          rcases hy with rfl | hy
          · exact hP p _ (by omega) hs
          · exact ih y hy
        · rw [if_neg h0]; simp
      · rw [scan_fail (by omega) hs hC]; simp
end

end Go.Proofs.Ytlmmlmmadgcmcaa
