/- Contracts of layer 11: the reference. -/
import Derived.Test.YtlhbllaojjelcaaDoorW11b
namespace Go.Proofs.YtlhbllaojjelcaaDoor
open Go.RowKit
set_option linter.unusedVariables false

theorem scan_where {α : Type} {s1 : Nat → α × Nat} {tt : α → Nat} {len : Nat} (hO : Onward s1 tt len) : ∀ (m p : Nat), len - p ≤ m → (scan s1 tt len p).2.2 ≠ 0 → (scan s1 tt len p).2.1 < len ∧ (s1 (scan s1 tt len p).2.1).2 = (scan s1 tt len p).2.2
  | 0, p, h, hc => by rw [scan_end (by omega)] at hc; exact absurd rfl hc
  | m + 1, p, h, hc => by
    by_cases hp : len ≤ p
    · rw [scan_end hp] at hc; exact absurd rfl hc
    · rcases hs : s1 p with ⟨x, C⟩
      by_cases hC : C = 0
      · subst hC
        have hx := hO p (by omega) (by rw [hs])
        rw [hs] at hx
        simp only at hx
        rw [scan_ok hO (by omega) hs] at hc ⊢
        unfold pre at hc ⊢
        by_cases c : (scan s1 tt len (tt x)).2.2 = 0
        · rw [if_pos c] at hc; exact absurd rfl hc
        · rw [if_neg c]
          exact scan_where hO m (tt x) (by omega) c
      · rw [scan_fail (by omega) hs hC]
        exact ⟨by simp only; omega, by rw [hs]⟩

theorem firstV_place (S : List MsgD) : ∀ (k m : Nat) (bs : List UInt8), (firstV S k m bs).1 ≤ bs.length := by
  have key : ∀ (sub : Option (Nat → List UInt8 → Nat × Nat)), (∀ g, sub = some g → ∀ m bs, (g m bs).1 ≤ bs.length) → ∀ m bs, (checkM sub S m bs).1 ≤ bs.length := by
    intro sub hs m bs
    unfold checkM
    rcases S[m]? with _ | M
    · simp
    · simp only
      unfold fromC
      by_cases hc : (scan (stepC sub M.fields bs) ViewD.to bs.length 0).2.2 = 0
      · rw [if_pos hc]; simp
      · rw [if_neg hc]
        obtain ⟨h1, h2⟩ := scan_where (stepC_and sub M.fields bs).1 bs.length 0 (by omega) hc
        generalize (scan (stepC sub M.fields bs) ViewD.to bs.length 0).2.1 = p at *
        simp only
        unfold placeC
        by_cases hl : (lookV M.fields bs p).2 = 0
        · rw [if_pos hl]
          have h3 := nextV_ok (lookV_of (v := (lookV M.fields bs p).1) (by rw [← hl])).1
          generalize (lookV M.fields bs p).1 = v at *
          unfold valueC
          split
          · simp
          · split
            · simp
            · split
              · simp only; omega
              · split
                · simp only; omega
                · split
                  · split
                    · simp only; omega
                    · have := hs _ rfl ‹FieldD›.of_.toNat (spanB bs v.r.a v.r.t)
                      rw [spanB_length bs h3.2.2.2.2] at this
                      simp only
                      omega
                  · simp
        · rw [if_neg hl]
          omega
  intro k
  induction k with
  | zero => exact key none (fun g h => by cases h)
  | succ k ih => exact key (some (firstV S k)) (fun g h => by cases h; exact ih)

end Go.Proofs.YtlhbllaojjelcaaDoor
