/- Plain words of layer 9: a run is its values, one behind the other. No program is named. -/
import Derived.Test.YtlmmlmmadgcmcaaS9d
namespace Go.Proofs.Ytlmmlmmadgcmcaa
open Go.RowKit
set_option linter.unusedVariables false

def joinL (l : List (List UInt8 × Nat)) : List UInt8 := l.flatMap (·.1)

theorem joinL_length : ∀ l, (joinL l).length = sumL l
  | [] => rfl
  | v :: l => by
    have := joinL_length l
    unfold joinL at this ⊢
    simp only [List.flatMap_cons, List.length_append, sumL]
    omega

theorem valsF_join {k : Int} : ∀ (f : Nat) (bs : List UInt8), bs.length ≤ f → (∀ x ∈ valsF k f bs, x.2 = 0) → joinL (valsF k f bs) = bs
  | 0, bs, h, _ => by rw [List.eq_nil_of_length_eq_zero (by omega : bs.length = 0)]; rfl
  | f + 1, bs, h, hf => by
    by_cases hb : bs = []
    · subst hb; simp [valsF, joinL]
    · rcases hs : stepN k bs with ⟨N, C⟩
      have hbd := stepN_bd k bs
      rw [hs] at hbd
      simp only at hbd
      by_cases hC : C = 0
      · subst hC
        rw [valsF_ok hb hs] at hf ⊢
        have ih := valsF_join f (bs.drop N) (by rw [List.length_drop]; omega) (fun x hx => hf x (List.mem_cons_of_mem _ hx))
        unfold joinL at ih ⊢
        rw [List.flatMap_cons, ih]
        exact List.take_append_drop N bs
      · have e : valsF k (f + 1) bs = [([], C)] := by
          conv => lhs; unfold valsF
          rw [if_neg hb, hs, if_neg hC]
        rw [e] at hf
        exact absurd (hf _ (List.mem_singleton.2 rfl)) hC

theorem codeV_all {k : Int} {bs : List UInt8} (h : codeV k bs = 0) : ∀ x ∈ valsV k bs, x.2 = 0 := by
  intro x hx
  obtain ⟨j, hj⟩ := List.getElem?_of_mem hx
  by_cases h0 : x.2 = 0
  · exact h0
  · have := codeV_bad hj h0
    omega

theorem codeV_number {k : Int} {bs : List UInt8} (h : codeV k bs = 0) : numberB k = true := by
  rcases hk : numberB k with _ | _
  · have : codeV k bs = 2 := codeV_bad (j := 0) (x := ([], 2)) (by unfold valsV; rw [if_pos hk]; rfl) (by simp)
    omega
  · rfl

theorem codeV_no {k : Int} {bs : List UInt8} (hk : numberB k = false) : codeV k bs = 2 :=
  codeV_bad (j := 0) (x := ([], 2)) (by unfold valsV; rw [if_pos hk]; rfl) (by simp)

theorem valsV_join {k : Int} {bs : List UInt8} (h : codeV k bs = 0) : joinL (valsV k bs) = bs := by
  have ha := codeV_all h
  unfold valsV at ha ⊢
  rw [if_neg (by rw [codeV_number h]; simp)] at ha ⊢
  exact valsF_join _ bs (Nat.le_refl _) ha

theorem endsOf_at : ∀ (l : List (List UInt8 × Nat)) (a p : Nat), p < l.length → (endsOf a l)[p]? = some (a + sumL (l.take (p + 1)))
  | v :: l, a, 0, _ => by simp [endsOf, sumL]
  | v :: l, a, p + 1, h => by
    simp only [List.length_cons] at h
    simp only [endsOf, List.getElem?_cons_succ, endsOf_at l (a + v.1.length) p (by omega), List.take_succ_cons, sumL]
    rw [Nat.add_assoc]

theorem joinL_cut : ∀ (l : List (List UInt8 × Nat)) (p : Nat) (x : List UInt8 × Nat), l[p]? = some x → ((joinL l).take (sumL (l.take (p + 1)))).drop (sumL (l.take p)) = x.1 ∧ sumL (l.take (p + 1)) = sumL (l.take p) + x.1.length ∧ sumL (l.take (p + 1)) ≤ (joinL l).length
  | v :: l, 0, x, h => by
    simp only [List.getElem?_cons_zero, Option.some.injEq] at h
    subst h
    simp [joinL, sumL]
  | v :: l, p + 1, x, h => by
    rw [List.getElem?_cons_succ] at h
    obtain ⟨h1, h2, h3⟩ := joinL_cut l p x h
    have e : joinL (v :: l) = v.1 ++ joinL l := rfl
    simp only [List.take_succ_cons, sumL, e, List.length_append]
    refine ⟨?_, by omega, by omega⟩
    rw [List.take_length_add_append, List.drop_length_add_append]
    exact h1

end Go.Proofs.Ytlmmlmmadgcmcaa
