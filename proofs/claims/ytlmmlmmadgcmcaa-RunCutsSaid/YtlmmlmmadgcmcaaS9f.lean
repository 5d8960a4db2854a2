/- Plain words of layer 9: a run is canonical just when its words packed are its bytes. No program is named. -/
import Derived.Test.YtlmmlmmadgcmcaaS9e
namespace Go.Proofs.Ytlmmlmmadgcmcaa
open Go.RowKit
set_option linter.unusedVariables false

theorem halves {A B bs : List UInt8} {N : Nat} (h : A ++ B = bs) (hN : N = A.length) : bs.take N = A ∧ bs.drop N = B := by
  subst h hN
  exact ⟨List.take_left, List.drop_left⟩

/-- Each of these values is its word, packed, just when they all are, one behind the other. -/
theorem all_packed {k : Int} : ∀ (f : Nat) (bs : List UInt8), bs.length ≤ f → (∀ x ∈ valsF k f bs, x.2 = 0) →
    ((∀ x ∈ valsF k f bs, x.1 = putS k (readS k x.1).1) ↔ packW k ((valsF k f bs).map fun v => (readS k v.1).1) = bs)
  | 0, bs, h, _ => by rw [List.eq_nil_of_length_eq_zero (by omega : bs.length = 0)]; simp [valsF, packW]
  | f + 1, bs, h, hf => by
    by_cases hb : bs = []
    · subst hb; simp [valsF, packW]
    · rcases hs : stepN k bs with ⟨N, C⟩
      have hbd := stepN_bd k bs
      rw [hs] at hbd
      simp only at hbd
      by_cases hC : C = 0
      · subst hC
        rw [valsF_ok hb hs] at hf ⊢
        have ih := all_packed f (bs.drop N) (by rw [List.length_drop]; omega) (fun x hx => hf x (List.mem_cons_of_mem _ hx))
        have hw := (readS_bd k (bs.take N)).1
        simp only [List.map_cons, packW, List.mem_cons, forall_eq_or_imp]
        constructor
        · rintro ⟨h1, h2⟩
          rw [← h1, ih.1 h2, List.take_append_drop]
        · intro he
          have hst := stepN_put (k := k) hw (packW k ((valsF k f (bs.drop N)).map fun v => (readS k v.1).1))
          rw [he, hs] at hst
          have hN : N = (putS k (readS k (bs.take N)).1).length := congrArg Prod.fst hst
          obtain ⟨t1, t2⟩ := halves he hN
          exact ⟨t1, ih.2 t2.symm⟩
      · have e : valsF k (f + 1) bs = [([], C)] := by
          conv => lhs; unfold valsF
          rw [if_neg hb, hs, if_neg hC]
        rw [e] at hf
        exact absurd (hf _ (List.mem_singleton.2 rfl)) hC

end Go.Proofs.Ytlmmlmmadgcmcaa
