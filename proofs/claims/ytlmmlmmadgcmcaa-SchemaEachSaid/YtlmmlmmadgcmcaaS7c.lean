/- Plain laws of layer 7: in a right schema each thing is found; a schema less its last message. No program is named. -/
import Derived.Test.YtlmmlmmadgcmcaaS7b
namespace Go.Proofs.Ytlmmlmmadgcmcaa
open Go.RowKit
set_option linter.unusedVariables false

theorem idx_of_distinct {α β : Type} [DecidableEq β] {l : List α} {f : α → β} {k : Nat} {x : α} (hx : l[k]? = some x) (hn : ((l.take k).any fun g => decide (f g = f x)) = false) : idxB (fun g => decide (f g = f x)) l = (k : Nat) := by
  refine idxB_found hx (by simp) (fun j y hj hy => ?_)
  rw [List.any_eq_false] at hn
  have := hn y (List.mem_of_getElem? (by rw [List.getElem?_take_of_lt hj]; exact hy))
  simpa using this

theorem faultV_inv {n : Nat} {before : List FieldD} {f : FieldD} (h : faultV n before f = 0) :
    nameB f.name = true ∧ (before.any fun g => decide (g.name = f.name)) = false ∧ usableB f.number = true ∧ (before.any fun g => decide (g.number = f.number)) = false ∧ kindB f.kind = true ∧ (f.packed && !(f.rep && numberB f.kind)) = false ∧ ofB n f = false := by
  unfold faultV at h
  by_cases h1 : nameB f.name = false
  · rw [if_pos h1] at h; omega
  · rw [if_neg h1] at h
    by_cases h2 : (before.any fun g => decide (g.name = f.name)) = true
    · rw [if_pos h2] at h; omega
    · rw [if_neg h2] at h
      by_cases h3 : usableB f.number = false
      · rw [if_pos h3] at h; omega
      · rw [if_neg h3] at h
        by_cases h4 : (before.any fun g => decide (g.number = f.number)) = true
        · rw [if_pos h4] at h; omega
        · rw [if_neg h4] at h
          by_cases h5 : kindB f.kind = false
          · rw [if_pos h5] at h; omega
          · rw [if_neg h5] at h
            by_cases h6 : (f.packed && !(f.rep && numberB f.kind)) = true
            · rw [if_pos h6] at h; omega
            · rw [if_neg h6] at h
              by_cases h7 : ofB n f = true
              · rw [if_pos h7] at h; omega
              · simp only [Bool.not_eq_false, Bool.not_eq_true] at h1 h2 h3 h4 h5 h6 h7
                exact ⟨h1, h2, h3, h4, h5, h6, h7⟩

theorem faultV_mk {n : Nat} {before : List FieldD} {f : FieldD} (h : nameB f.name = true ∧ (before.any fun g => decide (g.name = f.name)) = false ∧ usableB f.number = true ∧ (before.any fun g => decide (g.number = f.number)) = false ∧ kindB f.kind = true ∧ (f.packed && !(f.rep && numberB f.kind)) = false ∧ ofB n f = false) :
    faultV n before f = 0 := by
  obtain ⟨h1, h2, h3, h4, h5, h6, h7⟩ := h
  unfold faultV
  rw [if_neg (by rw [h1]; simp), if_neg (by rw [h2]; simp), if_neg (by rw [h3]; simp), if_neg (by rw [h4]; simp), if_neg (by rw [h5]; simp), if_neg (by rw [h6]; simp), if_neg (by rw [h7]; simp)]

/-- What a right schema's messages and fields are. -/
theorem right_msg {S : List MsgD} (h : rightS S = true) {i : Nat} {m : MsgD} (hm : S[i]? = some m) :
    nameB m.name = true ∧ ((S.take i).any fun g => decide (g.name = m.name)) = false ∧ m.fields.length ≤ 200 ∧ ∀ (k : Nat) f, m.fields[k]? = some f → faultV S.length (m.fields.take k) f = 0 :=
  msgF_inv hm ((rightS_inv h).2.2 i m hm)

theorem right_name {S : List MsgD} (h : rightS S = true) {i : Nat} {m : MsgD} (hm : S[i]? = some m) : idxB (fun g => decide (g.name = m.name)) S = (i : Nat) := idx_of_distinct (f := MsgD.name) hm (right_msg h hm).2.1

theorem right_field {S : List MsgD} (h : rightS S = true) {i k : Nat} {m : MsgD} {f : FieldD} (hm : S[i]? = some m) (hf : m.fields[k]? = some f) :
    idxB (fun g : FieldD => decide (g.name = f.name)) m.fields = (k : Nat) ∧ idxB (fun g : FieldD => decide (g.number = f.number)) m.fields = (k : Nat) := by
  obtain ⟨h1, h2, h3, h4, _⟩ := faultV_inv ((right_msg h hm).2.2.2 k f hf)
  exact ⟨idx_of_distinct (f := FieldD.name) hf h2, idx_of_distinct (f := FieldD.number) hf h4⟩

/-- A schema less its last message is right, if no field is of that. -/
theorem right_less {S : List MsgD} (h : rightS S = true) (hl : 2 ≤ S.length) (hno : ∀ (i : Nat) m, i < S.length - 1 → S[i]? = some m → ∀ f ∈ m.fields, ¬ (f.kind = 17 ∧ f.of_ = ((S.length - 1 : Nat) : Int))) : rightS (S.take (S.length - 1)) = true := by
  obtain ⟨r1, r2, r3⟩ := rightS_inv h
  have hlen : (S.take (S.length - 1)).length = S.length - 1 := by rw [List.length_take]; omega
  have hv : checkV (S.take (S.length - 1)) = (0, 0, 0) := by
    refine checkV_ok (by rw [hlen]; omega) (fun j hj => ?_)
    rw [hlen] at hj
    obtain ⟨m, hm⟩ : ∃ m, S[j]? = some m := ⟨_, List.getElem?_eq_getElem (by omega)⟩
    have hm2 : (S.take (S.length - 1))[j]? = some m := by rw [List.getElem?_take_of_lt hj]; exact hm
    obtain ⟨a1, a2, a3, a4⟩ := right_msg h hm
    refine msgF_ok hm2 a1 (by rw [List.take_take, Nat.min_eq_left (by omega)]; exact a2) (by omega) (fun k hk => ?_)
    obtain ⟨f, hf⟩ : ∃ f, m.fields[k]? = some f := ⟨_, List.getElem?_eq_getElem hk⟩
    obtain ⟨b1, b2, b3, b4, b5, b6, b7⟩ := faultV_inv (a4 k f hf)
    unfold fieldF
    simp only [hf]
    rw [if_pos]
    refine faultV_mk ⟨b1, b2, b3, b4, b5, b6, ?_⟩
    have hn := hno j m hj hm f (List.mem_of_getElem? hf)
    rw [hlen]
    unfold ofB at b7 ⊢
    simp only [Bool.or_eq_false_iff, Bool.and_eq_false_iff, beq_eq_false_iff_ne, decide_eq_false_iff_not, bne_eq_false_iff_eq] at b7 ⊢
    refine ⟨?_, b7.2⟩
    rcases b7.1 with c | ⟨c1, c2⟩
    · exact .inl c
    · by_cases hk17 : f.kind = 17
      · have : f.of_ ≠ ((S.length - 1 : Nat) : Int) := fun e => hn ⟨hk17, e⟩
        exact .inr ⟨c1, by omega⟩
      · exact .inl hk17
  unfold rightS
  rw [hv]
  rfl

end Go.Proofs.Ytlmmlmmadgcmcaa
