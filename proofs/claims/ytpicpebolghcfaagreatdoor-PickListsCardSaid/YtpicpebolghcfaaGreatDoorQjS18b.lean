/- Plain words of layers 15 and 17: meanings, joined. -/
import Derived.Test.YtpicpebolghcfaaGreatDoorQjS4
import Derived.Test.YtpicpebolghcfaaGreatDoorQjS14o

/- Plain words of layer 17: where a message may be cut. No program is named. -/
namespace Go.Proofs.YtpicpebolghcfaaGreatDoor
open Go.RowKit
set_option linter.unusedVariables false

section
variable {S : List MsgD} {d m : Nat} {M : MsgD}

theorem firstV_nil (S : List MsgD) (d m : Nat) : (firstV S d m []).2 = 0 := by
  rw [firstV_eq]
  unfold checkM
  rcases S[m]? with _ | M
  · rfl
  · simp only
    rw [fromC_end (by simp)]

end

end Go.Proofs.YtpicpebolghcfaaGreatDoor

/- Plain words of layer 15: meanings, joined; what two messages' bytes mean, one behind the other. -/
namespace Go.Proofs.YtpicpebolghcfaaGreatDoor
open Go.RowKit
set_option linter.unusedVariables false

section
variable {fs : List FieldD} {a b : List UInt8} {i : Nat} {f : FieldD}

end

section
variable {fs : List FieldD} {a b bs : List UInt8} {i : Nat} {f : FieldD} {sub : Nat → List UInt8 → MsgT} {sj : Nat → MsgT → MsgT → MsgT}

theorem own_things (hf : fs[i]? = some f) (hne : viewsO (viewsV fs bs).1 i ≠ []) : (numberB f.kind = true ∧ (viewsO (viewsV fs bs).1 i).flatMap (piecesO f bs) = [] ∧ (f.rep = false → (viewsO (viewsV fs bs).1 i).flatMap (wordsO f bs) ≠ [])) ∨
    (numberB f.kind = false ∧ (viewsO (viewsV fs bs).1 i).flatMap (wordsO f bs) = [] ∧ (viewsO (viewsV fs bs).1 i).flatMap (piecesO f bs) ≠ []) := by
  rcases hn : numberB f.kind with _ | _
  · refine .inr ⟨rfl, ?_, ?_⟩
    · rw [List.flatMap_eq_nil_iff]
      intro v hv
      rcases own_view (own_bd hv).1 (own_bd hv).2.1 hf with ⟨_, _, q⟩ | ⟨q, _⟩
      · rw [hn] at q
        cases q
      · unfold wordsO
        rw [q, hn]
        rfl
    · obtain ⟨v, l, hl⟩ := List.exists_cons_of_ne_nil hne
      have hv : v ∈ viewsO (viewsV fs bs).1 i := by rw [hl]; exact List.mem_cons_self
      intro q
      rw [List.flatMap_eq_nil_iff] at q
      have h1 := q v hv
      rcases own_view (own_bd hv).1 (own_bd hv).2.1 hf with ⟨_, _, q⟩ | ⟨q, _⟩
      · rw [hn] at q
        cases q
      · unfold piecesO at h1
        rw [q, hn] at h1
        cases h1
  · refine .inl ⟨rfl, pieces_number hn _, fun hr => ?_⟩
    obtain ⟨v, l, hl⟩ := List.exists_cons_of_ne_nil hne
    have hv : v ∈ viewsO (viewsV fs bs).1 i := by rw [hl]; exact List.mem_cons_self
    intro q
    rw [List.flatMap_eq_nil_iff] at q
    have h1 := q v hv
    rcases own_view (own_bd hv).1 (own_bd hv).2.1 hf with ⟨_, q, _⟩ | ⟨q, _⟩
    · rw [hr] at q
      cases q
    · unfold wordsO at h1
      rw [q, hn] at h1
      cases h1

end

end Go.Proofs.YtpicpebolghcfaaGreatDoor

/- Plain words of layer 15: values put one by one; what two messages mean, one behind the other, is their meanings, joined. -/
namespace Go.Proofs.YtpicpebolghcfaaGreatDoor
open Go.RowKit
set_option linter.unusedVariables false

section
variable {v : ValT} {F : List Nat} {N : Nat → Int} {g : Nat → Option ValT}

end

end Go.Proofs.YtpicpebolghcfaaGreatDoor

/- Plain words of layer 15: what two valid messages mean, one behind the other, is their meanings, joined. -/
namespace Go.Proofs.YtpicpebolghcfaaGreatDoor
open Go.RowKit
set_option linter.unusedVariables false

theorem find_place {N : Nat → Int} {g : Nat → Option ValT} : ∀ {F : List Nat}, F.Pairwise (fun i j => N i < N j) → (∀ i u, g i = some u → u.number = N i) → ∀ {j : Nat}, j ∈ F → (F.filterMap g).find? (fun u => u.number == N j) = g j
  | [], _, _, j, hj => by cases hj
  | i :: F, hp, hg, j, hj => by
    rw [List.pairwise_cons] at hp
    rw [List.filterMap_cons]
    by_cases hij : i = j
    · subst hij
      rcases hgi : g i with _ | u
      · simp only
        rw [List.find?_eq_none]
        intro x hx
        obtain ⟨k, hk, hgk⟩ := List.mem_filterMap.1 hx
        have := hg k x hgk
        have := hp.1 k hk
        simp
        omega
      · simp only
        rw [List.find?_cons_of_pos]
        simpa using hg i u hgi
    · have hjF : j ∈ F := by
        rcases List.mem_cons.1 hj with h | h
        · exact absurd h.symm hij
        · exact h
      have ih := find_place hp.2 hg hjF
      rcases hgi : g i with _ | u
      · simp only
        exact ih
      · simp only
        rw [List.find?_cons_of_neg, ih]
        have := hg i u hgi
        have := hp.1 j hjF
        simp
        omega

section
variable {S : List MsgD} {m : Nat} {M : MsgD} {fs : List FieldD} {bs : List UInt8} {i : Nat} {f : FieldD} {sub : Nat → List UInt8 → MsgT} {sj : Nat → MsgT → MsgT → MsgT}

theorem right_sorted (hR : rightS S = true) (hM : S[m]? = some M) : (sortK (keyF M.fields) M.fields.length).Pairwise (fun i j => keyF M.fields i < keyF M.fields j) := by
  refine (sortK_pair (keyF M.fields) M.fields.length).imp_of_mem (fun {i j} hi hj h => ?_)
  have h1 := sortK_mem.1 hi
  have h2 := sortK_mem.1 hj
  have e1 := List.getElem?_eq_getElem h1
  have e2 := List.getElem?_eq_getElem h2
  have k1 := keyF_at e1
  have k2 := keyF_at e2
  have q1 := (right_field hR hM e1).2
  have q2 := (right_field hR hM e2).2
  unfold ltK at h
  by_cases he : keyF M.fields i = keyF M.fields j
  · exfalso
    rw [k1, k2] at he
    rw [he, q2] at q1
    omega
  · omega

theorem place_number {L : List ViewD} {u : ValT} (h : placeO sub fs bs L i = some u) : u.number = keyF fs i ∧ manyU u ≠ 0 ∧ ∃ f, fs[i]? = some f := by
  obtain ⟨f, hf, _, rfl, hm⟩ := place_some h
  exact ⟨(keyF_at hf).symm, hm, f, hf⟩

theorem pieces_valid {e o : Nat} : ∀ {L : List ViewD}, (∀ v ∈ L, v.run = false ∧ (firstV S e o (valueO bs v)).2 = 0) → numberB f.kind = false → (firstV S e o (L.flatMap (piecesO f bs)).flatten).2 = 0
  | [], _, _ => firstV_nil S e o
  | v :: L, h, hn => by
    have h1 := h v List.mem_cons_self
    have ih := pieces_valid (L := L) (fun u hu => h u (List.mem_cons_of_mem _ hu)) hn
    have hp : piecesO f bs v = [valueO bs v] := by
      unfold piecesO
      rw [h1.1, hn]
      rfl
    rw [List.flatMap_cons, hp, List.flatten_append]
    rw [show ([valueO bs v] : List (List UInt8)).flatten = valueO bs v by simp]
    exact (firstV_append _ h1.2).1.2 ih
end

end Go.Proofs.YtpicpebolghcfaaGreatDoor

/- Plain words of layers 16 and 18: right meanings, and their bytes. -/


/- Plain words of layers 16 and 18: a meaning's bytes; a record put alone, viewed; the views of pieces, one behind the other. -/
namespace Go.Proofs.YtpicpebolghcfaaGreatDoor
open Go.RowKit
open Go.Lib (uvarint)
set_option linter.unusedVariables false

section
variable {fs : List FieldD} {i : Nat} {f : FieldD}

end

end Go.Proofs.YtpicpebolghcfaaGreatDoor

/- Plain words of layers 14 and 16: right meanings, and that their bytes mean them. -/
namespace Go.Proofs.YtpicpebolghcfaaGreatDoor
open Go.RowKit
open Go.Lib (uvarint)
set_option linter.unusedVariables false

section
variable {S : List MsgD} {m : Nat} {M : MsgD} {i : Nat} {f : FieldD} {se : Nat → MsgT → List UInt8} {v : ValT}

end

end Go.Proofs.YtpicpebolghcfaaGreatDoor

/- Plain words of layers 14 and 16: what valid bytes mean is right. -/
namespace Go.Proofs.YtpicpebolghcfaaGreatDoor
open Go.RowKit
set_option linter.unusedVariables false

section
variable {S : List MsgD} {m : Nat} {M : MsgD} {fs : List FieldD} {bs : List UInt8} {i : Nat} {f : FieldD} {sub : Nat → List UInt8 → MsgT}

end

end Go.Proofs.YtpicpebolghcfaaGreatDoor

/- Plain words of layers 14 and 16: a right meaning's bytes are valid. -/
namespace Go.Proofs.YtpicpebolghcfaaGreatDoor
open Go.RowKit
set_option linter.unusedVariables false

end Go.Proofs.YtpicpebolghcfaaGreatDoor

/- Plain words of layer 18: the normal form, field by field, is the meaning's bytes; and how long it is at most. -/


/- Plain words of layer 18: the normal form, field by field. -/
namespace Go.Proofs.YtpicpebolghcfaaGreatDoor
open Go.RowKit
set_option linter.unusedVariables false

section
variable {se : Nat → MsgT → List UInt8} {sub : Nat → List UInt8 → MsgT} {f : FieldD} {bs : List UInt8} {fs : List FieldD} {L : List ViewD} {S : List MsgD} {m : Nat} {M : MsgD}

end

end Go.Proofs.YtpicpebolghcfaaGreatDoor

/- Plain words of layer 18: how long a normal form is at most. -/
namespace Go.Proofs.YtpicpebolghcfaaGreatDoor
open Go.RowKit
set_option linter.unusedVariables false

section
variable {se : Nat → MsgT → List UInt8} {sub : Nat → List UInt8 → MsgT} {f : FieldD} {bs : List UInt8} {fs : List FieldD} {S : List MsgD} {m : Nat} {M : MsgD}

end

end Go.Proofs.YtpicpebolghcfaaGreatDoor

/- Plain words of layer 18: the normal form of two messages, one behind the other; how long it is; and what it means. -/


/- Plain words of layer 18: the normal form of two messages is no longer than theirs together. -/
namespace Go.Proofs.YtpicpebolghcfaaGreatDoor
open Go.RowKit
open Go.Lib (uvarint uvarint_small uvarint_big uvarint_pos)
set_option linter.unusedVariables false

section
variable {se : Nat → MsgT → List UInt8} {sub : Nat → List UInt8 → MsgT} {f : FieldD} {a b : List UInt8} {fs : List FieldD} {S : List MsgD} {m : Nat} {M : MsgD}

end

end Go.Proofs.YtpicpebolghcfaaGreatDoor

/- Plain words of layer 18: right meanings within more depth; the normal form. -/
namespace Go.Proofs.YtpicpebolghcfaaGreatDoor
open Go.RowKit
set_option linter.unusedVariables false

section
variable {S : List MsgD}

end

end Go.Proofs.YtpicpebolghcfaaGreatDoor
