/- What a law is handed: slices of slices of bytes, in my own words for memory. No program is named. -/
import Derived.Test.YtpgbhgimjpbhoaaW17
import Derived.Test.YtpgbhgimjpbhoaaOpenM
import Derived.Deep.Matrix
import Derived.SizedLaws
namespace Go.Proofs.Ytpgbhgimjpbhoaa
open Go.ChangeShapes Go.WideShapes Go.ChangeAt Go.RowKit Go.Deep Go.Joins
set_option linter.unusedVariables false

theorem flat_single {α β : Type} (f : α → β) : ∀ l : List α, (l.flatMap fun r => [f r]) = l.map f
  | [] => rfl
  | a :: l => by rw [List.flatMap_cons, flat_single f l]; rfl

section
variable {H : Type} {enc : TypeId × Value → H} {P : Program} {w : World} {base : Nat} {held : Bool}

theorem open_brows {t e q : TypeId} {fuel : Nat} {v : Value} {x : DataW H × List MemPlace} (ht : P.underlying t = some (.slice e)) (he : P.underlying e = some (.slice q)) (hq : P.underlying q = some (.int .u8))
    (ce : P.cellsOf e = 1) (cq : P.cellsOf q = 1) (h : DataW.trod enc P w base (fun _ => true) held fuel t [v] = some x) :
    ∃ A n c l, v = .slice A n c ∧ BRowsAt w A n c l := by
  rcases open_int_rows ht he hq ce cq h with ⟨h0, _⟩ | ⟨a, len, cap, A, L, C, Z, hcs, _, hl, hm, _, hr⟩
  · cases h0
    exact ⟨none, 0, 0, [], rfl, Reads.nil w 1, fun r hr => by cases hr⟩
  · cases hcs
    have each : ∀ i, i < len → ∃ r : BRow, BytesAt w r.A r.n r.c r.bs ∧ w.cell? (a.add i) = some (browV r) := by
      intro i hi
      obtain ⟨h1, h2, h3, h4, h5, h6, h7⟩ := hr i (by omega)
      rcases hA : A i with _ | x
      · have hc0 := h6 hA
        refine ⟨⟨none, L i, C i, []⟩, ?_, by rw [h1, hA]; rfl⟩
        have hl0 : L i = 0 := by omega
        simp only [hl0, hc0]
        exact BytesAt.nil w
      · obtain ⟨_, h8⟩ := h7 x hA
        exact ⟨⟨some x, L i, C i, _⟩, bytes_of_ints h2 h3 h4 (fun j hj => h8 j (by omega)) h5, by rw [h1, hA]; rfl⟩
    obtain ⟨l, hll, hq⟩ := list_of_each len each
    refine ⟨some a, len, cap, l, rfl, ?_, fun r hr => ?_⟩
    · have := reads_of_each (w := w) (a := a) (f := fun r => [browV r]) (size := 1) (fun _ => rfl) (by omega) hll hl hm (fun i r hr j u hu => by
        match j, hu with
        | 0, hu => simp at hu; subst hu; simpa using (hq i r hr).2
        | j + 1, hu => simp at hu)
      have e : (l.flatMap fun r => [browV r]) = l.map browV := flat_single browV l
      rw [e] at this
      exact this
    · obtain ⟨i, hi', rfl⟩ := List.getElem_of_mem hr
      exact (hq i _ (List.getElem?_eq_getElem hi')).1
theorem weights_row {e : TypeId} : ∀ {L : List (DataW H)} {d : DataW H} {n : Nat}, d ∈ L → n ∈ d.weights P e → n ∈ DataW.weightsAll P e L
  | [], _, _, h, _ => by cases h
  | a :: L, d, n, h, hn => by
    simp only [DataW.weightsAll, List.mem_append]
    rcases List.mem_cons.1 h with rfl | h
    · exact .inl hn
    · exact .inr (weights_row h hn)

/-- The same, with what each row may take. -/
theorem open_brows_sized {t e q : TypeId} {fuel : Nat} {v : Value} {x : DataW H × List MemPlace} (ht : P.underlying t = some (.slice e)) (he : P.underlying e = some (.slice q)) (hq : P.underlying q = some (.int .u8))
    (ce : P.cellsOf e = 1) (cq : P.cellsOf q = 1) (bq : P.bytesOf q = 1) (be : P.bytesOf e = 24) (hw : ∀ n ∈ x.1.weights P t, n ≤ reachBytes) (h : DataW.trod enc P w base (fun _ => true) held fuel t [v] = some x) :
    ∃ A n c l, v = .slice A n c ∧ BRowsAt w A n c l ∧ (∀ r ∈ l, r.c ≤ 140737488351232) ∧ c * 24 ≤ 140737488351232 := by
  rcases open_int_rows ht he hq ce cq h with ⟨h0, _⟩ | ⟨a, len, cap, A, L, C, Z, hcs, _, hl, hm, hx, hr⟩
  · cases h0
    exact ⟨none, 0, 0, [], rfl, ⟨Reads.nil w 1, (fun r hr => by cases hr)⟩, (fun r hr => by cases hr), by omega⟩
  · cases hcs
    have hreach : reachBytes = 140737488351232 := by decide
    have hcap : cap * 24 ≤ 140737488351232 := by
      have := hw (cap * 24) (by
        rw [hx]
        simp only [DataW.weights, ht, List.mem_cons, List.length_map, List.length_range, be]
        left
        rw [show len + (cap - len) = cap by omega])
      omega
    have hrow : ∀ i, i < len → C i ≤ 140737488351232 := by
      intro i hi
      obtain ⟨h1, h2, h3, h4, h5, h6, h7⟩ := hr i (by omega)
      rcases hA : A i with _ | x'
      · have := h6 hA; omega
      · have := hw (C i) (by
          rw [hx]
          simp only [DataW.weights, ht, List.mem_cons, List.mem_append]
          right; left
          refine weights_row (d := intRow .u8 (A i) (L i) (Z i)) (List.mem_map.2 ⟨i, List.mem_range.2 hi, rfl⟩) ?_
          rw [hA]
          simp [intRow, DataW.weights, he, lits, bq, h4]
          omega)
        omega
    have each : ∀ i, i < len → ∃ r : BRow, (BytesAt w r.A r.n r.c r.bs ∧ r.c ≤ 140737488351232) ∧ w.cell? (a.add i) = some (browV r) := by
      intro i hi
      obtain ⟨h1, h2, h3, h4, h5, h6, h7⟩ := hr i (by omega)
      rcases hA : A i with _ | x
      · have hc0 := h6 hA
        refine ⟨⟨none, L i, C i, []⟩, ⟨?_, by simp only; omega⟩, by rw [h1, hA]; rfl⟩
        have hl0 : L i = 0 := by omega
        simp only [hl0, hc0]
        exact BytesAt.nil w
      · obtain ⟨_, h8⟩ := h7 x hA
        exact ⟨⟨some x, L i, C i, _⟩, ⟨bytes_of_ints h2 h3 h4 (fun j hj => h8 j (by omega)) h5, hrow i hi⟩, by rw [h1, hA]; rfl⟩
    obtain ⟨l, hll, hq⟩ := list_of_each len each
    refine ⟨some a, len, cap, l, rfl, ⟨?_, fun r hr => ?_⟩, fun r hr => ?_, hcap⟩
    · have := reads_of_each (w := w) (a := a) (f := fun r => [browV r]) (size := 1) (fun _ => rfl) (by omega) hll hl hm (fun i r hr j u hu => by
        match j, hu with
        | 0, hu => simp at hu; subst hu; simpa using (hq i r hr).2
        | j + 1, hu => simp at hu)
      have e : (l.flatMap fun r => [browV r]) = l.map browV := flat_single browV l
      rw [e] at this
      exact this
    · obtain ⟨i, hi', rfl⟩ := List.getElem_of_mem hr
      exact (hq i _ (List.getElem?_eq_getElem hi')).1.1
    · obtain ⟨i, hi', rfl⟩ := List.getElem_of_mem hr
      exact (hq i _ (List.getElem?_eq_getElem hi')).1.2
end

end Go.Proofs.Ytpgbhgimjpbhoaa
