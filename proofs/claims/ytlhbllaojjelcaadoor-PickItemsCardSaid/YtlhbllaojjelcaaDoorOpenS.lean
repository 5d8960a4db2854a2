/- What a law is handed: schemas, in my own words for memory. No program is named. -/
import Derived.Test.YtlhbllaojjelcaaDoorS7
import Derived.Test.YtlhbllaojjelcaaDoorOpenM
namespace Go.Proofs.YtlhbllaojjelcaaDoor
open Go.ChangeShapes Go.WideShapes Go.ChangeAt Go.RowKit Go.Deep Go.Joins
set_option linter.unusedVariables false

section
variable {H : Type} {enc : TypeId × Value → H} {P : Program} {w : World} {base : Nat} {spare : Nat → Bool} {held : Bool}

/-- A slice of messages that came in. -/
theorem open_schema {t em tf e : TypeId} {g0 g1 f0 f1 f2 f3 f4 f5 : Field} {fuel : Nat} {v : Value} {x : DataW H × List MemPlace} (hts : P.underlying t = some (.slice em)) (hs : P.underlying em = some (.struct #[g0, g1])) (hone2 : oneCellFields P #[g0, g1] = true) (hC2 : P.cellsOf em = 2)
    (v0 : P.underlying g0.type = some .string) (v1 : g1.type = tf) (ht : P.underlying tf = some (.slice e)) (he : P.underlying e = some (.struct #[f0, f1, f2, f3, f4, f5]))
    (hone : oneCellFields P #[f0, f1, f2, f3, f4, f5] = true) (hC : P.cellsOf e = 6) (u0 : P.underlying f0.type = some .string) (u1 : P.underlying f1.type = some (.int .i64)) (u2 : P.underlying f2.type = some (.int .i64))
    (u3 : P.underlying f3.type = some .bool) (u4 : P.underlying f4.type = some .bool) (u5 : P.underlying f5.type = some (.int .i64)) (h : DataW.trod enc P w base spare held fuel t [v] = some x) :
    ∃ A n c l, v = .slice A n c ∧ SchemaAt w A n c l := by
  rcases open_structs hts hs hone2 hC2 h with h0 | ⟨a, len, cap, hcs, hl, hm, hi⟩
  · cases h0
    exact ⟨none, 0, 0, [], rfl, Reads.nil w 2, fun f hf => by cases hf⟩
  · cases hcs
    have each : ∀ i, i < len → ∃ m : MsgV, (FieldsAt w m.A m.n m.c m.d.fields ∧ m.d.name.size ≤ 9223372036854775807) ∧ ∀ (j : Nat) u, (msgC m)[j]? = some u → w.cell? (a.add (i * 2 + j)) = some u := by
      intro i hil
      obtain ⟨n, hf⟩ := hi i hil
      obtain ⟨z0, y0, c0, t0⟩ := hf 0 g0 rfl
      obtain ⟨z1, y1, c1, t1⟩ := hf 1 g1 rfl
      obtain ⟨s, e0, _, w0⟩ := DataW.trod_string v0 t0
      rw [v1] at t1
      obtain ⟨A, nn, c, l, e1, hfa⟩ := open_fields ht he hone hC u0 u1 u2 u3 u4 u5 t1
      simp only [List.cons.injEq, and_true] at e0
      subst e0 e1
      unfold maxLen at w0
      refine ⟨⟨⟨s, l⟩, A, nn, c⟩, ⟨hfa, by simp only; omega⟩, fun j u hu => ?_⟩
      match j, hu with
      | 0, hu => simp [msgC] at hu; subst hu; exact c0
      | 1, hu => simp [msgC] at hu; subst hu; exact c1
      | j + 2, hu => simp [msgC] at hu
    obtain ⟨l, hll, hq⟩ := list_of_each len each
    refine ⟨some a, len, cap, l, rfl, reads_of_each (size := 2) (fun _ => rfl) (by omega) hll hl hm (fun i f hf => (hq i f hf).2), fun f hf => ?_⟩
    obtain ⟨i, hi', rfl⟩ := List.getElem_of_mem hf
    exact (hq i _ (List.getElem?_eq_getElem hi')).1
end

end Go.Proofs.YtlhbllaojjelcaaDoor
