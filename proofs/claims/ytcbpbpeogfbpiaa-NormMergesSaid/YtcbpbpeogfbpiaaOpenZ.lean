/- What a law is handed, with what each slice may take: structs in slices, schemas. No program is named. -/
import Derived.Test.YtcbpbpeogfbpiaaOpenS
import Derived.SizedLaws
namespace Go.Proofs.Ytcbpbpeogfbpiaa
open Go.ChangeShapes Go.WideShapes Go.ChangeAt Go.RowKit Go.Deep Go.Joins
set_option linter.unusedVariables false

theorem weights_all {H : Type} {P : Program} {e : TypeId} : ∀ {L : List (DataW H)} {d : DataW H} {n : Nat}, d ∈ L → n ∈ d.weights P e → n ∈ DataW.weightsAll P e L
  | [], _, _, h, _ => by cases h
  | a :: L, d, n, h, hn => by
    simp only [DataW.weightsAll, List.mem_append]
    rcases List.mem_cons.1 h with rfl | h
    · exact .inl hn
    · exact .inr (weights_all h hn)

section
variable {H : Type} {enc : TypeId × Value → H} {P : Program} {w : World} {base : Nat} {held : Bool}

/-- Each element's fields, of a slice of structs whose fields have one cell each; what it may take is bounded. -/
theorem open_structs_sized {t e : TypeId} {fs : Array Field} {fuel : Nat} {cs : List Value} {x : DataW H × List MemPlace} (ht : P.underlying t = some (.slice e)) (he : P.underlying e = some (.struct fs))
    (hone : oneCellFields P fs = true) (hC : P.cellsOf e = fs.size) (hw : ∀ n ∈ x.1.weights P t, n ≤ reachBytes) (h : DataW.trod enc P w base (fun _ => true) held fuel t cs = some x) :
    cs = [.slice none 0 0] ∨ ∃ (a : Addr) (len cap : Nat), cs = [.slice (some a) len cap] ∧ len ≤ cap ∧ cap ≤ maxLen ∧ cap * P.bytesOf e ≤ reachBytes ∧
      ∀ i, i < len → ∃ n : Nat, ∀ (j : Nat) (f : Field), fs[j]? = some f → ∃ (v : Value) (y : DataW H × List MemPlace), w.cell? (a.add (i * fs.size + j)) = some v ∧ DataW.trod enc P w base (fun _ => true) held n f.type [v] = some y ∧ n < fuel ∧ ∀ q ∈ y.1.weights P f.type, q ≤ reachBytes := by
  rcases DataW.trod_slice ht h with h0 | ⟨a, len, cap, elems, rest, n, hfu, hcs, hx, hb, hl, hm, hlen, hel, hsp, _⟩
  · exact .inl h0.1
  · have hrl := (hsp rfl).1
    refine .inr ⟨a, len, cap, hcs, hl, hm, ?_, fun i hil => ?_⟩
    · have := hw (cap * P.bytesOf e) (by
        rw [hx]
        simp only [DataW.weights, ht, List.mem_cons, List.length_map]
        left
        rw [hlen, hrl, show len + (cap - len) = cap by omega])
      exact this
    · have hil2 : i < elems.length := by omega
      have h0 := hel i hil
      rw [List.getElem?_eq_getElem hil2, Option.bind_eq_some_iff] at h0
      obtain ⟨cs', hc, ht'⟩ := h0
      rw [hC] at hc
      obtain ⟨ys, n', hn', hD, _, hyl, hf⟩ := DataW.trod_struct he ht'
      obtain ⟨_, hcl, hat⟩ := World.cells?_some hc
      refine ⟨n', fun j f hj => ?_⟩
      obtain ⟨ho, hk⟩ := hone_of hone j f hj
      have hjl : j < fs.size := (Array.getElem?_eq_some_iff.1 hj).1
      have hcell := hat j hjl
      have hv : cs'[j]? = some (cs'[j]'(by omega)) := List.getElem?_eq_getElem (by omega)
      have h1 := hf j f hj
      rw [ho, hk] at h1
      have h1c : (cs'.drop j).take 1 = [cs'[j]'(by omega)] := by
        rw [List.drop_eq_getElem_cons (by omega)]
        rfl
      rw [h1c] at h1
      have hys : ys[j]? = some (ys[j]'(by omega)) := List.getElem?_eq_getElem (by omega)
      refine ⟨_, _, ?_, h1.trans hys, ?_, fun q hq => hw q ?_⟩
      · rw [← Go.Deep.add_add, hcell, hv]
      · omega
      · rw [hx]
        simp only [DataW.weights, ht, List.mem_cons, List.mem_append]
        right; left
        refine weights_all (d := (elems[i]'hil2).1) (List.mem_map.2 ⟨_, List.getElem_mem hil2, rfl⟩) ?_
        rw [hD]
        simp only [DataW.weights, he]
        refine DataW.weights_mem_each (j := j) (t := f.type) (d := (ys[j]'(by omega)).1) ?_ ?_ q hq
        · rw [List.getElem?_map, Array.getElem?_toList, hj]; rfl
        · rw [List.getElem?_map, hys]; rfl
end

section
variable {H : Type} {enc : TypeId × Value → H} {P : Program} {w : World} {base : Nat} {held : Bool}

/-- A slice of fields that came in, with what it may take. -/
theorem open_fields_sized {t e : TypeId} {f0 f1 f2 f3 f4 f5 : Field} {fuel : Nat} {v : Value} {x : DataW H × List MemPlace} (ht : P.underlying t = some (.slice e)) (he : P.underlying e = some (.struct #[f0, f1, f2, f3, f4, f5]))
    (hone : oneCellFields P #[f0, f1, f2, f3, f4, f5] = true) (hC : P.cellsOf e = 6) (u0 : P.underlying f0.type = some .string) (u1 : P.underlying f1.type = some (.int .i64)) (u2 : P.underlying f2.type = some (.int .i64))
    (u3 : P.underlying f3.type = some .bool) (u4 : P.underlying f4.type = some .bool) (u5 : P.underlying f5.type = some (.int .i64)) (hw : ∀ n ∈ x.1.weights P t, n ≤ reachBytes) (h : DataW.trod enc P w base (fun _ => true) held fuel t [v] = some x) :
    ∃ A n c l, v = .slice A n c ∧ FieldsAt w A n c l ∧ c * P.bytesOf e ≤ reachBytes := by
  obtain ⟨A, n, c, l, e1, hfa⟩ := open_fields ht he hone hC u0 u1 u2 u3 u4 u5 h
  refine ⟨A, n, c, l, e1, hfa, ?_⟩
  rcases open_structs_sized ht he hone hC hw h with h0 | ⟨a, len, cap, hcs, hl, hm, hcap, _⟩
  · rw [e1] at h0
    simp only [List.cons.injEq, Value.slice.injEq, and_true] at h0
    obtain ⟨rfl, rfl, rfl⟩ := h0
    omega
  · rw [e1] at hcs
    simp only [List.cons.injEq, Value.slice.injEq, and_true] at hcs
    obtain ⟨rfl, rfl, rfl⟩ := hcs
    exact hcap

/-- A slice of messages that came in, with what it may take. -/
theorem open_schema_sized {t em tf e : TypeId} {g0 g1 f0 f1 f2 f3 f4 f5 : Field} {fuel : Nat} {v : Value} {x : DataW H × List MemPlace} (hts : P.underlying t = some (.slice em)) (hs : P.underlying em = some (.struct #[g0, g1])) (hone2 : oneCellFields P #[g0, g1] = true) (hC2 : P.cellsOf em = 2)
    (v0 : P.underlying g0.type = some .string) (v1 : g1.type = tf) (ht : P.underlying tf = some (.slice e)) (he : P.underlying e = some (.struct #[f0, f1, f2, f3, f4, f5]))
    (hone : oneCellFields P #[f0, f1, f2, f3, f4, f5] = true) (hC : P.cellsOf e = 6) (u0 : P.underlying f0.type = some .string) (u1 : P.underlying f1.type = some (.int .i64)) (u2 : P.underlying f2.type = some (.int .i64))
    (u3 : P.underlying f3.type = some .bool) (u4 : P.underlying f4.type = some .bool) (u5 : P.underlying f5.type = some (.int .i64)) (be : P.bytesOf e = 48) (bm : P.bytesOf em = 40) (hw : ∀ n ∈ x.1.weights P t, n ≤ reachBytes) (h : DataW.trod enc P w base (fun _ => true) held fuel t [v] = some x) :
    ∃ A n c l, v = .slice A n c ∧ SchemaAt w A n c l ∧ (∀ m ∈ l, m.c ≤ 2932031007317) ∧ c ≤ 3518437208780 := by
  have hreach : reachBytes = 140737488351232 := by decide
  rcases open_structs_sized hts hs hone2 hC2 hw h with h0 | ⟨a, len, cap, hcs, hl, hm, hcap, hi⟩
  · cases h0
    exact ⟨none, 0, 0, [], rfl, ⟨Reads.nil w 2, (fun f hf => by cases hf)⟩, (fun f hf => by cases hf), by omega⟩
  · cases hcs
    have each : ∀ i, i < len → ∃ m : MsgV, ((FieldsAt w m.A m.n m.c m.d.fields ∧ m.d.name.size ≤ 9223372036854775807) ∧ m.c ≤ 2932031007317) ∧ ∀ (j : Nat) u, (msgC m)[j]? = some u → w.cell? (a.add (i * 2 + j)) = some u := by
      intro i hil
      obtain ⟨n, hf⟩ := hi i hil
      obtain ⟨z0, y0, c0, t0, _, _⟩ := hf 0 g0 rfl
      obtain ⟨z1, y1, c1, t1, _, hw1⟩ := hf 1 g1 rfl
      obtain ⟨s, e0, _, w0⟩ := DataW.trod_string v0 t0
      rw [v1] at t1 hw1
      obtain ⟨A, nn, c, l, e1, hfa, hcb⟩ := open_fields_sized ht he hone hC u0 u1 u2 u3 u4 u5 hw1 t1
      simp only [List.cons.injEq, and_true] at e0
      subst e0 e1
      unfold maxLen at w0
      rw [be, hreach] at hcb
      refine ⟨⟨⟨s, l⟩, A, nn, c⟩, ⟨⟨hfa, by simp only; omega⟩, by simp only; omega⟩, fun j u hu => ?_⟩
      match j, hu with
      | 0, hu => simp [msgC] at hu; subst hu; exact c0
      | 1, hu => simp [msgC] at hu; subst hu; exact c1
      | j + 2, hu => simp [msgC] at hu
    obtain ⟨l, hll, hq⟩ := list_of_each len each
    rw [bm, hreach] at hcap
    refine ⟨some a, len, cap, l, rfl, ⟨reads_of_each (size := 2) (fun _ => rfl) (by omega) hll hl hm (fun i f hf => (hq i f hf).2), fun f hf => ?_⟩, fun f hf => ?_, by omega⟩
    · obtain ⟨i, hi', rfl⟩ := List.getElem_of_mem hf
      exact (hq i _ (List.getElem?_eq_getElem hi')).1.1
    · obtain ⟨i, hi', rfl⟩ := List.getElem_of_mem hf
      exact (hq i _ (List.getElem?_eq_getElem hi')).1.2
end

end Go.Proofs.Ytcbpbpeogfbpiaa
