/- What a law is handed: fields and messages, in my own words for memory. No program is named. -/
import Derived.Test.YtpicpebolghcfaaGreatDoorQjS7
import Derived.Test.YtpicpebolghcfaaGreatDoorQjOpen
import Derived.Deep.Slices
import Derived.Deep.Fields
import Derived.ChangeSame
import Derived.ChangeArms
import Derived.Lib.SmallJoins

namespace Go.Proofs.YtpicpebolghcfaaGreatDoor
open Go.ChangeShapes Go.WideShapes Go.ChangeAt Go.RowKit Go.Deep Go.Joins
set_option linter.unusedVariables false

theorem list_of_each {α : Type} {Q : Nat → α → Prop} : ∀ (n : Nat), (∀ i, i < n → ∃ x, Q i x) → ∃ l : List α, l.length = n ∧ ∀ (i : Nat) x, l[i]? = some x → Q i x
  | 0, _ => ⟨[], rfl, fun i x h => by simp at h⟩
  | n + 1, h => by
    obtain ⟨l, hl, hq⟩ := list_of_each n (fun i hi => h i (by omega))
    obtain ⟨x, hx⟩ := h n (by omega)
    refine ⟨l ++ [x], by simp [hl], fun i y hy => ?_⟩
    by_cases hi : i < l.length
    · rw [List.getElem?_append_left hi] at hy
      exact hq i y hy
    · rw [List.getElem?_append_right (by omega)] at hy
      have h0 : i - l.length = 0 := by
        rcases Nat.eq_zero_or_pos (i - l.length) with h | h
        · exact h
        · rw [List.getElem?_eq_none (by simp; omega)] at hy; cases hy
      rw [h0] at hy
      simp at hy
      subst hy
      rw [show i = n by omega]
      exact hx

theorem flat_get {α : Type} {f : α → List Value} {size : Nat} (hf : ∀ x, (f x).length = size) : ∀ (l : List α) (q : Nat) (u : Value), (l.flatMap f)[q]? = some u → ∃ i x j, q = i * size + j ∧ l[i]? = some x ∧ (f x)[j]? = some u
  | [], q, u, h => by simp at h
  | x :: l, q, u, h => by
    rw [List.flatMap_cons] at h
    by_cases hq : q < size
    · rw [List.getElem?_append_left (by rw [hf]; exact hq)] at h
      exact ⟨0, x, q, by omega, rfl, h⟩
    · rw [List.getElem?_append_right (by rw [hf]; omega), hf] at h
      obtain ⟨i, y, j, e, h1, h2⟩ := flat_get hf l (q - size) u h
      exact ⟨i + 1, y, j, by rw [Nat.succ_mul]; omega, h1, h2⟩

theorem reads_of_each {α : Type} {f : α → List Value} {size : Nat} (hf : ∀ x, (f x).length = size) (hs : 0 < size) {w : World} {a : Addr} {n c : Nat} {l : List α} (hl : l.length = n) (hnc : n ≤ c) (hc : c ≤ maxLen)
    (hcell : ∀ (i : Nat) x, l[i]? = some x → ∀ (j : Nat) u, (f x)[j]? = some u → w.cell? (a.add (i * size + j)) = some u) : Reads w (some a) n c size (l.flatMap f) := by
  refine ⟨by rw [flat_length hf, hl], hnc, hc, fun hn => ?_⟩
  obtain ⟨b, off, spot⟩ := a
  have h0 : l[0]? = some (l[0]'(by omega)) := List.getElem?_eq_getElem (by omega)
  have hu : (f (l[0]'(by omega)))[0]? = some ((f (l[0]'(by omega)))[0]'(by rw [hf]; exact hs)) := List.getElem?_eq_getElem _
  have hc0 := hcell 0 _ h0 0 _ hu
  simp only [Nat.zero_mul, Nat.zero_add] at hc0
  have hspot : spot = none := by simpa [Addr.add] using World.cell?_spot hc0
  subst hspot
  have hb := World.block_lt_of_cell? w _ hc0
  refine ⟨b, off, rfl, by simpa [Addr.add] using hb, fun q u hq => ?_⟩
  obtain ⟨i, x, j, e, h1, h2⟩ := flat_get hf l q u hq
  have := hcell i x h1 j u h2
  rw [addr_add, ← e] at this
  exact this

section
variable {H : Type} {enc : TypeId × Value → H} {P : Program} {w : World} {base : Nat} {spare : Nat → Bool} {held : Bool}

theorem open_structs {t e : TypeId} {fs : Array Field} {fuel : Nat} {cs : List Value} {x : DataW H × List MemPlace} (ht : P.underlying t = some (.slice e)) (he : P.underlying e = some (.struct fs))
    (hone : oneCellFields P fs = true) (hC : P.cellsOf e = fs.size) (h : DataW.trod enc P w base spare held fuel t cs = some x) :
    cs = [.slice none 0 0] ∨ ∃ (a : Addr) (len cap : Nat), cs = [.slice (some a) len cap] ∧ len ≤ cap ∧ cap ≤ maxLen ∧
      ∀ i, i < len → ∃ n : Nat, ∀ (j : Nat) (f : Field), fs[j]? = some f → ∃ (v : Value) (y : DataW H × List MemPlace), w.cell? (a.add (i * fs.size + j)) = some v ∧ DataW.trod enc P w base spare held n f.type [v] = some y := by
  rcases open_slice ht h with h0 | ⟨a, len, cap, m, n, D, Pl, hcs, hb, hl, hm, hmm, hx, hi⟩
  · exact .inl h0.1
  · refine .inr ⟨a, len, cap, hcs, hl, hm, fun i hil => ?_⟩
    have him : i < m := by rw [hmm]; split <;> omega
    obtain ⟨cs', hc, ht'⟩ := hi i him
    rw [hC] at hc
    obtain ⟨ys, n', _, _, _, hyl, hf⟩ := DataW.trod_struct he ht'
    obtain ⟨_, hcl, hat⟩ := World.cells?_some hc
    refine ⟨n', fun j f hj => ?_⟩
    obtain ⟨ho, hk⟩ := hone_of hone j f hj
    have hjl : j < fs.size := (Array.getElem?_eq_some_iff.1 hj).1
    have hcell := hat j hjl
    have hv : cs'[j]? = some (cs'[j]'(by omega)) := List.getElem?_eq_getElem (by omega)
    have h1 := hf j f hj
    rw [ho, hk] at h1
    have h1c : (cs'.drop j).take 1 = [cs'[j]'(by omega)] := by
      rw [List.drop_eq_getElem_cons (by omega)]
      rfl
    rw [h1c] at h1
    have hys : ys[j]? = some (ys[j]'(by omega)) := List.getElem?_eq_getElem (by omega)
    refine ⟨_, _, ?_, h1.trans hys⟩
    rw [← Go.Deep.add_add, hcell, hv]

theorem open_fields {t e : TypeId} {f0 f1 f2 f3 f4 f5 : Field} {fuel : Nat} {v : Value} {x : DataW H × List MemPlace} (ht : P.underlying t = some (.slice e)) (he : P.underlying e = some (.struct #[f0, f1, f2, f3, f4, f5]))
    (hone : oneCellFields P #[f0, f1, f2, f3, f4, f5] = true) (hC : P.cellsOf e = 6) (u0 : P.underlying f0.type = some .string) (u1 : P.underlying f1.type = some (.int .i64)) (u2 : P.underlying f2.type = some (.int .i64))
    (u3 : P.underlying f3.type = some .bool) (u4 : P.underlying f4.type = some .bool) (u5 : P.underlying f5.type = some (.int .i64)) (h : DataW.trod enc P w base spare held fuel t [v] = some x) :
    ∃ A n c l, v = .slice A n c ∧ FieldsAt w A n c l := by
  rcases open_structs ht he hone hC h with h0 | ⟨a, len, cap, hcs, hl, hm, hi⟩
  · cases h0
    exact ⟨none, 0, 0, [], rfl, Reads.nil w 6, fun f hf => by cases hf⟩
  · cases hcs
    have each : ∀ i, i < len → ∃ f : FieldD, f.Ok ∧ ∀ (j : Nat) u, (fieldC f)[j]? = some u → w.cell? (a.add (i * 6 + j)) = some u := by
      intro i hil
      obtain ⟨n, hf⟩ := hi i hil
      obtain ⟨v0, y0, c0, t0⟩ := hf 0 f0 rfl
      obtain ⟨v1, y1, c1, t1⟩ := hf 1 f1 rfl
      obtain ⟨v2, y2, c2, t2⟩ := hf 2 f2 rfl
      obtain ⟨v3, y3, c3, t3⟩ := hf 3 f3 rfl
      obtain ⟨v4, y4, c4, t4⟩ := hf 4 f4 rfl
      obtain ⟨v5, y5, c5, t5⟩ := hf 5 f5 rfl
      obtain ⟨s, e0, _, w0⟩ := DataW.trod_string u0 t0
      obtain ⟨x1, e1, _, w1⟩ := DataW.trod_int u1 t1
      obtain ⟨x2, e2, _, w2⟩ := DataW.trod_int u2 t2
      obtain ⟨x3, e3, _⟩ := DataW.trod_bool u3 t3
      obtain ⟨x4, e4, _⟩ := DataW.trod_bool u4 t4
      obtain ⟨x5, e5, _, w5⟩ := DataW.trod_int u5 t5
      simp only [List.cons.injEq, and_true] at e0 e1 e2 e3 e4 e5
      subst e0 e1 e2 e3 e4 e5
      simp [Lit.wf, IntKind.min, IntKind.max, IntKind.signed, IntKind.bits] at w1 w2 w5
      unfold maxLen at w0
      refine ⟨⟨s, x1, x2, x3, x4, x5⟩, ⟨⟨by simp only; omega, by simp only; omega⟩, ⟨by simp only; omega, by simp only; omega⟩, ⟨by simp only; omega, by simp only; omega⟩, by show s.size ≤ _; omega⟩, fun j u hu => ?_⟩
      match j, hu with
      | 0, hu => simp [fieldC] at hu; subst hu; exact c0
      | 1, hu => simp [fieldC] at hu; subst hu; exact c1
      | 2, hu => simp [fieldC] at hu; subst hu; exact c2
      | 3, hu => simp [fieldC] at hu; subst hu; exact c3
      | 4, hu => simp [fieldC] at hu; subst hu; exact c4
      | 5, hu => simp [fieldC] at hu; subst hu; exact c5
      | j + 6, hu => simp [fieldC] at hu
    obtain ⟨l, hll, hq⟩ := list_of_each len each
    refine ⟨some a, len, cap, l, rfl, reads_of_each (size := 6) (fun _ => rfl) (by omega) hll hl hm (fun i f hf => (hq i f hf).2), fun f hf => ?_⟩
    obtain ⟨i, hi', rfl⟩ := List.getElem_of_mem hf
    exact (hq i _ (List.getElem?_eq_getElem hi')).1

end

end Go.Proofs.YtpicpebolghcfaaGreatDoor

/- What a law is handed: schemas, in my own words for memory. No program is named. -/


namespace Go.Proofs.YtpicpebolghcfaaGreatDoor
open Go.ChangeShapes Go.WideShapes Go.ChangeAt Go.RowKit Go.Deep Go.Joins
set_option linter.unusedVariables false

section
variable {H : Type} {enc : TypeId × Value → H} {P : Program} {w : World} {base : Nat} {spare : Nat → Bool} {held : Bool}

theorem open_schema {t em tf e : TypeId} {g0 g1 f0 f1 f2 f3 f4 f5 : Field} {fuel : Nat} {v : Value} {x : DataW H × List MemPlace} (hts : P.underlying t = some (.slice em)) (hs : P.underlying em = some (.struct #[g0, g1])) (hone2 : oneCellFields P #[g0, g1] = true) (hC2 : P.cellsOf em = 2)
    (v0 : P.underlying g0.type = some .string) (v1 : g1.type = tf) (ht : P.underlying tf = some (.slice e)) (he : P.underlying e = some (.struct #[f0, f1, f2, f3, f4, f5]))
    (hone : oneCellFields P #[f0, f1, f2, f3, f4, f5] = true) (hC : P.cellsOf e = 6) (u0 : P.underlying f0.type = some .string) (u1 : P.underlying f1.type = some (.int .i64)) (u2 : P.underlying f2.type = some (.int .i64))
    (u3 : P.underlying f3.type = some .bool) (u4 : P.underlying f4.type = some .bool) (u5 : P.underlying f5.type = some (.int .i64)) (h : DataW.trod enc P w base spare held fuel t [v] = some x) :
    ∃ A n c l, v = .slice A n c ∧ SchemaAt w A n c l := by
  rcases open_structs hts hs hone2 hC2 h with h0 | ⟨a, len, cap, hcs, hl, hm, hi⟩
  · cases h0
    exact ⟨none, 0, 0, [], rfl, Reads.nil w 2, fun f hf => by cases hf⟩
  · cases hcs
    have each : ∀ i, i < len → ∃ m : MsgV, (FieldsAt w m.A m.n m.c m.d.fields ∧ m.d.name.size ≤ 9223372036854775807) ∧ ∀ (j : Nat) u, (msgC m)[j]? = some u → w.cell? (a.add (i * 2 + j)) = some u := by
      intro i hil
      obtain ⟨n, hf⟩ := hi i hil
      obtain ⟨z0, y0, c0, t0⟩ := hf 0 g0 rfl
      obtain ⟨z1, y1, c1, t1⟩ := hf 1 g1 rfl
      obtain ⟨s, e0, _, w0⟩ := DataW.trod_string v0 t0
      rw [v1] at t1
      obtain ⟨A, nn, c, l, e1, hfa⟩ := open_fields ht he hone hC u0 u1 u2 u3 u4 u5 t1
      simp only [List.cons.injEq, and_true] at e0
      subst e0 e1
      unfold maxLen at w0
      refine ⟨⟨⟨s, l⟩, A, nn, c⟩, ⟨hfa, by simp only; omega⟩, fun j u hu => ?_⟩
      match j, hu with
      | 0, hu => simp [msgC] at hu; subst hu; exact c0
      | 1, hu => simp [msgC] at hu; subst hu; exact c1
      | j + 2, hu => simp [msgC] at hu
    obtain ⟨l, hll, hq⟩ := list_of_each len each
    refine ⟨some a, len, cap, l, rfl, reads_of_each (size := 2) (fun _ => rfl) (by omega) hll hl hm (fun i f hf => (hq i f hf).2), fun f hf => ?_⟩
    obtain ⟨i, hi', rfl⟩ := List.getElem_of_mem hf
    exact (hq i _ (List.getElem?_eq_getElem hi')).1
end

end Go.Proofs.YtpicpebolghcfaaGreatDoor
