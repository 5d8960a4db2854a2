/- Words for writing into a slice of the call's own, in place. No program is named. -/
import Derived.Test.YtlmmlmmadgcmcaaLib3
import Derived.Laws.IdiomCopy
import Derived.Lib.SliceRun
namespace Go.Proofs.Ytlmmlmmadgcmcaa
open Go.RowKit
set_option linter.unusedVariables false

theorem row_set {w : World} {g : Nat} {cur : Array Value} {e : TypeId} {fr : Nat × Nat} (h : w.heap[g]? = some (.cells cur e fr)) (o : Nat) (u : Value) :
    (w.setCell ⟨g, o, none⟩ u).heap[g]? = some (.cells (cur.setIfInBounds o u) e fr) := by
  simp [World.setCell, Array.getElem?_modify, h]

theorem row_sets {g : Nat} {e : TypeId} {fr : Nat × Nat} : ∀ (vs : List Value) (o : Nat) (w : World) (cur : Array Value), w.heap[g]? = some (.cells cur e fr) →
    ∃ cur', (w.setCells g o vs).heap[g]? = some (.cells cur' e fr) ∧ cur'.size = cur.size ∧ ∀ i, i < o → cur'[i]? = cur[i]?
  | [], o, w, cur, h => ⟨cur, h, rfl, fun _ _ => rfl⟩
  | v :: r, o, w, cur, h => by
    obtain ⟨cur', h1, h2, h3⟩ := row_sets r (o + 1) (w.setCell ⟨g, o, none⟩ v) _ (row_set h o v)
    refine ⟨cur', h1, by rw [h2]; simp, fun i hi => ?_⟩
    rw [h3 i (by omega), Array.getElem?_setIfInBounds]
    rw [if_neg (by omega)]

theorem Ext.sets {w0 : World} {g : Nat} (hg : w0.heap.size ≤ g) : ∀ (vs : List Value) (o : Nat) (w : World), Ext w0 w → Ext w0 (w.setCells g o vs)
  | [], _, _, h => h
  | v :: r, o, w, h => Ext.sets hg r (o + 1) _ (h.setCell hg v)

/-- Nothing but the row g has turned since w. -/
def Only (g : Nat) (w w' : World) : Prop := w.grownBy w' (some g)

section
variable {g : Nat} {w w' w'' : World}

theorem Only.refl (g : Nat) (w : World) : Only g w w := World.grownBy.refl w _

theorem Only.ext (h : Only g w w') (k : Ext w' w'') : Only g w w'' :=
  ⟨k.os.trans h.os, k.tape.trans h.tape, k.output.trans h.output, Nat.le_trans h.size k.size, fun i hi hn => (k.block i (Nat.lt_of_lt_of_le hi h.size)).trans (h.block i hi hn)⟩

theorem Only.set (h : Only g w w') (o : Nat) (u : Value) : Only g w (w'.setCell ⟨g, o, none⟩ u) :=
  ⟨h.os, h.tape, h.output, by simpa [World.setCell] using h.size, fun i hi hn => (Below.heap_setCell w' _ u i (by
    rintro rfl
    exact hn rfl)).trans (h.block i hi hn)⟩

theorem Only.sets : ∀ (vs : List Value) (o : Nat) (w' : World), Only g w w' → Only g w (w'.setCells g o vs)
  | [], _, _, h => h
  | v :: r, o, w', h => Only.sets r (o + 1) _ (h.set o v)

theorem Only.cell (h : Only g w w') {p : Addr} (hp : p.block < w.heap.size) (hg : p.block ≠ g) : w'.cell? p = w.cell? p :=
  World.cell?_of_block (h.block p.block hp (fun e => hg (by injection e)))

theorem Only.toExt {w0 : World} (h : Only g w w') (hE : Ext w0 w) (hg : w0.heap.size ≤ g) : Ext w0 w' :=
  Below.grown hE h hE.size (fun k hk => by injection hk with hk; omega)
end

section
variable {w0 w : World} {e : TypeId} {size : Nat} {g n c : Nat} {xs : List Value}

theorem Own.base (h : Own w0 w e size (some ⟨g, 0, none⟩) n c xs) : w0.heap.size ≤ g ∧ g < w.heap.size := by
  rcases h.row.2 with ⟨hv, _⟩ | ⟨g', cap, cur, hv, hg, hh, _⟩
  · cases hv
  · cases hv
    exact ⟨hg, (Array.getElem?_eq_some_iff.1 hh).1⟩

/-- A cell of the row is written. -/
theorem Own.put (h : Own w0 w e size (some ⟨g, 0, none⟩) n c xs) (o : Nat) (u : Value) : Own w0 (w.setCell ⟨g, o, none⟩ u) e size (some ⟨g, 0, none⟩) n c (xs.set o u) := by
  have hE := h.ext
  rcases h.row.2 with ⟨hv, _⟩ | ⟨g', cap, cur, hv, hg, hh, hnc, hcm, hcs, ht⟩
  · cases hv
  · cases hv
    refine ⟨⟨by rw [List.length_set]; exact h.row.1, .inr ⟨g, c, _, rfl, hg, row_set hh o u, hnc, hcm, by simpa using hcs, ?_⟩⟩, hE.setCell hg u⟩
    rw [Array.toList_setIfInBounds, ← ht, List.take_set]

/-- The row's head, where cells behind it are written. -/
theorem Own.head (h : Own w0 w e size (some ⟨g, 0, none⟩) n c xs) {k o : Nat} (hk : k ≤ n) (ho : k * size ≤ o) (vs : List Value) : Own w0 (w.setCells g o vs) e size (some ⟨g, 0, none⟩) k c (xs.take (k * size)) := by
  have hE := h.ext
  have hl := h.row.1
  rcases h.row.2 with ⟨hv, _⟩ | ⟨g', cap, cur, hv, hg, hh, hnc, hcm, hcs, ht⟩
  · cases hv
  · cases hv
    obtain ⟨cur', h1, h2, h3⟩ := row_sets vs o w cur hh
    have hks : k * size ≤ n * size := Nat.mul_le_mul_right _ hk
    refine ⟨⟨by rw [List.length_take]; omega, .inr ⟨g, c, cur', rfl, hg, h1, by omega, hcm, by rw [h2]; exact hcs, ?_⟩⟩, Ext.sets hg vs o w hE⟩
    apply List.ext_getElem?
    intro i
    by_cases hi : i < k * size
    · rw [List.getElem?_take_of_lt hi, List.getElem?_take_of_lt hi, ← ht, List.getElem?_take_of_lt (by omega)]
      simpa using h3 i (by omega)
    · rw [List.getElem?_eq_none (by rw [List.length_take]; omega), List.getElem?_eq_none (by rw [List.length_take]; omega)]
end

theorem zeroCells_length (z : Array Value) (n : Nat) : (Builtin.zeroCells z n).toList.length = n * z.size := by simp [Builtin.zeroCells]

/-- 'clear(s)' at elements of several cells. -/
theorem run_clear_any {P : Program} (w : World) (t e : TypeId) (z : Value) (ht : P.underlying t = some (.slice e)) (hv : ∀ w, (zeroValue e).run P w = .ok z w) (h1 : ∀ n, ∀ v ∈ (Builtin.zeroCells z.cells n).toList, v.oneCell' = true) (b o n c : Nat)
    (hc : ∀ j, j < n * z.cells.size → (w.cell? ⟨b, o + j, none⟩).isSome = true) (hf : ∀ j, j < n * z.cells.size → w.frozen? ⟨b, o + j, none⟩ = false) :
    ∃ vs, ∀ ty, (Builtin.clear_ #[t] ty #[.slice (some ⟨b, o, none⟩) n c]).run P w = .ok (.tuple #[]) (w.setCells b o vs) := by
  rcases n with _ | m
  · exact ⟨[], fun ty => by simp [Builtin.clear_, run_underlying ht, World.setCells]⟩
  · have hst := run_storeCells_cells (P := P) b o (Builtin.zeroCells z.cells (m + 1)).toList 0 w (by rw [zeroCells_length]; simpa using hc) (by rw [zeroCells_length]; simpa using hf) (h1 _)
    simp only [Nat.add_zero] at hst
    exact ⟨_, fun ty => by simp [Builtin.clear_, run_underlying ht, hv, hst]; rfl⟩

end Go.Proofs.Ytlmmlmmadgcmcaa
