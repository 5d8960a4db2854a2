/- More words for memory: a block that is known whole, with its element type, beside slices of the call's own of other types. No program is named. -/
import Derived.Test.YtlmmlmmadgcmcaaLib5
namespace Go.Proofs.Ytlmmlmmadgcmcaa
open Go.RowKit
set_option linter.unusedVariables false

/-- For a step of a region that draws its order: this is the world at hand. -/
theorem at_world {P : Program} {o : Oper} {a : Act} {K : Act → World → Prop} {Q : Exit → Act → World → Prop} {c E : Prop} {i : Decidable c} (w : World) (h : @ite Prop c i (Oper.wp P o a w K Q) E) : @ite Prop c i (Oper.wp P o a w K Q) E := h

theorem Own.emptyAt {w0 w : World} (h : Ext w0 w) (e : TypeId) (size : Nat) {b : Nat} (hb : b = w.heap.size) : Own w0 (w.alloc (.cells #[] e)) e size (some ⟨b, 0, none⟩) 0 0 [] := by subst hb; exact Own.empty h e size

/-- Block b is just these cells of this type. -/
def BlkT (w : World) (b : Nat) (t : TypeId) (cs : Array Value) : Prop := w.heap[b]? = some (.cells cs t (0, 0))

section
variable {w w' : World} {b : Nat} {t : TypeId} {cs : Array Value}

theorem BlkT.lt (h : BlkT w b t cs) : b < w.heap.size := (Array.getElem?_eq_some_iff.1 h).1

theorem BlkT.cell (h : BlkT w b t cs) (i : Nat) : w.cell? ⟨b, i, none⟩ = cs[i]? := cell_of_row w b i cs t (0, 0) h

theorem BlkT.free (h : BlkT w b t cs) (i : Nat) : w.frozen? ⟨b, i, none⟩ = false := by
  unfold BlkT at h
  simp [World.frozen?, h]

theorem BlkT.blk (h : BlkT w b t cs) : Blk w b cs := ⟨h.cell, h.free, h.lt⟩

theorem BlkT.new (w : World) (t : TypeId) (cs : Array Value) {b : Nat} (hb : b = w.heap.size) : BlkT (w.alloc (.cells cs t)) b t cs := by subst hb; exact heap_alloc_new w _

theorem BlkT.drew (h : BlkT w b t cs) : BlkT w.drew b t cs := h

theorem BlkT.alloc (h : BlkT w b t cs) (o : Obj) : BlkT (w.alloc o) b t cs := (Below.heap_alloc w o b h.lt).trans h

theorem BlkT.up (h : BlkT w b t cs) (k : Ext w w') : BlkT w' b t cs := (k.block b h.lt).trans h

theorem BlkT.set_ (h : BlkT w b t cs) (i : Nat) (u : Value) : BlkT (w.setCell ⟨b, i, none⟩ u) b t (cs.setIfInBounds i u) := by
  unfold BlkT at h ⊢
  simp [World.setCell, Array.getElem?_modify, h]

theorem BlkT.far (h : BlkT w b t cs) {p : Addr} (hp : b ≠ p.block) (u : Value) : BlkT (w.setCell p u) b t cs := (Below.heap_setCell w p u b hp).trans h

/-- An append onto a slice of the call's own of another element type leaves it. -/
theorem BlkT.beside {w0 : World} {e : TypeId} {size n c : Nat} {A : Option Addr} {xs : List Value} (h : BlkT w b t cs) (own : Own w0 w e size A n c xs) (hne : e ≠ t) (hg : w.grownBy w' (Value.slice A n c).ownBlock) : BlkT w' b t cs := by
  refine (hg.block b h.lt (fun q => ?_)).trans h
  rcases own.row.2 with ⟨hv, _⟩ | ⟨g, cap, cur, hv, _, hh, _⟩
  · cases hv; simp [Value.ownBlock] at q
  · cases hv
    have hq : b = g := by simpa [Value.ownBlock] using q
    subst hq
    unfold BlkT at h
    rw [h] at hh
    injection hh with hh
    injection hh with _ ht
    exact hne ht.symm

/-- A store into it leaves such a slice. -/
theorem Own.far {w0 : World} {e : TypeId} {size n c : Nat} {A : Option Addr} {xs : List Value} (own : Own w0 w e size A n c xs) (h : BlkT w b t cs) (hne : e ≠ t) (hb : w0.heap.size ≤ b) (i : Nat) (u : Value) : Own w0 (w.setCell ⟨b, i, none⟩ u) e size A n c xs := by
  refine ⟨⟨own.row.1, ?_⟩, own.ext.setCell hb u⟩
  rcases own.row.2 with h2 | ⟨g, cap, cur, hv, hg, hh, r⟩
  · exact .inl h2
  · refine .inr ⟨g, cap, cur, hv, hg, ?_, r⟩
    have hgb : g ≠ b := by
      rintro rfl
      unfold BlkT at h
      rw [h] at hh
      injection hh with hh
      injection hh with _ ht
      exact hne ht.symm
    rw [Below.heap_setCell w ⟨b, i, none⟩ u g hgb]
    exact hh
end

end Go.Proofs.Ytlmmlmmadgcmcaa
