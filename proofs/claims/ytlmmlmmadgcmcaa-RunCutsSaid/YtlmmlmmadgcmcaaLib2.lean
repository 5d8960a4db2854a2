/- More words for memory: facts carried to a later world under one name; structs of several cells. No program is named. -/
import Derived.Test.YtlmmlmmadgcmcaaLib
namespace Go.Proofs.Ytlmmlmmadgcmcaa
open Go.RowKit

section
variable {w0 w w' w'' : World} {e : TypeId} {size : Nat} {A : Option Addr} {n c : Nat} {xs : List Value} {bs : List UInt8}

theorem Ext.up (h : Ext w w') (k : Ext w' w'') : Ext w w'' := h.trans k

theorem Reads.up (h : Reads w A n c size xs) (k : Ext w w') : Reads w' A n c size xs := h.ext k

theorem BytesAt.up (h : BytesAt w A n c bs) (k : Ext w w') : BytesAt w' A n c bs := h.ext k

theorem Own.up (h : Own w0 w e size A n c xs) (k : Ext w w') : Own w0 w' e size A n c xs := h.later k

theorem Own.bytes (h : Own w0 w e 1 A n c (bs.map bv)) : BytesAt w A n c bs := h.reads
end

/-- A new block, then whatever: its cells, that they may be written, and that it lies there. -/
theorem Ext.new_cells {w w' : World} {cs : Array Value} {t : TypeId} (h : Ext (w.alloc (.cells cs t)) w') :
    (∀ i, w'.cell? ⟨w.heap.size, i, none⟩ = cs[i]?) ∧ (∀ i, w'.frozen? ⟨w.heap.size, i, none⟩ = false) ∧ w.heap.size < w'.heap.size :=
  ⟨(one_block h).1, (one_block h).2.1, (one_block h).2.2⟩

theorem flat_length {α : Type} {f : α → List Value} {size : Nat} (hf : ∀ x, (f x).length = size) (l : List α) : (l.flatMap f).length = l.length * size := by
  induction l with
  | nil => simp
  | cons r l ih => rw [List.flatMap_cons, List.length_append, ih, List.length_cons, hf, Nat.succ_mul]; omega

/-- The cells of the k-th thing of a slice of things of so many cells. -/
theorem Reads.elem {α : Type} {f : α → List Value} {size : Nat} (hf : ∀ x, (f x).length = size) (hs : 0 < size) {w : World} {A : Option Addr} {n c : Nat} {l : List α} (h : Reads w A n c size (l.flatMap f)) {k : Nat} (hk : k < n) :
    ∃ b off x, A = some ⟨b, off, none⟩ ∧ l[k]? = some x ∧ b < w.heap.size ∧ ∀ j u, (f x)[j]? = some u → w.cell? ⟨b, off + k * size + j, none⟩ = some u := by
  have hl : l.length = n := by have := h.len; rw [flat_length hf] at this; exact Nat.eq_of_mul_eq_mul_right hs this
  obtain ⟨b, off, e, hb, hc⟩ := h.at_ (by omega)
  have hx : l[k]? = some (l[k]'(by omega)) := List.getElem?_eq_getElem (by omega)
  refine ⟨b, off, _, e, hx, hb, fun j u hu => ?_⟩
  rw [Nat.add_assoc]
  refine hc (k * size + j) u ?_
  have hsp : l = l.take k ++ l[k]'(by omega) :: l.drop (k + 1) := by
    rw [← List.drop_eq_getElem_cons (by omega), List.take_append_drop]
  have hlt : (l.take k).length = k := by rw [List.length_take]; omega
  rw [hsp, List.flatMap_append, List.flatMap_cons, List.getElem?_append_right (by rw [flat_length hf, hlt]; omega), flat_length hf, hlt, Nat.add_sub_cancel_left]
  have hj5 : j < size := by
    rcases Nat.lt_or_ge j size with h | h
    · exact h
    · rw [List.getElem?_eq_none (by rw [hf]; exact h)] at hu; cases hu
  rw [List.getElem?_append_left (by rw [hf]; exact hj5)]
  exact hu

/-- Draws are moved outward: to lay into a walk's context where a quiet region stands ahead of a new block or a store. -/
theorem alloc_drewN (w : World) (n : Nat) (o : Obj) : (w.drewN n).alloc o = (w.alloc o).drewN n := rfl

theorem setCell_drewN (w : World) (n : Nat) (p : Addr) (v : Value) : (w.drewN n).setCell p v = (w.setCell p v).drewN n := rfl

/-- A block that is known whole. -/
structure Blk (w : World) (b : Nat) (cs : Array Value) : Prop where
  cell : ∀ i, w.cell? ⟨b, i, none⟩ = cs[i]?
  free : ∀ i, w.frozen? ⟨b, i, none⟩ = false
  lt : b < w.heap.size

theorem Blk.up {w w' : World} {b : Nat} {cs : Array Value} (h : Blk w b cs) (k : Ext w w') : Blk w' b cs :=
  ⟨fun i => (k.cell (p := ⟨b, i, none⟩) h.lt).trans (h.cell i), fun i => (k.frozen (p := ⟨b, i, none⟩) h.lt).trans (h.free i), Nat.lt_of_lt_of_le h.lt k.size⟩

theorem Ext.new_blk {w w' : World} {cs : Array Value} {t : TypeId} (h : Ext (w.alloc (.cells cs t)) w') : Blk w' w.heap.size cs :=
  ⟨h.new_cells.1, h.new_cells.2.1, h.new_cells.2.2⟩

section
variable {P : Program} {w0 w : World} {e t : TypeId} {size bytes : Nat} {A : Option Addr} {n c : Nat} {xs : List Value}

/-- The one element of several cells that 'append(out, x)' lays in a block of its own. -/
theorem reads_oneN (w : World) (cs : List Value) (e : TypeId) {b : Nat} (hb : b = w.heap.size) (hs : cs.length = size) : Reads (w.alloc (.cells cs.toArray e)) (some ⟨b, 0, none⟩) 1 1 size cs := by
  subst hb
  exact (Own.made (Ext.refl w) e size (cs := cs) (n := 1) (by simp [maxLen]) (by omega)).reads

/-- 'out = append(out, x)', x of several cells: the world has just laid x in a block of its own. -/
theorem wpList_oneN {ops : Array Oper} {rest : List Oper} {o : Oper} {a : Act} {Q : Exit → Act → World → Prop} (T : Elem P t e size bytes) (hgd : Region.wanted o (yielded ops a.tmps) = true) (s x : Operand)
    (ho : o.op = .call { callee := .builtin .append, args := #[s, x], argTypes := #[t, t] })
    (hs : a.eval s = .slice A n c) (h : Own w0 w e size A n c xs) {cs : List Value} {b : Nat} (hx : a.eval x = .slice (some ⟨b, 0, none⟩) 1 1) (hb0 : b = w.heap.size) (hcs : cs.length = size)
    (h1 : ∀ u ∈ cs, u.oneCell' = true) (hb : (n + 1) * bytes ≤ 140737488355328) (h63 : n + 1 ≤ maxLen)
    (k : ∀ A' c' w', Own w0 w' e size A' (n + 1) c' (xs ++ cs) → (w.alloc (.cells cs.toArray e)).grownBy w' (Value.slice A n c).ownBlock → wpList P ops Q rest (a.put o.dst (.slice A' (n + 1) c')) w') :
    wpList P ops Q (o :: rest) a (w.alloc (.cells cs.toArray e)) :=
  wpList_more T hgd s x ho hs (h.alloc _) hx (reads_oneN w cs e hb0 hcs) h1 hb h63 k

/-- The same inside a region that draws its order. -/
theorem step_oneN {ops : Array Oper} {o : Oper} {a : Act} {K : Act → World → Prop} {Q : Exit → Act → World → Prop} {E : Prop} (T : Elem P t e size bytes) (hgd : o.guard = none) (s x : Operand)
    (ho : o.op = .call { callee := .builtin .append, args := #[s, x], argTypes := #[t, t] })
    (hs : a.eval s = .slice A n c) (h : Own w0 w e size A n c xs) {cs : List Value} {b : Nat} (hx : a.eval x = .slice (some ⟨b, 0, none⟩) 1 1) (hb0 : b = w.heap.size) (hcs : cs.length = size)
    (h1 : ∀ u ∈ cs, u.oneCell' = true) (hb : (n + 1) * bytes ≤ 140737488355328) (h63 : n + 1 ≤ maxLen)
    (k : ∀ A' c' w', Own w0 w' e size A' (n + 1) c' (xs ++ cs) → (w.alloc (.cells cs.toArray e)).drew.grownBy w' (Value.slice A n c).ownBlock → K (a.put o.dst (.slice A' (n + 1) c')) w') :
    if Region.wanted o (yielded ops a.tmps) = true then Oper.wp P o a (w.alloc (.cells cs.toArray e)).drew K Q else E :=
  step_more T hgd s x ho hs (h.alloc _).drew hx ((reads_oneN w cs e hb0 hcs).ext (Ext.refl _).drew) h1 hb h63 k

/-- A cell of a block that is younger than the call's own slice: an append onto that slice leaves it. -/
theorem grown_cell {W w4 : World} (own : Own w0 w e size A n c xs) (hg : W.grownBy w4 (Value.slice A n c).ownBlock) {p : Addr} (h1 : w.heap.size ≤ p.block) (h2 : p.block < W.heap.size) : w4.cell? p = W.cell? p :=
  World.cell?_of_block (hg.block p.block h2 (fun e => by have := (own.row.lt p.block e.symm).2; omega))

theorem grown_ext {W w4 : World} (own : Own w0 w e size A n c xs) (hg : W.grownBy w4 (Value.slice A n c).ownBlock) (hE : Ext w0 W) : Ext w0 w4 :=
  Below.grown hE hg hE.size (fun k hk => (own.row.lt k hk).1)
end

end Go.Proofs.Ytlmmlmmadgcmcaa
