/- Words of my own for memory: a slice that reads as a list, a slice that the call itself made. No program is named. -/
import Derived.WalkKit
import Derived.WalkSpells
import Derived.WalkLawsBesides
import Derived.Maps.AppendAt
import Derived.Lib.Hide
import Derived.Laws.BytesArg
namespace Go.Proofs.Ytlmmlmmadgcmcaa
open Go.RowKit

/-- The world later: what was there is as it was. -/
def Ext (w w' : World) : Prop := Below w.heap.size w w'

section
variable {w w' w'' : World}

theorem Ext.refl (w : World) : Ext w w := Below.refl _ _

theorem Ext.trans (h : Ext w w') (k : Ext w' w'') : Ext w w'' := Below.trans h (Below.mono k h.size)

theorem Ext.alloc (h : Ext w w') (o : Obj) : Ext w (w'.alloc o) := Below.alloc h h.size o

theorem Ext.drew (h : Ext w w') : Ext w w'.drew := Below.drew h

theorem Ext.drewN (h : Ext w w') (n : Nat) : Ext w (w'.drewN n) := ⟨h.os, h.tape, h.output, h.size, h.block⟩

theorem Ext.setCell (h : Ext w w') {p : Addr} (hp : w.heap.size ≤ p.block) (u : Value) : Ext w (w'.setCell p u) := Below.setCell h hp u

theorem Ext.cell (h : Ext w w') {p : Addr} (hp : p.block < w.heap.size) : w'.cell? p = w.cell? p := Below.cell h hp

theorem Ext.of_cell (h : Ext w w') {p : Addr} {v : Value} (hp : w.cell? p = some v) : w'.cell? p = some v :=
  (Below.cell h (World.block_lt_of_cell? w p hp)).trans hp
end

theorem Ext.frozen {w w' : World} (h : Ext w w') {p : Addr} (hp : p.block < w.heap.size) : w'.frozen? p = w.frozen? p := Below.frozen h hp

/-- Two new blocks, then whatever: the cells of both, and that they may be written. -/
theorem two_blocks {w w' : World} {c1 c2 : Array Value} {t1 t2 : TypeId} (h : Ext ((w.alloc (.cells c1 t1)).alloc (.cells c2 t2)) w') :
    (∀ i, w'.cell? ⟨w.heap.size, i, none⟩ = c1[i]?) ∧ (∀ i, w'.cell? ⟨w.heap.size + 1, i, none⟩ = c2[i]?) ∧
    (∀ i, w'.frozen? ⟨w.heap.size, i, none⟩ = false) ∧ (∀ i, w'.frozen? ⟨w.heap.size + 1, i, none⟩ = false) ∧ w.heap.size + 2 ≤ w'.heap.size := by
  have hs : (w.alloc (.cells c1 t1)).heap.size = w.heap.size + 1 := by simp
  have hs2 : ((w.alloc (.cells c1 t1)).alloc (.cells c2 t2)).heap.size = w.heap.size + 2 := by simp
  have h1 : ((w.alloc (.cells c1 t1)).alloc (.cells c2 t2)).heap[w.heap.size]? = some (.cells c1 t1) := by
    have := Below.heap_alloc (w.alloc (.cells c1 t1)) (.cells c2 t2) w.heap.size (by omega)
    rw [this]; exact heap_alloc_new w _
  have h2 : ((w.alloc (.cells c1 t1)).alloc (.cells c2 t2)).heap[w.heap.size + 1]? = some (.cells c2 t2) := by
    have := heap_alloc_new (w.alloc (.cells c1 t1)) (.cells c2 t2)
    rwa [hs] at this
  have k1 := (h.block w.heap.size (by omega)).trans h1
  have k2 := (h.block (w.heap.size + 1) (by omega)).trans h2
  refine ⟨fun i => cell_of_row w' _ i c1 t1 (0, 0) k1, fun i => cell_of_row w' _ i c2 t2 (0, 0) k2, fun i => ?_, fun i => ?_, ?_⟩
  · simp [World.frozen?, k1]
  · simp [World.frozen?, k2]
  · have := h.size; omega

theorem one_block {w w' : World} {c1 : Array Value} {t1 : TypeId} (h : Ext (w.alloc (.cells c1 t1)) w') :
    (∀ i, w'.cell? ⟨w.heap.size, i, none⟩ = c1[i]?) ∧ (∀ i, w'.frozen? ⟨w.heap.size, i, none⟩ = false) ∧ w.heap.size + 1 ≤ w'.heap.size := by
  have hs : (w.alloc (.cells c1 t1)).heap.size = w.heap.size + 1 := by simp
  have k1 := (h.block w.heap.size (by omega)).trans (heap_alloc_new w _)
  refine ⟨fun i => cell_of_row w' _ i c1 t1 (0, 0) k1, fun i => ?_, ?_⟩
  · simp [World.frozen?, k1]
  · have := h.size; omega

/-- The slice of address A, n long, of capacity c, elements of so many cells: its cells hold xs. -/
structure Reads (w : World) (A : Option Addr) (n c size : Nat) (xs : List Value) : Prop where
  len : xs.length = n * size
  cap : n ≤ c
  max : c ≤ maxLen
  at_ : 0 < n → ∃ b off, A = some ⟨b, off, none⟩ ∧ b < w.heap.size ∧ ∀ j u, xs[j]? = some u → w.cell? ⟨b, off + j, none⟩ = some u

section
variable {w w' : World} {A : Option Addr} {n c size : Nat} {xs : List Value}

theorem Reads.ext (h : Reads w A n c size xs) (hE : Ext w w') : Reads w' A n c size xs :=
  ⟨h.len, h.cap, h.max, fun hn => by
    obtain ⟨b, off, e, hb, hc⟩ := h.at_ hn
    exact ⟨b, off, e, Nat.lt_of_lt_of_le hb hE.size, fun j u hu => (hE.cell hb).trans (hc j u hu)⟩⟩

theorem Reads.nil (w : World) (size : Nat) : Reads w none 0 0 size [] := ⟨by simp, Nat.le_refl _, by simp [maxLen], fun h => absurd h (Nat.lt_irrefl _)⟩

theorem Reads.of_empty (w : World) (A : Option Addr) {c : Nat} (hc : c ≤ maxLen) (size : Nat) : Reads w A 0 c size [] := ⟨by simp, Nat.zero_le _, hc, fun h => absurd h (Nat.lt_irrefl _)⟩

theorem addr_add (b off k : Nat) : (⟨b, off, none⟩ : Addr).add k = ⟨b, off + k, none⟩ := by
  unfold Addr.add
  split
  · rename_i h; subst h; rfl
  · rfl

theorem Reads.cut (h : Reads w A n c size xs) {l m : Nat} (hl : l ≤ m) (hm : m ≤ n) :
    Reads w (if c = l then A else A.map (·.add (l * size))) (m - l) (c - l) size ((xs.take (m * size)).drop (l * size)) := by
  have h1 := h.cap
  have h2 := h.max
  refine ⟨?_, by omega, by omega, fun hn => ?_⟩
  · have := h.len
    rw [List.length_drop, List.length_take, this, Nat.min_eq_left (Nat.mul_le_mul_right _ hm), ← Nat.sub_mul]
  · obtain ⟨b, off, rfl, hb, hc⟩ := h.at_ (by omega)
    rw [if_neg (by omega)]
    refine ⟨b, off + l * size, by simp [addr_add], hb, fun j u hu => ?_⟩
    have hx : xs[l * size + j]? = some u := by
      rw [List.getElem?_drop] at hu
      by_cases hj : l * size + j < m * size
      · rwa [List.getElem?_take_of_lt hj] at hu
      · rw [List.getElem?_eq_none (by rw [List.length_take]; omega)] at hu
        cases hu
    have := hc _ _ hx
    rwa [← Nat.add_assoc] at this
end

/-- A byte in a cell. -/
def bv (b : UInt8) : Value := .int .u8 (b.toNat : Int)

theorem u8_lt (x : UInt8) : x.toNat < 256 := x.toNat_lt

theorem u8_ltI (x : UInt8) : (x.toNat : Int) < 256 := by have := x.toNat_lt; omega

/-- A slice of bytes. -/
def BytesAt (w : World) (A : Option Addr) (n c : Nat) (bs : List UInt8) : Prop := Reads w A n c 1 (bs.map bv)

section
variable {w w' : World} {A : Option Addr} {n c : Nat} {bs : List UInt8}

theorem BytesAt.ext (h : BytesAt w A n c bs) (hE : Ext w w') : BytesAt w' A n c bs := Reads.ext h hE

theorem BytesAt.length (h : BytesAt w A n c bs) : bs.length = n := by have := Reads.len h; simpa using this

theorem BytesAt.byte (h : BytesAt w A n c bs) {k : Nat} (hk : k < n) :
    ∃ b off x, A = some ⟨b, off, none⟩ ∧ bs[k]? = some x ∧ w.cell? ⟨b, off + k, none⟩ = some (.int .u8 (x.toNat : Int)) := by
  obtain ⟨b, off, e, _, hc⟩ := Reads.at_ h (by omega)
  have hl := h.length
  have hx : bs[k]? = some (bs[k]'(by omega)) := List.getElem?_eq_getElem (by omega)
  exact ⟨b, off, _, e, hx, hc k _ (by rw [List.getElem?_map, hx]; rfl)⟩

theorem BytesAt.cut (h : BytesAt w A n c bs) {l m : Nat} (hl : l ≤ m) (hm : m ≤ n) :
    BytesAt w (if c = l then A else A.map (·.add (l * 1))) (m - l) (c - l) ((bs.take m).drop l) := by
  have := Reads.cut h hl hm
  simpa [BytesAt, List.map_drop, List.map_take] using this

theorem BytesAt.nil (w : World) : BytesAt w none 0 0 [] := Reads.nil w 1

theorem strOf (bs : List UInt8) : strOfNums (bs.map fun b => (b.toNat : Int)) = ⟨bs.toArray⟩ := by
  apply ByteArray.ext
  apply Array.toList_inj.1
  rw [strOfNums_data, List.map_map]
  simp [Function.comp_def]

theorem BytesAt.convert {P : Program} (h : BytesAt w A n c bs) (src e dst : TypeId) (hs : P.underlying src = some (.slice e)) (he : P.underlying e = some (.int .u8)) (hd : P.underlying dst = some .string) :
    (Go.convert src dst (.slice A n c)).run P w = .ok (.string ⟨bs.toArray⟩) w := by
  have hl := h.length
  by_cases hn : n = 0
  · subst hn
    have hb : bs = [] := List.eq_nil_of_length_eq_zero hl
    subst hb
    rcases A with _ | a
    · exact run_convert_bytes_nil w src e hs he 0 c dst hd
    · rw [run_convert_bytes_string w src dst e _ 0 c hs he hd, run_bytesToString w a 0 c [] (by simpa using run_loadCells_list (P := P) w a [] (by simp))]
      rfl
  · obtain ⟨b, off, rfl, _, hc⟩ := Reads.at_ h (by omega)
    have := run_convert_bytes_arg (P := P) w src e hs he b off n c (bs.map fun b => (b.toNat : Int)) (by simpa using hl) (fun i hi => by
      have hx : bs[i]? = some (bs[i]'(by omega)) := List.getElem?_eq_getElem (by omega)
      rw [hc i _ (by rw [List.getElem?_map, hx]; rfl)]
      simp [bv, hx]) dst hd
    rw [strOf] at this
    exact this
end

/-- What the program's table says of an element type. -/
structure Elem (P : Program) (t e : TypeId) (size bytes : Nat) : Prop where
  under : P.underlying t = some (.slice e)
  info : ∃ i z, P.info? e = some i ∧ i.zero = some z ∧ i.size = size ∧ i.bytes = bytes ∧ z.cells.size = size
  pos : 0 < size

theorem Elem.mk' {P : Program} {t e : TypeId} {z : Value} {size bytes : Nat} (h : P.underlying t = some (.slice e)) (hi : (P.info? e).map (fun i => (i.zero, i.size, i.bytes)) = some (some z, size, bytes))
    (hz : z.cells.size = size) (hs : 0 < size) : Elem P t e size bytes := by
  obtain ⟨i, h1, h2, h3, h4⟩ := info_parts hi
  exact ⟨h, ⟨i, z, h1, h2, h3, h4, hz⟩, hs⟩

/-- Since the world w0 the call has made a slice of address A, n long, that holds xs and is its own; what was there is as it was. -/
structure Own (w0 w : World) (e : TypeId) (size : Nat) (A : Option Addr) (n c : Nat) (xs : List Value) : Prop where
  row : w.ownsRow w0.heap.size e size (.slice A n c) n xs
  ext : Ext w0 w

section
variable {w0 w w' : World} {e : TypeId} {size : Nat} {A : Option Addr} {n c : Nat} {xs : List Value}

theorem Own.nil (h : Ext w0 w) (e : TypeId) (size : Nat) : Own w0 w e size none 0 0 [] := ⟨World.ownsRow_nil _ _ _ _, h⟩

theorem Own.drew (h : Own w0 w e size A n c xs) : Own w0 w.drew e size A n c xs := ⟨h.row, h.ext.drew⟩

theorem Own.alloc (h : Own w0 w e size A n c xs) (o : Obj) : Own w0 (w.alloc o) e size A n c xs := ⟨h.row.alloc o, h.ext.alloc o⟩

theorem ownsRow_more {b b' : Nat} {v : Value} (h : w.ownsRow b e size v n xs) (hb : b' ≤ b) : w.ownsRow b' e size v n xs := by
  refine ⟨h.1, ?_⟩
  rcases h.2 with h2 | ⟨g, cap, cur, hv, hg, r⟩
  · exact .inl h2
  · exact .inr ⟨g, cap, cur, hv, by omega, r⟩

theorem Own.later (h : Own w0 w e size A n c xs) (hE : Ext w w') : Own w0 w' e size A n c xs := by
  refine ⟨⟨h.row.1, ?_⟩, h.ext.trans hE⟩
  rcases h.row.2 with h2 | ⟨g, cap, cur, hv, hg, hh, r⟩
  · exact .inl h2
  · refine .inr ⟨g, cap, cur, hv, hg, ?_, r⟩
    rw [hE.block g (Array.getElem?_eq_some_iff.1 hh).1]
    exact hh

theorem Own.since (h : Own w0 w e size A n c xs) {w00 : World} (hE : Ext w00 w0) : Own w00 w e size A n c xs := ⟨ownsRow_more h.row hE.size, hE.trans h.ext⟩

theorem Own.reads (h : Own w0 w e size A n c xs) : Reads w A n c size xs := by
  rcases h.row.2 with ⟨hv, hn⟩ | ⟨g, cap, cur, hv, hg, hh, hnc, hcm, hcs, htake⟩
  · cases hv
    have hx : xs = [] := List.eq_nil_of_length_eq_zero (by simpa [hn] using h.row.1)
    subst hx
    exact Reads.nil w size
  · cases hv
    refine ⟨h.row.1, hnc, hcm, fun _ => ⟨g, 0, rfl, (Array.getElem?_eq_some_iff.1 hh).1, fun j u hu => ?_⟩⟩
    have := h.row.cells (g := g) rfl j u hu
    rwa [addr_add] at this

theorem Own.empty (h : Ext w0 w) (e : TypeId) (size : Nat) : Own w0 (w.alloc (.cells #[] e)) e size (some ⟨w.heap.size, 0, none⟩) 0 0 [] :=
  ⟨World.ownsRow_made w #[] 0 h.size (by simp [maxLen]) (by simp), h.alloc _⟩

theorem Own.made (h : Ext w0 w) (e : TypeId) (size : Nat) {cs : List Value} {n : Nat} (hn : n ≤ maxLen) (hs : cs.length = n * size) :
    Own w0 (w.alloc (.cells cs.toArray e)) e size (some ⟨w.heap.size, 0, none⟩) n n cs := by
  have := World.ownsRow_lit (e := e) (size := size) (base := w0.heap.size) w cs.toArray n h.size hn (by simpa using hs)
  exact ⟨by simpa using this, h.alloc _⟩

variable {P : Program} {t : TypeId} {bytes : Nat}

theorem run_append_more (T : Elem P t e size bytes) (ty : TypeId) (h : Own w0 w e size A n c xs) {B : Option Addr} {m d : Nat} {ys : List Value} (hr : Reads w B m d size ys)
    (h1 : ∀ u ∈ ys, u.oneCell' = true) (hb : (n + m) * bytes ≤ 140737488355328) (h63 : n + m ≤ maxLen) :
    ∃ A' c' w', (Builtin.append_ #[t, t] ty #[.slice A n c, .slice B m d]).run P w = .ok (.slice A' (n + m) c') w' ∧ Own w0 w' e size A' (n + m) c' (xs ++ ys) ∧ w.grownBy w' (Value.slice A n c).ownBlock := by
  obtain ⟨i, z, hi, hz, hsz, hby, hzs⟩ := T.info
  have shape : ∀ {v' : Value} {w' : World} {k : Nat} {zs : List Value}, w'.ownsRow w0.heap.size e size v' k zs → ∃ A' c', v' = .slice A' k c' := by
    intro v' w' k zs hrow
    rcases hrow.2 with ⟨rfl, rfl⟩ | ⟨g, cap, cur, rfl, _⟩
    · exact ⟨_, _, rfl⟩
    · exact ⟨_, _, rfl⟩
  have go : ∀ (ad : Addr), B = some ad → (∀ j u, ys[j]? = some u → w.cell? (ad.add j) = some u) →
      ∃ A' c' w', (Builtin.append_ #[t, t] ty #[.slice A n c, .slice B m d]).run P w = .ok (.slice A' (n + m) c') w' ∧ Own w0 w' e size A' (n + m) c' (xs ++ ys) ∧ w.grownBy w' (Value.slice A n c).ownBlock := by
    intro ad hB hcells
    subst hB
    obtain ⟨v', w', hrun, h2, h3, _, _⟩ := run_append_own_at (P := P) w w0.heap.size t ty e i z size bytes T.under hi hz hsz hby hzs T.pos _ n xs h.row ad m d ys hr.len hcells h1 h63 hb h.ext.size
    obtain ⟨A', c', rfl⟩ := shape h2
    refine ⟨A', c', w', hrun, ⟨h2, ?_⟩, h3⟩
    exact Below.grown h.ext h3 h.ext.size (fun k hk => (h.row.lt k hk).1)
  by_cases hm : m = 0
  · subst hm
    have hys : ys = [] := List.eq_nil_of_length_eq_zero (by simpa using hr.len)
    subst hys
    rcases B with _ | ad
    · refine ⟨A, c, w, ?_, by simpa using h, World.grownBy.refl w _⟩
      have := h.reads.cap
      rcases h.row.2 with ⟨hv, rfl⟩ | ⟨g, cap, cur, hv, _, _, hnc, _⟩
      · cases hv
        simp [Builtin.append_, run_underlying T.under, sizeOf, typeInfo, hi, Builtin.lenOf, Builtin.firstCells]
      · cases hv
        simp [Builtin.append_, run_underlying T.under, sizeOf, typeInfo, hi, Builtin.lenOf, Builtin.firstCells, hnc, storeCells]
    · exact go ad rfl (by simp)
  · obtain ⟨b, off, rfl, _, hc⟩ := hr.at_ (by omega)
    exact go _ rfl (fun j u hu => by rw [addr_add]; exact hc j u hu)

/-- 'out = append(out, xs...)' and 'out = append(out, x)', out the call's own, at the operation. -/
theorem wpList_more {ops : Array Oper} {rest : List Oper} {o : Oper} {a : Act} {Q : Exit → Act → World → Prop} (T : Elem P t e size bytes) (hgd : Region.wanted o (yielded ops a.tmps) = true) (s x : Operand)
    (ho : o.op = .call { callee := .builtin .append, args := #[s, x], argTypes := #[t, t] })
    (hs : a.eval s = .slice A n c) (h : Own w0 w e size A n c xs) {B : Option Addr} {m d : Nat} {ys : List Value} (hx : a.eval x = .slice B m d) (hr : Reads w B m d size ys)
    (h1 : ∀ u ∈ ys, u.oneCell' = true) (hb : (n + m) * bytes ≤ 140737488355328) (h63 : n + m ≤ maxLen)
    (k : ∀ A' c' w', Own w0 w' e size A' (n + m) c' (xs ++ ys) → w.grownBy w' (Value.slice A n c).ownBlock → wpList P ops Q rest (a.put o.dst (.slice A' (n + m) c')) w') : wpList P ops Q (o :: rest) a w := by
  obtain ⟨A', c', w', hrun, h2, h3⟩ := run_append_more T o.type h hr h1 hb h63
  refine wpList_step fun _ hK => ?_
  rw [if_pos hgd]
  unfold Oper.wp execOp
  simp only [ho, resolve, invoke, builtin, Sem.run_bind, Sem.run_pure, Result.andThen_ok, List.map_toArray, List.map_cons, List.map_nil, hs, hx, hrun]
  exact hK _ _ (k A' c' w' h2 h3)

/-- The one value that 'append(out, x)' lays in a block of its own. -/
theorem reads_one (w : World) (u : Value) (e : TypeId) {b : Nat} (hb : b = w.heap.size) : Reads (w.alloc (.cells #[u] e)) (some ⟨b, 0, none⟩) 1 1 1 [u] := by
  subst hb
  exact ⟨rfl, Nat.le_refl _, by simp [maxLen], fun _ => ⟨w.heap.size, 0, rfl, by simp, fun j x hx => by
    rcases j with _ | j
    · simp at hx; subst hx; exact World.cell?_alloc_new w #[u] e 0
    · simp at hx⟩⟩

/-- 'out = append(out, x)', x of one cell: the world has just laid x in a block of its own. -/
theorem wpList_one {ops : Array Oper} {rest : List Oper} {o : Oper} {a : Act} {Q : Exit → Act → World → Prop} (T : Elem P t e 1 bytes) (hgd : Region.wanted o (yielded ops a.tmps) = true) (s x : Operand)
    (ho : o.op = .call { callee := .builtin .append, args := #[s, x], argTypes := #[t, t] })
    (hs : a.eval s = .slice A n c) (h : Own w0 w e 1 A n c xs) {u : Value} {b : Nat} (hx : a.eval x = .slice (some ⟨b, 0, none⟩) 1 1) (hb0 : b = w.heap.size)
    (h1 : u.oneCell' = true) (hb : (n + 1) * bytes ≤ 140737488355328) (h63 : n + 1 ≤ maxLen)
    (k : ∀ A' c' w', Own w0 w' e 1 A' (n + 1) c' (xs ++ [u]) → (w.alloc (.cells #[u] e)).grownBy w' (Value.slice A n c).ownBlock → wpList P ops Q rest (a.put o.dst (.slice A' (n + 1) c')) w') :
    wpList P ops Q (o :: rest) a (w.alloc (.cells #[u] e)) :=
  wpList_more T hgd s x ho hs (h.alloc _) hx (reads_one w u e hb0) (by simpa using h1) hb h63 k

/-- The same inside a region that draws its order. -/
theorem step_more {ops : Array Oper} {o : Oper} {a : Act} {K : Act → World → Prop} {Q : Exit → Act → World → Prop} {E : Prop} (T : Elem P t e size bytes) (hgd : o.guard = none) (s x : Operand)
    (ho : o.op = .call { callee := .builtin .append, args := #[s, x], argTypes := #[t, t] })
    (hs : a.eval s = .slice A n c) (h : Own w0 w e size A n c xs) {B : Option Addr} {m d : Nat} {ys : List Value} (hx : a.eval x = .slice B m d) (hr : Reads w B m d size ys)
    (h1 : ∀ u ∈ ys, u.oneCell' = true) (hb : (n + m) * bytes ≤ 140737488355328) (h63 : n + m ≤ maxLen)
    (k : ∀ A' c' w', Own w0 w' e size A' (n + m) c' (xs ++ ys) → w.grownBy w' (Value.slice A n c).ownBlock → K (a.put o.dst (.slice A' (n + m) c')) w') :
    if Region.wanted o (yielded ops a.tmps) = true then Oper.wp P o a w K Q else E := by
  have hw : Region.wanted o (yielded ops a.tmps) = true := by simp [Region.wanted, hgd]
  rw [if_pos hw]
  obtain ⟨A', c', w', hrun, h2, h3⟩ := run_append_more T o.type h hr h1 hb h63
  unfold Oper.wp execOp
  simp only [ho, resolve, invoke, builtin, Sem.run_bind, Sem.run_pure, Result.andThen_ok, List.map_toArray, List.map_cons, List.map_nil, hs, hx, hrun]
  exact k A' c' w' h2 h3

theorem step_one {ops : Array Oper} {o : Oper} {a : Act} {K : Act → World → Prop} {Q : Exit → Act → World → Prop} {E : Prop} (T : Elem P t e 1 bytes) (hgd : o.guard = none) (s x : Operand)
    (ho : o.op = .call { callee := .builtin .append, args := #[s, x], argTypes := #[t, t] })
    (hs : a.eval s = .slice A n c) (h : Own w0 w e 1 A n c xs) {u : Value} {b : Nat} (hx : a.eval x = .slice (some ⟨b, 0, none⟩) 1 1) (hb0 : b = w.heap.size)
    (h1 : u.oneCell' = true) (hb : (n + 1) * bytes ≤ 140737488355328) (h63 : n + 1 ≤ maxLen)
    (k : ∀ A' c' w', Own w0 w' e 1 A' (n + 1) c' (xs ++ [u]) → (w.alloc (.cells #[u] e)).drew.grownBy w' (Value.slice A n c).ownBlock → K (a.put o.dst (.slice A' (n + 1) c')) w') :
    if Region.wanted o (yielded ops a.tmps) = true then Oper.wp P o a (w.alloc (.cells #[u] e)).drew K Q else E :=
  step_more T hgd s x ho hs (h.alloc _).drew hx ((reads_one w u e hb0).ext (Ext.refl _).drew) (by simpa using h1) hb h63 k
end

theorem bv_one (bs : List UInt8) : ∀ u ∈ bs.map bv, u.oneCell' = true := by
  intro u hu
  obtain ⟨b, _, rfl⟩ := List.mem_map.1 hu
  rfl

/-- A slice literal of bytes. -/
theorem bytes_lit (w : World) (e : TypeId) (vs : List Value) (bs : List UInt8) (n : Nat) {b : Nat} (hb : b = w.heap.size) (hv : vs = bs.map bv) (hl : bs.length = n) (hn : n ≤ maxLen) :
    BytesAt (w.alloc (.cells vs.toArray e)) (some ⟨b, 0, none⟩) n n bs := by
  subst hv hb
  exact (Own.made (Ext.refl w) e 1 (cs := bs.map bv) (n := n) hn (by simpa using hl)).reads

theorem bv_of (x : Nat) (h : x < 256) : bv x.toUInt8 = .int .u8 (x : Int) := by
  unfold bv
  congr 2
  show (x % 256 : Nat) = x
  omega

theorem toNat_u8 (x : Nat) (h : x < 256) : x.toUInt8.toNat = x := by
  show (x % 256 : Nat) = x
  omega

section
variable {P : Program} {t e : TypeId} {size bytes : Nat} {w : World} {A : Option Addr} {n c : Nat} {xs : List Value}

/-- 'x[l:]': what it runs to, whatever the world; what it reads as. -/
theorem cut_from (T : Elem P t e size bytes) (h : Reads w A n c size xs) (k : IntKind) {l : Nat} (hl : l ≤ n) :
    ∃ A', (∀ W : World, (Instr.slice t (.slice A n c) (some (.int k (l : Int))) none none).run P W = .ok (.slice A' (n - l) (c - l)) W) ∧ Reads w A' (n - l) (c - l) size (xs.drop (l * size)) := by
  obtain ⟨i, z, hi, _, hsz, _, _⟩ := T.info
  refine ⟨if c = l then A else A.map (·.add (l * size)), fun W => ?_, ?_⟩
  · simp [Instr.slice, run_underlying T.under, Instr.sliceBounds, run_sliceBound, sizeOf, typeInfo, hi, hsz, (by omega : (l : Int) ≤ n)]
  · have := h.cut hl (Nat.le_refl n)
    rwa [List.take_of_length_le (by rw [h.len]; exact Nat.le_refl _)] at this

/-- 'x[:m]'. -/
theorem cut_to (T : Elem P t e size bytes) (h : Reads w A n c size xs) (k : IntKind) {m : Nat} (hm : m ≤ n) :
    ∃ A', (∀ W : World, (Instr.slice t (.slice A n c) none (some (.int k (m : Int))) none).run P W = .ok (.slice A' m c) W) ∧ Reads w A' m c size (xs.take (m * size)) := by
  obtain ⟨i, z, hi, _, _, _, _⟩ := T.info
  have hc := h.cap
  refine ⟨if c = 0 then A else A.map (·.add (0 * size)), fun W => ?_, ?_⟩
  · simp [Instr.slice, run_underlying T.under, Instr.sliceBounds, run_sliceBound, sizeOf, typeInfo, hi, (by omega : (m : Int) ≤ c)]
  · have := h.cut (Nat.zero_le m) hm
    simpa using this

/-- 'x[l:m]'. -/
theorem cut_both (T : Elem P t e size bytes) (h : Reads w A n c size xs) (k k' : IntKind) {l m : Nat} (hl : l ≤ m) (hm : m ≤ n) :
    ∃ A', (∀ W : World, (Instr.slice t (.slice A n c) (some (.int k (l : Int))) (some (.int k' (m : Int))) none).run P W = .ok (.slice A' (m - l) (c - l)) W) ∧ Reads w A' (m - l) (c - l) size ((xs.take (m * size)).drop (l * size)) := by
  obtain ⟨i, z, hi, _, hsz, _, _⟩ := T.info
  have hc := h.cap
  refine ⟨if c = l then A else A.map (·.add (l * size)), fun W => ?_, h.cut hl hm⟩
  simp [Instr.slice, run_underlying T.under, Instr.sliceBounds, run_sliceBound, sizeOf, typeInfo, hi, hsz, (by omega : (m : Int) ≤ c), (by omega : (l : Int) ≤ m)]
end

theorem run_min_i {P : Program} (ts : Array TypeId) (t : TypeId) (k k' : IntKind) (x y : Int) (w : World) : (Builtin.min_ ts t #[.int k x, .int k' y]).run P w = .ok (.int k (min x y)) w := by
  have : (if y < x then y else x) = min x y := by split <;> omega
  simp [Builtin.min_, Builtin.min2, this]

theorem run_max_i {P : Program} (ts : Array TypeId) (t : TypeId) (k k' : IntKind) (x y : Int) (w : World) : (Builtin.max_ ts t #[.int k x, .int k' y]).run P w = .ok (.int k (max x y)) w := by
  have : (if x < y then y else x) = max x y := by split <;> omega
  simp [Builtin.max_, Builtin.max2, this]

/-- The length of the slice in a slot: for a loop's measure. -/
def lenOf : Value → Nat
  | .slice _ m _ => m
  | _ => 0

theorem ret_slice {A : Option Addr} {n n' c : Nat} (h : n = n') : Ending.returned (.slice A n c) = .returned (.slice A n' c) := by rw [h]

end Go.Proofs.Ytlmmlmmadgcmcaa
