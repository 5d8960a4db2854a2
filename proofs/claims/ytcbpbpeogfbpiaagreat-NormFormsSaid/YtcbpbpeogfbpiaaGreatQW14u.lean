/- Contracts of layer 14: what bytes mean. -/
import Derived.Test.YtcbpbpeogfbpiaaGreatQW14vS
import Derived.Test.YtcbpbpeogfbpiaaGreatQW14vT
import Derived.Test.YtcbpbpeogfbpiaaGreatQWSortS
import Derived.Test.YtcbpbpeogfbpiaaGreatQM14p
import Derived.StillTailTactics
import Derived.Deep.DeepCutAuto

namespace Go.Proofs.YtcbpbpeogfbpiaaGreat
open Go.RowKit Go.Shelf
set_option linter.unusedVariables false

theorem pValue {d : Nat} {S : List MsgV} {sub : Nat → List UInt8 → MsgT} (ih : OfP S d sub) {w0 w : World} {p : PieceG} {SA : Option Addr} {sn sc : Nat}
    (hp : PieceAt w0 w p) (hS : SchemaAt w0 SA sn sc S) (hlen : ∀ x ∈ ppiecesO p.f (p.vs.map BRow.bs), x.length < d) (hw : p.ws.length ≤ 1000000) (hs : p.vs.length ≤ 1000000) (hj : (p.vs.map BRow.bs).flatten.length ≤ 1000000)
    (hof : p.f.kind = 17 → ∃ m : Nat, p.f.of_ = (m : Int) ∧ m < S.length) :
    Calls Tryz.prog 105 #[ptrP p, .slice SA sn sc] w fun e w' => ∃ u : ValR, e = .returned (.tuple #[tvalV u, .bool (decide ((0 : Int) < (manyU u : Nat)))]) ∧ bareV u = valueU sub p.f p.ws (p.vs.map BRow.bs) ∧ ValAt w' u ∧ (∀ b, UsesV u b → Foot p b ∨ w.heap.size ≤ b) ∧ Stays (fun b => ¬ Foot p b) w w' ∧ Ext w0 w' := by
  by_cases hk : p.f.kind = 17
  · obtain ⟨m, h1, h2⟩ := hof hk
    exact pValueS ih hp hS hlen hw hs hj hk h1 h2
  · exact pValueT ih hp hS hlen hw hs hj hk

theorem wf_i64 {x : Int} (h : -9223372036854775808 ≤ x ∧ x ≤ 9223372036854775807) : (Lit.int .i64 x).wf = true := by
  simp [Lit.wf, IntKind.min, IntKind.max, IntKind.signed, IntKind.bits]
  omega

theorem zeroPtr (u : World) : (zeroValue 171).run Tryz.prog u = .ok (.pointer none) u := by kernel_rfl

theorem MetAt.look {w : World} {bm : Nat} {E : Nat → Option PieceG} (h : MetAt w bm E) {i : Nat} (hi : i < 1000000) :
    (Instr.lookup 167 (.map (some bm)) (.int .i64 (i : Int)) false).run Tryz.prog w = .ok (((E i).map ptrP).getD (.pointer none)) w := by
  obtain ⟨M, h1, h2⟩ := h
  have := (h1.look (P := Tryz.prog) (t := 167) (keyB_int Tryz.underlying3) Tryz.underlying167 zeroPtr (x := (i : Int)) (wf_i64 (by omega))).1
  rw [h2] at this
  exact this

theorem MetAt.insert {w : World} {bm : Nat} {E : Nat → Option PieceG} (h : MetAt w bm E) {i : Nat} (hi : i < 1000000) (p : PieceG) :
    ∃ w', (Instr.mapUpdate 167 (.map (some bm)) (.int .i64 (i : Int)) (ptrP p)).run Tryz.prog w = .ok () w' ∧ MetAt w' bm (fun j => if j = i then some p else E j) ∧ w.grownBy w' (some bm) := by
  obtain ⟨M, h1, h2⟩ := h
  obtain ⟨w', r1, r2, r3⟩ := h1.put (P := Tryz.prog) (t := 167) (keyB_int Tryz.underlying3) Tryz.underlying167 (x := (i : Int)) (wf_i64 (by omega)) (ptrP p)
  refine ⟨w', r1, ⟨_, r2, fun j => ?_⟩, r3⟩
  by_cases hj : j = i
  · subst hj
    rw [getV_put_self]
    simp
  · rw [getV_put_other (by omega), h2]
    simp [hj]

/-- What stands while the views are gone through. -/
structure Met1 (w w5 wr : World) (bm : Nat) (fs : List FieldD) (bs : List UInt8) (L : List ViewD) (nm : ByteArray) (MA : Option Addr) (Mn Mc : Nat) (k : Nat) (E : Nat → Option PieceG) (U : Option Addr) (un uc : Nat) : Prop where
  res : BlkT wr w.heap.size 44 #[.slice none 0 0, .slice none 0 0]
  x : BlkT wr (w.heap.size + 1) 44 #[.slice none 0 0, .slice U un uc]
  m : BlkT wr (w.heap.size + 2) 88 #[.string nm, .slice MA Mn Mc]
  unk : Own w wr 9 1 U un uc ((unkO bs (L.take k)).map strV)
  unL : un = (unkO bs (L.take k)).length
  met : MetAt wr bm E
  held : Held w wr w5.heap.size fs bs (viewsO (L.take k)) E (fun _ => True)
  stays : Stays (fun b => b ≠ w.heap.size + 1 ∧ b ≠ bm ∧ b < w5.heap.size) w5 wr
  unew : ∀ b, (Value.slice U 0 0).ownBlock = some b → w5.heap.size ≤ b

theorem MetAt.not_row {w w0 : World} {bm : Nat} {E : Nat → Option PieceG} {e : TypeId} {size n c : Nat} {A : Option Addr} {xs : List Value} (h : MetAt w bm E) (o : Own w0 w e size A n c xs) : (Value.slice A 0 0).ownBlock ≠ some bm := by
  intro hb
  obtain ⟨cur, hc⟩ := o.typed hb
  obtain ⟨M, ⟨es, cl, hh, _⟩, _⟩ := h
  rw [hh] at hc
  injection hc with hc
  cases hc

section
variable {w w5 wr : World} {bm : Nat} {fs : List FieldD} {bs : List UInt8} {L : List ViewD} {nm : ByteArray} {MA : Option Addr} {Mn Mc k : Nat} {E : Nat → Option PieceG} {U : Option Addr} {un uc : Nat} {v : ViewD}

theorem Met1.unk_step (h : Met1 w w5 wr bm fs bs L nm MA Mn Mc k E U un uc) (hbm : w.heap.size + 3 ≤ bm) (hw5 : w5.heap.size = bm + 1) (hv : L[k]? = some v) (hneg : v.field < 0) {w6 w7 : World} (X6 : Ext wr w6) {ob : Obj} {A7 : Option Addr} {c7 : Nat}
    (own7 : Own w w7 9 1 A7 (un + 1) c7 ((unkO bs (L.take k)).map strV ++ [.string ⟨(spanB bs v.r.f v.r.t).toArray⟩])) (g7 : (w6.alloc ob).grownBy w7 (Value.slice U un uc).ownBlock) (m7 : Moved (w6.alloc ob) U A7) :
    Met1 w w5 (w7.setCell ⟨w.heap.size + 1, 1, none⟩ (.slice A7 (un + 1) c7)) bm fs bs L nm MA Mn Mc (k + 1) E A7 (un + 1) c7 := by
  have hX : Ext wr (w6.alloc ob) := X6.alloc ob
  have hu := h.unk.up hX
  have B7 := (h.x.up hX).beside hu (by decide) g7
  have hne1 : w.heap.size + 1 ≠ w.heap.size := by omega
  have hne2 : w.heap.size + 1 ≠ w.heap.size + 2 := by omega
  have hS : Stays (fun b => (Value.slice U 0 0).ownBlock ≠ some b ∧ b ≠ w.heap.size + 1) wr (w7.setCell ⟨w.heap.size + 1, 1, none⟩ (.slice A7 (un + 1) c7)) :=
    ((Stays.of_ext hX).trans (Stays.grown g7 (fun b hb q => q.1 (by rw [ownBlock_any U un uc 0 0] at hb; exact hb)))).set (fun q => q.2 rfl) _
  have hV : viewsO (L.take (k + 1)) = viewsO (L.take k) := funext fun i => viewsO_no hv (by omega)
  have hfar := own7.far B7 (by decide) (show w.heap.size ≤ w.heap.size + 1 by omega) 1 (.slice A7 (un + 1) c7)
  refine ⟨((h.res.up hX).beside hu (by decide) g7).set_far 1 hne1 _, B7.set_ 1 _, ((h.m.up hX).beside hu (by decide) g7).set_far 1 hne2 _, ?_, ?_, h.met.stays hS ⟨h.met.not_row h.unk, by omega⟩, ?_, ?_, fun b hb => ?_⟩
  · rw [unkO_yes hv hneg, List.map_append]
    exact hfar
  · rw [unkO_yes hv hneg, List.length_append, ← h.unL]
    rfl
  · rw [hV]
    refine h.held.stays hS hfar.ext (fun i p hi hp b hb => ⟨(h.held.each i p hi hp).1.other hb h.unk (by decide) (by decide) (by decide), ?_⟩)
    have := h.held.new i p hi hp b hb
    omega
  · refine ((h.stays.trans (Stays.of_ext hX)).trans (Stays.grown g7 (fun b hb q => ?_))).set (fun q => q.1 rfl) _
    rw [ownBlock_any U un uc 0 0] at hb
    have := h.unew b hb
    omega
  · rcases m7 with q | q
    · rw [q] at hb
      exact h.unew b hb
    · rw [q] at hb
      injection hb with hb
      rw [← hb]
      exact Nat.le_trans h.stays.size hX.size

/-- There are not so many pieces. -/
theorem Met1.small (h : Met1 w w5 wr bm fs bs L nm MA Mn Mc k E U un uc) (i : Nat) (p : PieceG) (hE : E i = some p) {P C : Nat} (hL : viewsV fs bs = (L, P, C)) : p.ws.length ≤ bs.length ∧ p.vs.length ≤ bs.length ∧ (p.vs.map BRow.bs).flatten.length ≤ bs.length := by
  obtain ⟨q1, q2, q3, q4⟩ := h.held.each i p trivial hE
  have hw : weighL (viewsO (L.take k) i) ≤ bs.length := by
    have h1 := viewsV_weigh fs bs
    rw [hL] at h1
    exact Nat.le_trans (viewsO_weigh _ i) (Nat.le_trans (weighL_take L k) h1)
  have hv : ∀ v ∈ viewsO (L.take k) i, v.r.t ≤ bs.length := fun v hv => by
    have hm : v ∈ (viewsV fs bs).1 := by rw [hL]; exact List.mem_of_mem_take (List.mem_filter.1 hv).1
    exact (view_bd hm).2.2
  have h1 := words_le p.f bs _ hv
  have h2 := (pieces_le p.f bs _ hv).1
  have hl : p.vs.length = (p.vs.map BRow.bs).length := by rw [List.length_map]
  rw [← q3] at h1
  rw [← q4] at h2
  omega

theorem Met1.up (h : Met1 w w5 wr bm fs bs L nm MA Mn Mc k E U un uc) {w' : World} (X : Ext wr w') : Met1 w w5 w' bm fs bs L nm MA Mn Mc k E U un uc :=
  ⟨h.res.up X, h.x.up X, h.m.up X, h.unk.up X, h.unL, h.met.stays (s := fun _ => True) (Stays.of_ext X) trivial, h.held.stays (s := fun _ => True) (Stays.of_ext X) (h.unk.ext.trans X) (fun _ _ _ _ _ _ => trivial), h.stays.trans (Stays.of_ext X), h.unew⟩

/-- The field's pieces have grown. -/
theorem Met1.add_step (h : Met1 w w5 wr bm fs bs L nm MA Mn Mc k E U un uc) (hbm : w.heap.size + 3 ≤ bm) (hw5 : w5.heap.size = bm + 1) (hv : L[k]? = some v) {i : Nat} (hvi : v.field = (i : Int)) {p p' : PieceG} (hE : E i = some p) {w9 : World} (G : Grew w wr w9 p p')
    (hws : p'.ws = p.ws ++ wordsX p.f v.run (valueO bs v)) (hvs : p'.vs.map BRow.bs = p.vs.map BRow.bs ++ piecesX p.f v.run (valueO bs v)) :
    Met1 w w5 w9 bm fs bs L nm MA Mn Mc (k + 1) (fun j => if j = i then some p' else E j) U un uc := by
  have hf := h.held.new i p trivial hE
  have hS := G.stays
  have hx := G.at_.words.ext
  obtain ⟨q1, q2, q3, q4⟩ := h.held.each i p trivial hE
  have hno : ¬ v.field < 0 := by omega
  refine ⟨h.res.stays hS (fun q => ?_), h.x.stays hS (fun q => ?_), h.m.stays hS (fun q => ?_), ?_, ?_, (h.met.stays hS (fun q => ?_)).put hE G.b, ?_, ⟨Nat.le_trans h.stays.size hS.size, fun b hb hlt => ?_⟩, h.unew⟩
  · have := hf _ q
    omega
  · have := hf _ q
    omega
  · have := hf _ q
    omega
  · rw [unkO_no hv hno]
    exact h.unk.stays hS hx (fun b hb q => q1.other q h.unk (by decide) (by decide) (by decide) hb)
  · rw [unkO_no hv hno]
    exact h.unL
  · have := hf _ q
    omega
  · refine h.held.put hS (fun j p2 hj hne hp b hb q => h.held.apart j i p2 p hj trivial hne hp hE b hb q) G.at_ hx (by rw [G.f]; exact q2) ?_ ?_ (fun j hj => viewsO_no hv (fun e => hj (by omega))) trivial (fun b hb => ?_) h.stays.size
    · rw [hws, viewsO_yes hv hvi, List.flatMap_append, G.f, q3, List.flatMap_singleton]
      rfl
    · rw [hvs, viewsO_yes hv hvi, List.flatMap_append, G.f, q4, List.flatMap_singleton]
      rfl
    · rcases G.foot b hb with h1 | h1
      · exact .inl ⟨p, hE, h1⟩
      · exact .inr h1
  · rw [hS.block b (fun q => (by have := hf _ q; omega)) (Nat.lt_of_lt_of_le hlt h.stays.size), h.stays.block b hb hlt]
end

/-- The blocks of all pieces. -/
def Feet (E : Nat → Option PieceG) (b : Nat) : Prop := ∃ i p, E i = some p ∧ Foot p b

/-- The fields that are yet to be told. -/
def Yet (order : List Nat) (j i : Nat) : Prop := ∃ q, j ≤ q ∧ order[q]? = some i

theorem Yet.less {order : List Nat} {j i : Nat} (h : Yet order (j + 1) i) : Yet order j i := by
  obtain ⟨q, h1, h2⟩ := h
  exact ⟨q, by omega, h2⟩

theorem Yet.here {order : List Nat} {j i : Nat} (h : order[j]? = some i) : Yet order j i := ⟨j, Nat.le_refl _, h⟩

theorem Yet.ne {order : List Nat} (hn : order.Nodup) {j i i' : Nat} (h : order[j]? = some i) (h' : Yet order (j + 1) i') : i' ≠ i := by
  obtain ⟨q, h1, h2⟩ := h'
  rintro rfl
  obtain ⟨a1, a2⟩ := List.getElem?_eq_some_iff.1 h
  obtain ⟨b1, b2⟩ := List.getElem?_eq_some_iff.1 h2
  exact List.pairwise_iff_getElem.1 hn j q a1 b1 (by omega) (a2.trans b2.symm)

/-- What stands while the fields are told. -/
structure Met2 (w w6 wq : World) (base : Nat) (fs : List FieldD) (bs : List UInt8) (L : List ViewD) (E : Nat → Option PieceG) (order : List Nat) (U : Option Addr) (un uc j : Nat) (V : Option Addr) (vn vc : Nat) (ys : List ValR) : Prop where
  x : BlkT wq (w.heap.size + 1) 44 #[.slice V vn vc, .slice U un uc]
  own : Own w wq 58 4 V vn vc (ys.flatMap tvalC)
  vnL : vn = ys.length
  vnew : ∀ b, (Value.slice V 0 0).ownBlock = some b → w6.heap.size ≤ b
  held : Held w wq base fs bs (viewsO L) E (Yet order j)
  stays : Stays (fun b => ¬ Feet E b ∧ b ≠ w.heap.size + 1 ∧ b < w6.heap.size) w6 wq
  at_ : ∀ y ∈ ys, ValAt wq y
  away : ∀ y ∈ ys, ∀ b, UsesV y b → base ≤ b ∧ (Value.slice V 0 0).ownBlock ≠ some b ∧ ∀ i p, Yet order j i → E i = some p → ¬ Foot p b

section
variable {w w6 wq wz : World} {base : Nat} {fs : List FieldD} {bs : List UInt8} {L : List ViewD} {E : Nat → Option PieceG} {order : List Nat} {U : Option Addr} {un uc j : Nat} {V : Option Addr} {vn vc : Nat} {ys : List ValR}

theorem Met2.next (h : Met2 w w6 wq base fs bs L E order U un uc j V vn vc ys) : Met2 w w6 wq base fs bs L E order U un uc (j + 1) V vn vc ys :=
  ⟨h.x, h.own, h.vnL, h.vnew, h.held.less (fun i hi => hi.less), h.stays, h.at_, fun y hy b hb => ⟨(h.away y hy b hb).1, (h.away y hy b hb).2.1, fun i p hi => (h.away y hy b hb).2.2 i p hi.less⟩⟩

theorem Met2.up (h : Met2 w w6 wq base fs bs L E order U un uc j V vn vc ys) (X : Ext wq wz) : Met2 w w6 wz base fs bs L E order U un uc j V vn vc ys :=
  ⟨h.x.up X, h.own.up X, h.vnL, h.vnew, h.held.stays (s := fun _ => True) (Stays.of_ext X) (h.own.ext.trans X) (fun _ _ _ _ _ _ => trivial), h.stays.trans (Stays.of_ext X), fun y hy => (h.at_ y hy).up X, h.away⟩

/-- .. and its value is put behind the others. -/
theorem Met2.put (h : Met2 w w6 wq base fs bs L E order U un uc j V vn vc ys) (hb : w.heap.size + 1 < base) (h6 : base ≤ w6.heap.size) {u : ValR} (hu : ValAt wq u) (ha : ∀ b, UsesV u b → base ≤ b ∧ (Value.slice V 0 0).ownBlock ≠ some b ∧ ∀ i p, Yet order j i → E i = some p → ¬ Foot p b)
    {ob : Obj} {V7 : Option Addr} {c7 : Nat} {w7 : World} (own7 : Own w w7 58 4 V7 (vn + 1) c7 (ys.flatMap tvalC ++ tvalC u)) (g7 : (wq.alloc ob).grownBy w7 (Value.slice V vn vc).ownBlock) (m7 : Moved (wq.alloc ob) V V7) :
    Met2 w w6 (w7.setCell ⟨w.heap.size + 1, 0, none⟩ (.slice V7 (vn + 1) c7)) base fs bs L E order U un uc j V7 (vn + 1) c7 (ys ++ [u]) := by
  have X0 : Ext wq (wq.alloc ob) := (Ext.refl wq).alloc ob
  have hxu := h.own.up X0
  have hB := (h.x.up X0).beside hxu (by decide) g7
  have hlt := h.stays.size
  have hS : Stays (fun b => (Value.slice V 0 0).ownBlock ≠ some b ∧ b ≠ w.heap.size + 1) wq (w7.setCell ⟨w.heap.size + 1, 0, none⟩ (.slice V7 (vn + 1) c7)) :=
    ((Stays.of_ext X0).trans (Stays.grown g7 (fun b hb q => q.1 (by rw [ownBlock_any V vn vc 0 0] at hb; exact hb)))).set (fun q => q.2 rfl) _
  have hsz : wq.heap.size < (wq.alloc ob).heap.size := by simp
  have hfar := own7.far hB (by decide) (show w.heap.size ≤ w.heap.size + 1 by omega) 0 (.slice V7 (vn + 1) c7)
  have hnr : ∀ b, b < wq.heap.size → (Value.slice V 0 0).ownBlock ≠ some b → (Value.slice V7 0 0).ownBlock ≠ some b := by
    intro b hb h0
    rcases m7 with q | q
    · rw [q]; exact h0
    · rw [q]
      intro r
      injection r with r
      omega
  have hall : ∀ y ∈ ys ++ [u], ValAt wq y ∧ ∀ b, UsesV y b → base ≤ b ∧ (Value.slice V 0 0).ownBlock ≠ some b ∧ ∀ i p, Yet order j i → E i = some p → ¬ Foot p b := by
    intro y hy
    rcases List.mem_append.1 hy with hy | hy
    · exact ⟨h.at_ y hy, h.away y hy⟩
    · rw [List.mem_singleton] at hy
      subst hy
      exact ⟨hu, ha⟩
  refine ⟨hB.set_ 0 _, ?_, ?_, fun b hb => ?_, h.held.stays hS hfar.ext (fun i p hi hp b hb => ⟨fun q => ?_, ?_⟩), ?_, fun y hy => (hall y hy).1.stays hS (fun b hb => ?_), fun y hy b hb => ?_⟩
  · rw [List.flatMap_append]
    simpa using hfar
  · rw [List.length_append, ← h.vnL]
    rfl
  · rcases m7 with q | q
    · rw [q] at hb
      exact h.vnew b hb
    · rw [q] at hb
      injection hb with hb
      omega
  · exact (h.held.each i p hi hp).1.other hb h.own (by decide) (by decide) (by decide) q
  · have := h.held.new i p hi hp b hb
    omega
  · refine ⟨Nat.le_trans hlt hS.size, fun b hb hlt2 => ?_⟩
    rw [hS.block b ⟨fun q => ?_, hb.2.1⟩ (by omega), h.stays.block b hb hlt2]
    have := h.vnew b q
    omega
  · have := (hall y hy).2 b hb
    exact ⟨this.2.1, by omega⟩
  · have := (hall y hy).2 b hb
    exact ⟨this.1, hnr b ((hall y hy).1.lt hb) this.2.1, this.2.2⟩

/-- A field's value is told: of its pieces. -/
theorem Met2.call (h : Met2 w w6 wq base fs bs L E order U un uc j V vn vc ys) {S : List MsgV} {d : Nat} {sub : Nat → List UInt8 → MsgT} (ih : OfP S d sub) {SA : Option Addr} {sn sc : Nat} (hS : SchemaAt w SA sn sc S) {i : Nat} (hi : order[j]? = some i) {p : PieceG} (hp : E i = some p) (hf : ∀ f ∈ fs, f.kind = 17 → ∃ m : Nat, f.of_ = (m : Int) ∧ m < S.length)
    (hL : L = (viewsV fs bs).1) (hd : bs.length ≤ d) (hd2 : bs.length ≤ 1000000) (hne : viewsO L i ≠ []) :
    Calls Tryz.prog 105 #[ptrP p, .slice SA sn sc] wq fun e w' => ∃ u : ValR, e = .returned (.tuple #[tvalV u, .bool (decide ((0 : Int) < (manyU u : Nat)))]) ∧
      (if manyU u = 0 then none else some (bareV u)) = placeO sub fs bs L i ∧ ValAt w' u ∧ (∀ b, UsesV u b → Foot p b ∨ wq.heap.size ≤ b) ∧ Stays (fun b => ¬ Foot p b) wq w' ∧ Ext w w' := by
  obtain ⟨q1, q2, q3, q4⟩ := h.held.each i p (Yet.here hi) hp
  have hm : ∀ v ∈ viewsO L i, v ∈ (viewsV fs bs).1 := fun v hv => by rw [← hL]; exact (List.mem_filter.1 hv).1
  have hb : ∀ v ∈ viewsO L i, v.r.a ≤ v.r.t ∧ v.r.t ≤ bs.length := fun v hv => (by have := view_bd (hm v hv); omega)
  have hw : weighL (viewsO L i) ≤ bs.length := by
    have h1 := viewsV_weigh fs bs
    rw [← hL] at h1
    exact Nat.le_trans (viewsO_weigh _ i) h1
  have h1 := words_le p.f bs _ (fun v hv => (hb v hv).2)
  have h2 := (pieces_le p.f bs _ (fun v hv => (hb v hv).2)).1
  have hl : p.vs.length = (p.vs.map BRow.bs).length := by rw [List.length_map]
  rw [← q3] at h1
  rw [← q4] at h2
  have h17 : p.f.kind = 17 → ∀ v ∈ viewsO L i, v.run = false := by
    intro hk v hv
    rcases view_is (hm v hv) with e | ⟨k, f, e1, e2, e3⟩
    · have := (List.mem_filter.1 hv).2
      simp only [beq_iff_eq] at this
      omega
    · have := (List.mem_filter.1 hv).2
      simp only [beq_iff_eq] at this
      have hki : k = i := by omega
      subst hki
      rw [q2] at e2
      cases e2
      rcases e3 with ⟨_, _, e3⟩ | ⟨e3, _⟩
      · rw [hk] at e3
        exact absurd e3 (by decide)
      · exact e3
  have hlen : ∀ x ∈ ppiecesO p.f (p.vs.map BRow.bs), x.length < d := by
    intro x hx
    rw [q4, ppieces_eq] at hx
    have := fpiece_lt hne hb hw h17 hx
    omega
  refine (pValue ih q1 hS hlen (by omega) (by omega) (by omega) (hf p.f (List.mem_of_getElem? q2))).mono ?_
  rintro e w' ⟨u, h1, h2, h3, h4, h5, h6⟩
  refine ⟨u, h1, ?_, h3, h4, h5, h6⟩
  have hmu := manyU_bare u
  unfold placeO
  rw [q2]
  simp only
  rw [if_neg hne, fieldO_eq, ← q3, ← q4, ← h2, hmu]
end

end Go.Proofs.YtcbpbpeogfbpiaaGreat
