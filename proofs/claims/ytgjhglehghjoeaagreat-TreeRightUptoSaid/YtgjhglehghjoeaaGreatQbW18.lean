/- Contracts of layer 18: a field's numbers as one run; a record put behind the others. -/
import Derived.Test.YtgjhglehghjoeaaGreatQbS18
import Derived.Test.YtgjhglehghjoeaaGreatQbM14p
import Derived.Test.YtgjhglehghjoeaaGreatQbW10
import Derived.Test.YtgjhglehghjoeaaGreatQbW8
import Derived.Test.YtgjhglehghjoeaaGreatQbW14w
import Derived.Test.YtgjhglehghjoeaaGreatQbWSort
import Derived.Test.YtgjhglehghjoeaaGreatQbW11
import Derived.Test.YtgjhglehghjoeaaGreatQbKSchemaChecks

namespace Go.Proofs.YtgjhglehghjoeaaGreat
open Go.RowKit Go.Shelf
set_option linter.unusedVariables false

theorem nPut {bo bf : Nat} {A B : Option Addr} {n c m d : Nat} {number wire : Int} {xs vs : List UInt8} {w : World} (hbo : BlkT w bo 61 #[.slice A n c]) (hf : w.cell? ⟨bf, 1, none⟩ = some (.int .i64 number)) (hb : BytesAt w A n c xs) (hn : n ≤ 1000000000) (hv : BytesAt w B m d vs) (hm : m ≤ 1000000000) (h : (rightB number wire && fitsV wire vs) = true) :
    Calls Tryz.prog 200 #[.int .i64 wire, .slice B m d, .pointer (some ⟨bo, 0, none⟩), .pointer (some ⟨bf, 0, none⟩)] w fun e w' => e = .returned (.tuple #[]) ∧ ∃ w1 A' c', w' = w1.setCell ⟨bo, 0, none⟩ (.slice A' (n + (putB number wire vs).length) c') ∧ Own w w1 5 1 A' (n + (putB number wire vs).length) c' ((xs ++ putB number wire vs).map bv) := by
  have o0 : w.cell? ⟨bo, 0, none⟩ = some (.slice A n c) := hbo.cell 0
  have ol := hbo.lt
  have Hp := Lib.hid (fun W (E : Ext w W) => rPut (hb.up E) hn (hv.up E) hm h)
  have Hbo := Lib.hid hbo
  clear hbo h hv hb
  go_enter Tryz.func200, Tryz.ntmps200
  go_wp2_with (go_at_call 116; refine (Hp.out _ (by repeat with_reducible (first | exact Ext.refl _ | refine Ext.alloc ?_ _ | refine Ext.drew ?_ | refine Ext.drewN ?_ _ | refine Ext.setCell ?_ (by first | exact Nat.le_refl _ | omega | (simp; done) | (simp; omega)) _))).mono ?_; rintro e w1 ⟨A1, c1, rfl, own1⟩; have E1 : Ext w w1 := Ext.trans (by repeat with_reducible (first | exact Ext.refl _ | refine Ext.alloc ?_ _ | refine Ext.drew ?_ | refine Ext.drewN ?_ _ | refine Ext.setCell ?_ (by first | exact Nat.le_refl _ | omega | (simp; done) | (simp; omega)) _)) own1.ext; have z0 := E1.of_cell o0; have zf := (Hbo.out.up E1).free 0; have zl := Nat.lt_of_lt_of_le ol E1.size)
  go_end0
  exact ⟨rfl, w1, A1, c1, rfl, own1⟩

end Go.Proofs.YtgjhglehghjoeaaGreat

/- Contracts of layer 18: a field's records behind others. -/


namespace Go.Proofs.YtgjhglehghjoeaaGreat
open Go.RowKit Go.Shelf
set_option linter.unusedVariables false

structure PutS (w0 w wr : World) (b0 : Nat) (f : FieldD) (xs : List UInt8) (A : Option Addr) (n c : Nat) : Prop where
  o : BlkT wr b0 61 #[.slice A n c]
  own : Own w0 wr 5 1 A n c (xs.map bv)
  nL : n = xs.length
  ext : Ext w wr
  f : BlkT wr (b0 + 1) 25 #[.string f.name, .int .i64 f.number, .int .i64 f.kind, .bool f.rep, .bool f.packed, .int .i64 f.of_]

section
variable {w0 w wr : World} {b0 : Nat} {f : FieldD} {xs : List UInt8} {A : Option Addr} {n c : Nat}

theorem PutS.up (h : PutS w0 w wr b0 f xs A n c) {w' : World} (X : Ext wr w') : PutS w0 w w' b0 f xs A n c := ⟨h.o.up X, h.own.up X, h.nL, h.ext.trans X, h.f.up X⟩

theorem PutS.put (h : PutS w0 w wr b0 f xs A n c) (h0 : w0.heap.size ≤ b0) (hw : w.heap.size ≤ b0) {B : Option Addr} {m d : Nat} {wire : Int} {vs : List UInt8} (hv : BytesAt wr B m d vs) (hn : n ≤ 1000000000) (hm : m ≤ 1000000000) (hr : (rightB f.number wire && fitsV wire vs) = true) :
    Calls Tryz.prog 200 #[.int .i64 wire, .slice B m d, .pointer (some ⟨b0, 0, none⟩), .pointer (some ⟨b0 + 1, 0, none⟩)] wr fun e w' => e = .returned (.tuple #[]) ∧ ∃ A' n' c', PutS w0 w w' b0 f (xs ++ putB f.number wire vs) A' n' c' := by
  refine (nPut h.o (h.f.cell 1) h.own.bytes hn hv hm hr).mono ?_
  rintro e w' ⟨rfl, w1, A', c', rfl, own1⟩
  have B1 := h.o.up own1.ext
  have own2 := own1.since h.own.ext
  have hfar := own2.far B1 (by decide) h0 0 (.slice A' (n + (putB f.number wire vs).length) c')
  exact ⟨rfl, A', n + (putB f.number wire vs).length, c', ⟨B1.set_ 0 _, hfar, by rw [List.length_append, ← h.nL], (h.ext.trans own1.ext).setCell hw _, (h.f.up own1.ext).set_far 0 (by omega) _⟩⟩
end

section
variable {f : FieldD} {bs : List UInt8} {vs : List ViewD}

end

def FieldPost (w0 w : World) (ys : List UInt8) (e : Ending) (w' : World) : Prop := ∃ A' c', e = .returned (.slice A' ys.length c') ∧ Own w0 w' 5 1 A' ys.length c' (ys.map bv) ∧ Ext w w'

section
variable {w0 w : World} {SA : Option Addr} {sn sc : Nat} {S : List MsgV} {f : FieldD} {xs : List UInt8} {A : Option Addr} {n c : Nat} {B : Option Addr} {bn bc : Nat} {bs : List UInt8} {V : Option Addr} {vc : Nat} {vs : List ViewD} {se : Nat → MsgT → List UInt8} {sub : Nat → List UInt8 → MsgT}

structure FieldMid (w0 w w2 : World) (f : FieldD) (xs : List UInt8) (A : Option Addr) (n c : Nat) (v : ViewD) : Prop where
  put : PutS w0 w w2 w.heap.size f xs A n c
  last : BlkT w2 (w.heap.size + 2) 209 #[.int .i64 (v.r.n : Int), .int .i64 (v.r.w : Int), .int .i64 (v.r.f : Int), .int .i64 (v.r.a : Int), .int .i64 (v.r.t : Int), .int .i64 v.field, .bool v.run]

theorem FieldMid.made (own : Own w0 w 5 1 A n c (xs.map bv)) (hn : n = xs.length) {v : ViewD} {w2 : World}
    (E : Ext (((w.alloc (.cells #[.slice A n c] 61)).alloc (.cells #[.string f.name, .int .i64 f.number, .int .i64 f.kind, .bool f.rep, .bool f.packed, .int .i64 f.of_] 25)).alloc (.cells #[.int .i64 (v.r.n : Int), .int .i64 (v.r.w : Int), .int .i64 (v.r.f : Int), .int .i64 (v.r.a : Int), .int .i64 (v.r.t : Int), .int .i64 v.field, .bool v.run] 209)) w2) : FieldMid w0 w w2 f xs A n c v := by
  have X1 : Ext w w2 := ((((Ext.refl w).alloc _).alloc _).alloc _).trans E
  refine ⟨⟨?_, own.up X1, hn, X1, ?_⟩, ?_⟩
  · exact (((BlkT.new w 61 #[.slice A n c] rfl).alloc _).alloc _).up E
  · exact ((BlkT.new (w.alloc (.cells #[.slice A n c] 61)) 25 #[.string f.name, .int .i64 f.number, .int .i64 f.kind, .bool f.rep, .bool f.packed, .int .i64 f.of_] (show w.heap.size + 1 = _ by simp)).alloc _).up E
  · exact (BlkT.new ((w.alloc (.cells #[.slice A n c] 61)).alloc (.cells #[.string f.name, .int .i64 f.number, .int .i64 f.kind, .bool f.rep, .bool f.packed, .int .i64 f.of_] 25)) 209 #[.int .i64 (v.r.n : Int), .int .i64 (v.r.w : Int), .int .i64 (v.r.f : Int), .int .i64 (v.r.a : Int), .int .i64 (v.r.t : Int), .int .i64 v.field, .bool v.run] (show w.heap.size + 2 = _ by simp)).up E

theorem FieldMid.up {w2 w3 : World} {v : ViewD} (h : FieldMid w0 w w2 f xs A n c v) (X : Ext w2 w3) : FieldMid w0 w w3 f xs A n c v := ⟨h.put.up X, h.last.up X⟩

theorem FieldMid.cells {w2 : World} {v : ViewD} (h : FieldMid w0 w w2 f xs A n c v) :
    (w2.cell? ⟨w.heap.size, 0, none⟩ = some (.slice A n c) ∧ w.heap.size < w2.heap.size ∧ w.heap.size + 1 < w2.heap.size ∧ w.heap.size + 2 < w2.heap.size) ∧
    (w2.cell? ⟨w.heap.size + 1, 0, none⟩ = some (.string f.name) ∧ w2.cell? ⟨w.heap.size + 1, 1, none⟩ = some (.int .i64 f.number) ∧ w2.cell? ⟨w.heap.size + 1, 2, none⟩ = some (.int .i64 f.kind) ∧ w2.cell? ⟨w.heap.size + 1, 3, none⟩ = some (.bool f.rep) ∧ w2.cell? ⟨w.heap.size + 1, 4, none⟩ = some (.bool f.packed) ∧ w2.cell? ⟨w.heap.size + 1, 5, none⟩ = some (.int .i64 f.of_)) ∧
    (w2.cell? ⟨w.heap.size + 2, 3, none⟩ = some (.int .i64 (v.r.a : Int)) ∧ w2.cell? ⟨w.heap.size + 2, 4, none⟩ = some (.int .i64 (v.r.t : Int))) :=
  ⟨⟨h.put.o.cell 0, h.put.o.lt, h.put.f.lt, h.last.lt⟩, ⟨h.put.f.cell 0, h.put.f.cell 1, h.put.f.cell 2, h.put.f.cell 3, h.put.f.cell 4, h.put.f.cell 5⟩, ⟨h.last.cell 3, h.last.cell 4⟩⟩

theorem FieldMid.done {w2 : World} {v : ViewD} (h : FieldMid w0 w w2 f xs A n c v) : FieldPost w0 w xs (.returned (.slice A n c)) w2 := by
  obtain rfl := h.put.nL
  exact ⟨A, c, rfl, h.put.own, h.put.ext⟩

theorem PutS.done {w2 : World} {b0 : Nat} (h : PutS w0 w w2 b0 f xs A n c) : FieldPost w0 w xs (.returned (.slice A n c)) w2 := by
  obtain rfl := h.nL
  exact ⟨A, c, rfl, h.own, h.ext⟩

end

end Go.Proofs.YtgjhglehghjoeaaGreat

/- Contracts of layer 18: a field's records behind others. -/

namespace Go.Proofs.YtgjhglehghjoeaaGreat
open Go.RowKit Go.Shelf
set_option linter.unusedVariables false

section
variable {w0 w : World} {SA : Option Addr} {sn sc : Nat} {S : List MsgV} {f : FieldD} {xs : List UInt8} {A : Option Addr} {n c : Nat} {B : Option Addr} {bn bc : Nat} {bs : List UInt8} {V : Option Addr} {vc : Nat} {vs : List ViewD} {se : Nat → MsgT → List UInt8} {sub : Nat → List UInt8 → MsgT}

end

end Go.Proofs.YtgjhglehghjoeaaGreat

/- Contracts of layer 18: a field's records behind others. -/

namespace Go.Proofs.YtgjhglehghjoeaaGreat
open Go.RowKit Go.Shelf
set_option linter.unusedVariables false

section
variable {w0 w : World} {SA : Option Addr} {sn sc : Nat} {S : List MsgV} {f : FieldD} {xs : List UInt8} {A : Option Addr} {n c : Nat} {B : Option Addr} {bn bc : Nat} {bs : List UInt8} {V : Option Addr} {vc : Nat} {vs : List ViewD} {se : Nat → MsgT → List UInt8} {sub : Nat → List UInt8 → MsgT}

end

end Go.Proofs.YtgjhglehghjoeaaGreat

/- Contracts of layer 18: a field's records behind others. -/

namespace Go.Proofs.YtgjhglehghjoeaaGreat
open Go.RowKit Go.Shelf
set_option linter.unusedVariables false

section
variable {w0 w : World} {SA : Option Addr} {sn sc : Nat} {S : List MsgV} {f : FieldD} {xs : List UInt8} {A : Option Addr} {n c : Nat} {B : Option Addr} {bn bc : Nat} {bs : List UInt8} {V : Option Addr} {vc : Nat} {vs : List ViewD} {se : Nat → MsgT → List UInt8} {sub : Nat → List UInt8 → MsgT}

end

end Go.Proofs.YtgjhglehghjoeaaGreat

/- Contracts of layer 18: a field's records behind others. -/

namespace Go.Proofs.YtgjhglehghjoeaaGreat
open Go.RowKit Go.Shelf
set_option linter.unusedVariables false

section
variable {w0 w : World} {SA : Option Addr} {sn sc : Nat} {S : List MsgV} {f : FieldD} {xs : List UInt8} {A : Option Addr} {n c : Nat} {B : Option Addr} {bn bc : Nat} {bs : List UInt8} {V : Option Addr} {vc : Nat} {vs : List ViewD} {se : Nat → MsgT → List UInt8} {sub : Nat → List UInt8 → MsgT}

end

end Go.Proofs.YtgjhglehghjoeaaGreat

/- Contracts of layer 18: a field's records behind others. -/

namespace Go.Proofs.YtgjhglehghjoeaaGreat
open Go.RowKit Go.Shelf
set_option linter.unusedVariables false

section
variable {w0 w : World} {SA : Option Addr} {sn sc : Nat} {S : List MsgV} {f : FieldD} {xs : List UInt8} {A : Option Addr} {n c : Nat} {B : Option Addr} {bn bc : Nat} {bs : List UInt8} {V : Option Addr} {vc : Nat} {vs : List ViewD} {se : Nat → MsgT → List UInt8} {sub : Nat → List UInt8 → MsgT}

end

end Go.Proofs.YtgjhglehghjoeaaGreat

/- Contracts of layer 18: a field's records behind others. -/

namespace Go.Proofs.YtgjhglehghjoeaaGreat
open Go.RowKit Go.Shelf
set_option linter.unusedVariables false

section
variable {w0 w : World} {SA : Option Addr} {sn sc : Nat} {S : List MsgV} {f : FieldD} {xs : List UInt8} {A : Option Addr} {n c : Nat} {B : Option Addr} {bn bc : Nat} {bs : List UInt8} {V : Option Addr} {vc : Nat} {vs : List ViewD} {se : Nat → MsgT → List UInt8} {sub : Nat → List UInt8 → MsgT}

end

end Go.Proofs.YtgjhglehghjoeaaGreat

/- Contracts of layer 18: a field's records behind others. -/






namespace Go.Proofs.YtgjhglehghjoeaaGreat
open Go.RowKit Go.Shelf
set_option linter.unusedVariables false

section
variable {w0 w : World} {SA : Option Addr} {sn sc : Nat} {S : List MsgV} {f : FieldD} {xs : List UInt8} {A : Option Addr} {n c : Nat} {B : Option Addr} {bn bc : Nat} {bs : List UInt8} {V : Option Addr} {vc : Nat} {vs : List ViewD} {se : Nat → MsgT → List UInt8} {sub : Nat → List UInt8 → MsgT}

end

end Go.Proofs.YtgjhglehghjoeaaGreat

/- Contracts of layer 18: the parts of a message, gathered. -/


namespace Go.Proofs.YtgjhglehghjoeaaGreat
open Go.RowKit Go.Shelf
set_option linter.unusedVariables false

structure RowG where
  A : Option Addr
  c : Nat
  vs : List ViewD

def RowG.v (r : RowG) : Value := .slice r.A r.vs.length r.c

def RowG.nil : RowG := ⟨none, 0, []⟩

def GatAt (w : World) (bm : Nat) (E : Int → RowG) : Prop :=
  ∃ M : List (Int × Value), MapV w bm (fun x : Int => Value.int .i64 x) (fun x => (Lit.int .i64 x).wf = true) M ∧ ∀ n : Int, (getV n M).getD (.slice none 0 0) = (E n).v

def numV (n : Int) (v : ViewD) : Bool := !decide (v.field < 0) && (v.r.n : Int) == n

def unkL (bs : List UInt8) (L : List ViewD) : List UInt8 := (L.filter fun v => decide (v.field < 0)).flatMap fun v => spanB bs v.r.f v.r.t

section
variable {w w' : World} {bm : Nat} {E : Int → RowG} {s : Nat → Prop}

theorem GatAt.stays (h : GatAt w bm E) (k : Stays s w w') (hs : s bm) : GatAt w' bm E := by
  obtain ⟨M, h1, h2⟩ := h
  exact ⟨M, h1.stays k hs, h2⟩

theorem GatAt.lt (h : GatAt w bm E) : bm < w.heap.size := by
  obtain ⟨M, h1, h2⟩ := h
  exact h1.lt

theorem GatAt.up (h : GatAt w bm E) (X : Ext w w') : GatAt w' bm E := h.stays (s := fun _ => True) (Stays.of_ext X) trivial

theorem GatAt.made (w : World) : GatAt (w.alloc (.map #[] 0)) w.heap.size (fun _ => RowG.nil) := ⟨[], MapV.made w _ _, fun i => rfl⟩

theorem GatAt.not_row {w0 : World} {e : TypeId} {size n c : Nat} {A : Option Addr} {xs : List Value} (h : GatAt w bm E) (o : Own w0 w e size A n c xs) : (Value.slice A 0 0).ownBlock ≠ some bm := by
  intro hb
  obtain ⟨cur, hc⟩ := o.typed hb
  obtain ⟨M, ⟨es, cl, hh, _⟩, _⟩ := h
  rw [hh] at hc
  injection hc with hc
  cases hc

theorem wf_i64g {x : Int} (h : -9223372036854775808 ≤ x ∧ x ≤ 9223372036854775807) : (Lit.int .i64 x).wf = true := by
  simp [Lit.wf, IntKind.min, IntKind.max, IntKind.signed, IntKind.bits]
  omega
end

theorem zeroViews (u : World) : (zeroValue 204).run Tryz.prog u = .ok (.slice none 0 0) u := by kernel_rfl

theorem GatAt.look {w : World} {bm : Nat} {E : Int → RowG} (h : GatAt w bm E) {n : Int} (hn : -9223372036854775808 ≤ n ∧ n ≤ 9223372036854775807) :
    (Instr.lookup 257 (.map (some bm)) (.int .i64 n) false).run Tryz.prog w = .ok (.slice (E n).A (E n).vs.length (E n).c) w := by
  obtain ⟨M, h1, h2⟩ := h
  have := (h1.look (P := Tryz.prog) (t := 257) (keyB_int Tryz.underlying3) Tryz.underlying257 zeroViews (x := n) (wf_i64g hn)).1
  rw [h2] at this
  exact this

theorem GatAt.insert {w : World} {bm : Nat} {E : Int → RowG} (h : GatAt w bm E) {n : Int} (hn : -9223372036854775808 ≤ n ∧ n ≤ 9223372036854775807) (r : RowG) :
    ∃ w', (Instr.mapUpdate 257 (.map (some bm)) (.int .i64 n) (.slice r.A r.vs.length r.c)).run Tryz.prog w = .ok () w' ∧ GatAt w' bm (fun j => if j = n then r else E j) ∧ w.grownBy w' (some bm) := by
  obtain ⟨M, h1, h2⟩ := h
  obtain ⟨w', r1, r2, r3⟩ := h1.put (P := Tryz.prog) (t := 257) (keyB_int Tryz.underlying3) Tryz.underlying257 (x := n) (wf_i64g hn) (RowG.v r)
  refine ⟨w', r1, ⟨_, r2, fun j => ?_⟩, r3⟩
  by_cases hj : j = n
  · subst hj
    rw [getV_put_self]
    simp
  · rw [getV_put_other (fun e => hj e.symm), h2]
    simp [hj]

structure Gat (w w5 wr : World) (b0 : Nat) (bs : List UInt8) (L : List ViewD) (k : Nat) (E : Int → RowG) (U : Option Addr) (un uc : Nat) : Prop where
  res : BlkT wr (b0 + 1) 259 #[.map none, .slice none 0 0]
  p : BlkT wr (b0 + 3) 259 #[.map (some (b0 + 2)), .slice U un uc]
  unk : Own w wr 5 1 U un uc ((unkL bs (L.take k)).map bv)
  unL : un = (unkL bs (L.take k)).length
  map : GatAt wr (b0 + 2) E
  own : ∀ n, Own w wr 209 7 (E n).A (E n).vs.length (E n).c ((E n).vs.flatMap viewC)
  apart : ∀ n m b, n ≠ m → (Value.slice (E n).A 0 0).ownBlock = some b → (Value.slice (E m).A 0 0).ownBlock ≠ some b
  vs : ∀ n, (E n).vs = (L.take k).filter (numV n)
  stays : Stays (fun b => b ≠ b0 + 3 ∧ b ≠ b0 + 2 ∧ b < w5.heap.size) w5 wr
  new : ∀ n b, (Value.slice (E n).A 0 0).ownBlock = some b → w5.heap.size ≤ b
  unew : ∀ b, (Value.slice U 0 0).ownBlock = some b → w5.heap.size ≤ b

section
variable {w w5 wr : World} {b0 : Nat} {bs : List UInt8} {L : List ViewD} {k : Nat} {E : Int → RowG} {U : Option Addr} {un uc : Nat} {v : ViewD}

theorem unkL_yes {k : Nat} (h : L[k]? = some v) (hv : v.field < 0) : unkL bs (L.take (k + 1)) = unkL bs (L.take k) ++ spanB bs v.r.f v.r.t := by
  unfold unkL
  rw [List.take_add_one, h, List.filter_append, List.flatMap_append]
  simp [hv]

theorem unkL_no {k : Nat} (h : L[k]? = some v) (hv : ¬ v.field < 0) : unkL bs (L.take (k + 1)) = unkL bs (L.take k) := by
  unfold unkL
  rw [List.take_add_one, h, List.filter_append, List.flatMap_append]
  simp [hv]

theorem numV_yes {k : Nat} {n : Int} (h : L[k]? = some v) (hv : numV n v = true) : (L.take (k + 1)).filter (numV n) = (L.take k).filter (numV n) ++ [v] := by
  rw [List.take_add_one, h, List.filter_append]
  simp [hv]

theorem numV_no {k : Nat} {n : Int} (h : L[k]? = some v) (hv : numV n v = false) : (L.take (k + 1)).filter (numV n) = (L.take k).filter (numV n) := by
  rw [List.take_add_one, h, List.filter_append]
  simp [hv]

theorem Gat.up (h : Gat w w5 wr b0 bs L k E U un uc) {w' : World} (X : Ext wr w') : Gat w w5 w' b0 bs L k E U un uc :=
  ⟨h.res.up X, h.p.up X, h.unk.up X, h.unL, h.map.up X, fun n => (h.own n).up X, h.apart, h.vs, h.stays.trans (Stays.of_ext X), h.new, h.unew⟩

theorem Gat.unk_step (h : Gat w w5 wr b0 bs L k E U un uc) (hb : b0 = w.heap.size) (h5 : b0 + 4 ≤ w5.heap.size) (hv : L[k]? = some v) (hneg : v.field < 0) {w6 w7 : World} (X6 : Ext wr w6) {m : Nat} (hm : (spanB bs v.r.f v.r.t).length = m) {A7 : Option Addr} {c7 : Nat}
    (own7 : Own w w7 5 1 A7 (un + m) c7 ((unkL bs (L.take k)).map bv ++ (spanB bs v.r.f v.r.t).map bv)) (g7 : w6.grownBy w7 (Value.slice U un uc).ownBlock) (m7 : Moved w6 U A7) :
    Gat w w5 (w7.setCell ⟨b0 + 3, 1, none⟩ (.slice A7 (un + m) c7)) b0 bs L (k + 1) E A7 (un + m) c7 := by
  have hu := h.unk.up X6
  have B7 := (h.p.up X6).beside hu (by decide) g7
  have hS : Stays (fun b => (Value.slice U 0 0).ownBlock ≠ some b ∧ b ≠ b0 + 3) wr (w7.setCell ⟨b0 + 3, 1, none⟩ (.slice A7 (un + m) c7)) :=
    ((Stays.of_ext X6).trans (Stays.grown g7 (fun b hb q => q.1 (by rw [ownBlock_any U un uc 0 0] at hb; exact hb)))).set (fun q => q.2 rfl) _
  have hfar := own7.far B7 (by decide) (show w.heap.size ≤ b0 + 3 by omega) 1 (.slice A7 (un + m) c7)
  have hnot : ∀ n b, (Value.slice (E n).A 0 0).ownBlock = some b → (Value.slice U 0 0).ownBlock ≠ some b := fun n b hb q => by
    obtain ⟨c1, h1⟩ := (h.own n).typed hb
    obtain ⟨c2, h2⟩ := h.unk.typed q
    rw [h1] at h2
    injection h2 with h2
    injection h2 with _ h2
    exact absurd h2 (by decide)
  have hs0 := h.stays.size
  refine ⟨h.res.stays hS ⟨fun q => ?_, by omega⟩, B7.set_ 1 _, ?_, ?_, h.map.stays hS ⟨h.map.not_row h.unk, by omega⟩, fun n => (h.own n).stays hS hfar.ext (fun b hb => ⟨hnot n b hb, ?_⟩), h.apart, fun n => ?_, ?_, h.new, fun b hb => ?_⟩
  · have := h.unew _ q
    omega
  · rw [unkL_yes hv hneg, List.map_append]
    exact hfar
  · rw [unkL_yes hv hneg, List.length_append, ← h.unL, hm]
  · have := h.new n b hb
    omega
  · rw [h.vs n, numV_no hv]
    unfold numV
    simp [hneg]
  · refine ((h.stays.trans (Stays.of_ext X6)).trans (Stays.grown g7 (fun b hb q => ?_))).set (fun q => q.1 rfl) _
    rw [ownBlock_any U un uc 0 0] at hb
    have := h.unew b hb
    omega
  · rcases m7 with q | q
    · rw [q] at hb
      exact h.unew b hb
    · rw [q] at hb
      injection hb with hb
      have := X6.size
      omega

set_option maxRecDepth 100000 in
theorem Gat.add_step (h : Gat w w5 wr b0 bs L k E U un uc) (hb : b0 = w.heap.size) (h5 : b0 + 4 ≤ w5.heap.size) (hv : L[k]? = some v) (hneg : ¬ v.field < 0) (hn : (v.r.n : Int) ≤ 9223372036854775807) {w6 w7 : World} (X6 : Ext wr w6) {A7 : Option Addr} {c7 : Nat}
    (own7 : Own w w7 209 7 A7 ((E v.r.n).vs.length + 1) c7 ((E v.r.n).vs.flatMap viewC ++ viewC v)) (g7 : w6.grownBy w7 (Value.slice (E v.r.n).A (E v.r.n).vs.length (E v.r.n).c).ownBlock) (m7 : Moved w6 (E v.r.n).A A7) :
    ∃ w8, (Instr.mapUpdate 257 (.map (some (b0 + 2))) (.int .i64 (v.r.n : Int)) (.slice A7 ((E v.r.n).vs.length + 1) c7)).run Tryz.prog w7 = .ok () w8 ∧
      Gat w w5 w8 b0 bs L (k + 1) (fun j => if j = v.r.n then ⟨A7, c7, (E v.r.n).vs ++ [v]⟩ else E j) U un uc ∧ Stays (fun b => b ≠ b0 + 2) w7 w8 := by
  have hold := (h.own v.r.n).up X6
  have hS1 : Stays (fun b => (Value.slice (E v.r.n).A 0 0).ownBlock ≠ some b) wr w7 :=
    (Stays.of_ext X6).trans (Stays.grown g7 (fun b hb q => q (by rw [ownBlock_any (E v.r.n).A _ _ 0 0] at hb; exact hb)))
  have hK7 := h.map.stays hS1 (h.map.not_row (h.own v.r.n))
  obtain ⟨w8, r8, K8, g8⟩ := hK7.insert (n := (v.r.n : Int)) ⟨by omega, hn⟩ ⟨A7, c7, (E v.r.n).vs ++ [v]⟩
  have hlen : ((E v.r.n).vs ++ [v]).length = (E v.r.n).vs.length + 1 := by simp
  rw [hlen] at r8
  have hs0 := h.stays.size
  have hmlt := h.map.lt
  have hnotm : ∀ {e : TypeId} {size n c : Nat} {A : Option Addr} {xs : List Value}, Own w wr e size A n c xs → (Value.slice A 0 0).ownBlock ≠ some (b0 + 2) := fun o => h.map.not_row o
  have hS2 : Stays (fun b => b ≠ b0 + 2) w7 w8 := Stays.grown g8 (fun b hb q => q (by injection hb with hb; exact hb.symm))
  have hS : Stays (fun b => (Value.slice (E v.r.n).A 0 0).ownBlock ≠ some b ∧ b ≠ b0 + 2) wr w8 := (hS1.less (fun b q => q.1)).trans (hS2.less (fun b q => q.2))
  have hX8 : Ext w w8 := own7.ext.into g8 (by omega)
  have hA7 : (Value.slice A7 0 0).ownBlock ≠ some (b0 + 2) := by
    rcases m7 with q | q
    · rw [q]
      exact hnotm (h.own v.r.n)
    · rw [q]
      intro e
      injection e with e
      have := X6.size
      omega
  have own8 : Own w w8 209 7 A7 ((E v.r.n).vs.length + 1) c7 ((E v.r.n).vs.flatMap viewC ++ viewC v) := own7.stays hS2 hX8 (fun b hb e => hA7 (by rw [← e]; exact hb))
  have hunot : ∀ n b, (Value.slice (E n).A 0 0).ownBlock = some b → (Value.slice U 0 0).ownBlock ≠ some b := fun n b hb q => by
    obtain ⟨c1, h1⟩ := (h.own n).typed hb
    obtain ⟨c2, h2⟩ := h.unk.typed q
    rw [h1] at h2
    injection h2 with h2
    injection h2 with _ h2
    exact absurd h2 (by decide)
  refine ⟨w8, r8, ⟨h.res.stays hS ⟨fun q => ?_, by omega⟩, h.p.stays hS ⟨fun q => ?_, by omega⟩, ?_, ?_, K8, fun n => ?_, fun n m b hnm hb => ?_, fun n => ?_, ?_, fun n b hb => ?_, h.unew⟩, hS2⟩
  · have := h.new _ _ q
    omega
  · have := h.new _ _ q
    omega
  · rw [unkL_no hv hneg]
    exact h.unk.stays hS hX8 (fun b hb => ⟨fun q => hunot _ b q hb, fun e => hnotm h.unk (by rw [← e]; exact hb)⟩)
  · rw [unkL_no hv hneg]
    exact h.unL
  · by_cases e : n = v.r.n
    · rw [if_pos e]
      show Own w w8 209 7 A7 ((E v.r.n).vs ++ [v]).length c7 (((E v.r.n).vs ++ [v]).flatMap viewC)
      rw [hlen, List.flatMap_append]
      simpa using own8
    · rw [if_neg e]
      exact (h.own n).stays hS hX8 (fun b hb => ⟨fun q => h.apart n v.r.n b e hb q, fun e2 => hnotm (h.own n) (by rw [← e2]; exact hb)⟩)
  · have hnew : ∀ j b, (Value.slice (E j).A 0 0).ownBlock = some b → b < w6.heap.size := fun j b q => ((h.own j).up X6).new_lt q |>.2
    by_cases e : n = v.r.n
    · rw [if_pos e] at hb
      rw [if_neg (fun q => hnm (e.trans q.symm))]
      intro q
      rcases m7 with r | r
      · have hb' : (Value.slice A7 0 0).ownBlock = some b := hb
        rw [r] at hb'
        exact h.apart v.r.n m b (fun q2 => hnm (e.trans q2)) hb' q
      · have hb' : (Value.slice A7 0 0).ownBlock = some b := hb
        rw [r] at hb'
        injection hb' with hb'
        have := hnew m b q
        omega
    · rw [if_neg e] at hb
      by_cases e2 : m = v.r.n
      · rw [if_pos e2]
        intro q
        have q : (Value.slice A7 0 0).ownBlock = some b := q
        rcases m7 with r | r
        · rw [r] at q
          exact h.apart n v.r.n b e hb q
        · rw [r] at q
          injection q with q
          have := hnew n b hb
          omega
      · rw [if_neg e2]
        exact h.apart n m b hnm hb
  · by_cases e : n = v.r.n
    · rw [if_pos e]
      show (E v.r.n).vs ++ [v] = _
      rw [h.vs, e, numV_yes hv]
      unfold numV
      simp [hneg]
    · rw [if_neg e, h.vs n, numV_no hv]
      unfold numV
      have : ((v.r.n : Int) == n) = false := by simp; omega
      rw [this, Bool.and_false]
  · refine ⟨Nat.le_trans hs0 hS.size, fun b hb hlt => ?_⟩
    rw [hS.block b ⟨fun q => ?_, hb.2.1⟩ (by omega), h.stays.block b hb hlt]
    have := h.new _ _ q
    omega
  · by_cases e : n = v.r.n
    · rw [if_pos e] at hb
      have hb' : (Value.slice A7 0 0).ownBlock = some b := hb
      rcases m7 with r | r
      · rw [r] at hb'
        exact h.new _ b hb'
      · rw [r] at hb'
        injection hb' with hb'
        have := X6.size
        omega
    · rw [if_neg e] at hb
      exact h.new n b hb
end

end Go.Proofs.YtgjhglehghjoeaaGreat

/- Contracts of layer 18: the form of valid bytes. -/




namespace Go.Proofs.YtgjhglehghjoeaaGreat
open Go.RowKit Go.Shelf
set_option linter.unusedVariables false

section
variable {S : List MsgD} {m : Nat} {M : MsgD} {bs : List UInt8} {se : Nat → MsgT → List UInt8} {sub : Nat → List UInt8 → MsgT}

end

end Go.Proofs.YtgjhglehghjoeaaGreat

/- Contracts of layer 18: norm.Form, Same, Is; the chapter's example. -/



namespace Go.Proofs.YtgjhglehghjoeaaGreat
open Go.RowKit Go.Shelf
set_option linter.unusedVariables false

end Go.Proofs.YtgjhglehghjoeaaGreat

/- Contracts of layer 18: records are struck out of a slice of the call's own, in place. -/

namespace Go.Proofs.YtgjhglehghjoeaaGreat
open Go.RowKit Go.Shelf
set_option linter.unusedVariables false

theorem Reads.rec' {w : World} {A : Option Addr} {n c : Nat} {l : List Rec} (h : Reads w A n c 5 (l.flatMap recC)) {k : Nat} (hk : k < n) :
    ∃ b off v, A = some ⟨b, off, none⟩ ∧ l[k]? = some v ∧ b < w.heap.size ∧ w.cell? ⟨b, off + k * 5, none⟩ = some (.int .i64 (v.n : Int)) ∧ w.cell? ⟨b, off + k * 5 + 1, none⟩ = some (.int .i64 (v.w : Int)) ∧
      w.cell? ⟨b, off + k * 5 + 2, none⟩ = some (.int .i64 (v.f : Int)) ∧ w.cell? ⟨b, off + k * 5 + 3, none⟩ = some (.int .i64 (v.a : Int)) ∧ w.cell? ⟨b, off + k * 5 + 4, none⟩ = some (.int .i64 (v.t : Int)) := by
  obtain ⟨b, off, r, e, hx, hb, hj⟩ := h.elem (size := 5) (fun _ => rfl) (by omega) hk
  exact ⟨b, off, r, e, hx, hb, hj 0 _ rfl, hj 1 _ rfl, hj 2 _ rfl, hj 3 _ rfl, hj 4 _ rfl⟩

end Go.Proofs.YtgjhglehghjoeaaGreat
