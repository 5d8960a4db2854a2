/- Contracts of layer 20: what a load means: texts, words. (Printed by gen_lvalue.py.) -/
import Derived.Test.YtnnphodgegcddaaQeW38
import Derived.Test.YtnnphodgegcddaaQeM36
import Derived.Test.YtnnphodgegcddaaQeW14o

namespace Go.Proofs.Ytnnphodgegcddaa
open Go.RowKit Go.Shelf
set_option linter.unusedVariables false
attribute [local go_sem] Oper.semAt_some

theorem row_appendedO {W w2 w4 : World} {base B k : Nat} {e : TypeId} {size n c : Nat} {A : Option Addr} {xs : List Value} {o : Obj} (row : W.ownsRow base e size (.slice A n c) n xs) (E2 : Ext W w2) (hbase : base ≤ W.heap.size) (hg : (w2.alloc o).grownBy w4 (Value.slice A n c).ownBlock) (hB : B < base) (v : Value) :
    KeepsOthers W (w4.setCell ⟨B, k, none⟩ v) ∧ (∀ b, b < base → b ≠ B → (w4.setCell ⟨B, k, none⟩ v).heap[b]? = W.heap[b]?) ∧ (∀ w0, Ext w0 W → w0.heap.size ≤ B → Ext w0 (w4.setCell ⟨B, k, none⟩ v)) ∧ W.heap.size ≤ (w4.setCell ⟨B, k, none⟩ v).heap.size := by
  have hk : KeepsOthers W w2 := ⟨E2.size, fun l o h _ => (E2.block l (Array.getElem?_eq_some_iff.1 h).1).trans h⟩
  have hk4 : KeepsOthers W w4 := (hk.trans (KeepsOthers.alloc w2 o)).trans (KeepsOthers.of_grownBy hg fun j o' ej hj => by
    obtain ⟨_, o2, h2, hc⟩ := row_block row ej
    have h3 := (Below.heap_alloc w2 o j (by have := (Array.getElem?_eq_some_iff.1 h2).1; have := E2.size; omega)).trans ((E2.block j (Array.getElem?_eq_some_iff.1 h2).1).trans h2)
    rw [h3] at hj
    cases hj
    exact hc)
  refine ⟨hk4.trans (KeepsOthers.setCell _ _ _), fun b hb hne => (Below.heap_setCell w4 ⟨B, k, none⟩ v b hne).trans (row_beside row E2 hbase hg hb), fun w0 h0 hw => ?_, (hk4.trans (KeepsOthers.setCell _ _ _)).size⟩
  refine Ext.setCell (p := ⟨B, k, none⟩) (Below.grown ((h0.trans E2).alloc o) hg (((h0.trans E2).alloc o).size) (fun k hk => ?_)) hw v
  have := (row_block row hk).1
  omega


def valW (SA : Option Addr) (sn sc : Nat) (f : FieldD) (d : Int) (w : World) : World :=
  (((w.alloc (.cells #[.slice SA sn sc] 23)).alloc (.cells #[.string f.name, .int .i64 f.number, .int .i64 f.kind, .bool f.rep, .bool f.packed, .int .i64 f.of_] 25)).alloc (.cells #[.int .i64 d] 3)).alloc (.cells #[.int .i64 0, .slice none 0 0, .slice none 0 0, .slice none 0 0] 33)

structure ValB (SA : Option Addr) (sn sc : Nat) (f : FieldD) (d : Int) (w W : World) : Prop where
  b4 : BlkT W w.heap.size 23 #[.slice SA sn sc]
  b5 : BlkT W (w.heap.size + 1) 25 #[.string f.name, .int .i64 f.number, .int .i64 f.kind, .bool f.rep, .bool f.packed, .int .i64 f.of_]
  b7 : BlkT W (w.heap.size + 1 + 1) 3 #[.int .i64 d]
  b8 : BlkT W (w.heap.size + 1 + 1 + 1) 33 #[.int .i64 0, .slice none 0 0, .slice none 0 0, .slice none 0 0]

theorem valW_at (SA : Option Addr) (sn sc : Nat) (f : FieldD) (d : Int) (w : World) : ValB SA sn sc f d w (valW SA sn sc f d w) ∧ Ext w (valW SA sn sc f d w) := by
  unfold valW
  exact ⟨⟨(((BlkT.new w _ _ rfl).alloc _).alloc _).alloc _, ((BlkT.new _ _ _ (by simp)).alloc _).alloc _, (BlkT.new _ _ _ (by simp)).alloc _, BlkT.new _ _ _ (by simp)⟩, (by repeat with_reducible (first | exact Ext.refl _ | refine Ext.alloc ?_ _ | refine Ext.drew ?_ | refine Ext.drewN ?_ _ | refine Ext.setCell ?_ (by first | exact Nat.le_refl _ | omega | (simp; done) | (simp; omega)) _))⟩

theorem ValB.up {SA : Option Addr} {sn sc : Nat} {f : FieldD} {d : Int} {w W W' : World} (h : ValB SA sn sc f d w W) (E : Ext W W') : ValB SA sn sc f d w W' := ⟨h.b4.up E, h.b5.up E, h.b7.up E, h.b8.up E⟩

theorem ValB.besides {SA : Option Addr} {sn sc : Nat} {f : FieldD} {d : Int} {w W W' : World} {b : Nat} {o : Obj} (h : ValB SA sn sc f d w W) (ho : W.heap[b]? = some o) (hc : o.isCells = false) (hO : Only b W W') : ValB SA sn sc f d w W' :=
  ⟨h.b4.besides ho hc hO, h.b5.besides ho hc hO, h.b7.besides ho hc hO, h.b8.besides ho hc hO⟩

theorem ValB.onlyB {SA : Option Addr} {sn sc : Nat} {f : FieldD} {d : Int} {w W W' : World} {B : Nat} (h : ValB SA sn sc f d w W) (hO : Only B W W') (hB : w.heap.size + 1 + 1 + 1 < B) : ValB SA sn sc f d w W' :=
  ⟨h.b4.onlyB hO (by omega), h.b5.onlyB hO (by omega), h.b7.onlyB hO (by omega), h.b8.onlyB hO (by omega)⟩

theorem ValB.same {SA : Option Addr} {sn sc : Nat} {f : FieldD} {d : Int} {w W W' : World} (h : ValB SA sn sc f d w W) (hs : ∀ b, b ≤ w.heap.size + 1 + 1 + 1 → W'.heap[b]? = W.heap[b]?) : ValB SA sn sc f d w W' :=
  ⟨(hs _ (by omega)).trans h.b4, (hs _ (by omega)).trans h.b5, (hs _ (by omega)).trans h.b7, (hs _ (by omega)).trans h.b8⟩

theorem reads_nil (w : World) (size : Nat) : Reads w none 0 0 size [] := (Own.nil (Ext.refl w) 0 size).reads

def ValTold (S : List MsgD) (y0 : ValT) (C : Nat) (w : World) (e : Ending) (w' : World) : Prop :=
  ∃ y : ValR, e = .returned (.tuple #[tvalV y, .int .u8 (C : Nat)]) ∧ bareV y = y0 ∧ ValAt w' y ∧ (∀ b, UsesV y b → w.heap.size ≤ b) ∧ Ext w w'

set_option maxRecDepth 100000 in
set_option maxHeartbeats 4000000 in
theorem lValue_bad {SA B : Option Addr} {sn sc m k : Nat} {S : List MsgV} {f : FieldD} {d : Int} {bs : List UInt8} {w : World} (hs : SchemaAt w SA sn sc S) (hb : BytesAt w B m k bs) (hm : m ≤ 1000000000) (h0 : codeL (S.map MsgV.d) f bs d ≠ 0) :
    Calls Try.prog 6 #[.slice SA sn sc, fieldV f, .slice B m k, .int .i64 d] w (ValTold (S.map MsgV.d) ⟨(), (), (), 0, [], [], []⟩ (codeL (S.map MsgV.d) f bs d) w) := by
  have hc := fun W (h : SchemaAt W SA sn sc S) (q : BytesAt W B m k bs) => lCheck (f := f) (d := d) h q hm
  have hN2 : (((codeL (S.map MsgV.d) f bs d : Nat) : Int) != 0) = true := by rw [bne_iff_ne]; omega
  obtain ⟨h, X⟩ := valW_at SA sn sc f d w
  have Hc := Lib.hid hc
  have HS := Lib.hid hs
  have HB := Lib.hid hb
  clear hc h0 hs hb
  generalize codeL (S.map MsgV.d) f bs d = C at *
  unfold fieldV
  unfold fieldV at Hc
  refine (callsIn_wide (n := 3)).1 ?_
  refine callsIn_of_wp_marks Try.func6 rfl trivial ?_ rfl
  simp only [Try.ntmps6, List.size_toArray, List.length_cons, List.length_nil, Nat.reduceAdd, Nat.reduceSub, Array.replicate_succ, Array.replicate_zero, List.push_toArray, List.append_toArray, List.nil_append, List.cons_append]
  gi_wp2_with fail
  rw [show (((w.alloc (.cells #[.slice SA sn sc] 23)).alloc (.cells #[.string f.name, .int .i64 f.number, .int .i64 f.kind, .bool f.rep, .bool f.packed, .int .i64 f.of_] 25)).alloc (.cells #[.int .i64 d] 3)).alloc (.cells #[.int .i64 0, .slice none 0 0, .slice none 0 0, .slice none 0 0] 33) = valW SA sn sc f d w from rfl]
  generalize valW SA sn sc f d w = wa at *
  have z4 := h.b4.cell 0
  have z7 := h.b7.cell 0
  have z50 : wa.cell? ⟨w.heap.size + 1, 0, none⟩ = some (.string f.name) := h.b5.cell 0
  have z51 : wa.cell? ⟨w.heap.size + 1, 1, none⟩ = some (.int .i64 f.number) := h.b5.cell 1
  have z52 : wa.cell? ⟨w.heap.size + 1, 2, none⟩ = some (.int .i64 f.kind) := h.b5.cell 2
  have z53 : wa.cell? ⟨w.heap.size + 1, 3, none⟩ = some (.bool f.rep) := h.b5.cell 3
  have z54 : wa.cell? ⟨w.heap.size + 1, 4, none⟩ = some (.bool f.packed) := h.b5.cell 4
  have z55 : wa.cell? ⟨w.heap.size + 1, 5, none⟩ = some (.int .i64 f.of_) := h.b5.cell 5
  have B8 := h.b8
  clear h
  gi_wp2_with (first | (refine ⟨trivial, ?_⟩; gi_at_call 9; refine (callsIn_wide.2 (Hc.out _ (HS.out.up X) (HB.out.up X))).mono ?_; rintro e w1 ⟨rfl, E1⟩; replace B8 := B8.up E1; have b80 := B8.cell 0; have b81 := B8.free 0; have b82 := B8.lt; have b8a := B8.cell 1; have b8b := B8.cell 2; have b8c := B8.cell 3; have b8d := B8.free 1; have b8e := B8.free 2; have b8f := B8.free 3; have X1 := X.trans E1))
  have BF : BlkT ((((w1.setCell ⟨w.heap.size + 1 + 1 + 1, 0, none⟩ (.int .i64 0)).setCell ⟨w.heap.size + 1 + 1 + 1, 1, none⟩ (.slice none 0 0)).setCell ⟨w.heap.size + 1 + 1 + 1, 2, none⟩ (.slice none 0 0)).setCell ⟨w.heap.size + 1 + 1 + 1, 3, none⟩ (.slice none 0 0)) (w.heap.size + 1 + 1 + 1) 33 #[.int .i64 0, .slice none 0 0, .slice none 0 0, .slice none 0 0] := by
    have := (((B8.set_ 0 (.int .i64 0)).set_ 1 (.slice none 0 0)).set_ 2 (.slice none 0 0)).set_ 3 (.slice none 0 0)
    simpa using this
  refine ⟨_, results_cell_row2 (ty := 33) rfl _ _ (w.heap.size + 1 + 1 + 1) _ _ (0, 0) _ rfl BF Try.underlying33 rfl (by kernel_rfl), ⟨(none, 0), (none, 0), (none, 0), 0, [], [], []⟩, rfl, rfl, ⟨⟨by simp, reads_nil _ _, (fun x h => by cases h), ⟨reads_nil _ _, fun t h => by cases h⟩, reads_nil _ _⟩, fun y h => by cases h⟩, ?_, ?_⟩
  · rintro b ((h | h | h) | ⟨y, hy, _⟩)
    · exact absurd h.1 (Nat.lt_irrefl 0)
    · exact absurd h.1 (Nat.lt_irrefl 0)
    · exact absurd h.1 (Nat.lt_irrefl 0)
    · cases hy
  · exact (by repeat with_reducible (first | exact X1 | exact Ext.refl _ | refine Ext.alloc ?_ _ | refine Ext.drew ?_ | refine Ext.drewN ?_ _ | refine Ext.setCell ?_ (by first | exact Nat.le_refl _ | omega | (simp; done) | (simp; omega)) _))

structure TxtI (SA : Option Addr) (sn sc : Nat) (f : FieldD) (d : Int) (w wa : World) (b11 : Nat) (vs : List RunV) (j : Nat) (W : World) : Prop where
  box : ValB SA sn sc f d w W
  out : ∃ A c, BlkT W b11 33 #[.int .i64 f.number, .slice none 0 0, .slice A j c, .slice none 0 0] ∧ W.ownsRow wa.heap.size 9 1 (.slice A j c) j ((vs.take j).map fun v => strV ⟨v.bs.toArray⟩)
  ext : Ext w W
  size : wa.heap.size ≤ W.heap.size

set_option maxRecDepth 100000 in
set_option maxHeartbeats 4000000 in
theorem lValue_texts {SA B : Option Addr} {sn sc m k : Nat} {S : List MsgV} {f : FieldD} {d : Int} {bs : List UInt8} {w : World} (hs : SchemaAt w SA sn sc S) (hb : BytesAt w B m k bs) (hm : m ≤ 1000000000) (h0 : codeL (S.map MsgV.d) f bs d = 0) (hr : runL f = false) (hk : numberB f.kind = false) (h17 : f.kind ≠ 17) (hnum : -9223372036854775808 ≤ f.number ∧ f.number < 9223372036854775808) :
    Calls Try.prog 6 #[.slice SA sn sc, fieldV f, .slice B m k, .int .i64 d] w (ValTold (S.map MsgV.d) ⟨(), (), (), f.number, [], (itemsL f.rep bs).map (fun x => (⟨x.1.toArray⟩ : ByteArray)), []⟩ 0 w) := by
  have hc := fun W (h : SchemaAt W SA sn sc S) (q : BytesAt W B m k bs) => lCheck (f := f) (d := d) h q hm
  rw [h0] at hc
  have hp := fun W => lPacked (f := f) (w := W)
  unfold runL at hr
  rw [hr] at hp
  have ha := fun W (E : Ext w W) => lAll (f := f) hb E hm
  have hn := fun W => kNumber f.kind W
  rw [hk] at hn
  obtain ⟨h, X⟩ := valW_at SA sn sc f d w
  have Hc := Lib.hid hc
  have Hp := Lib.hid hp
  have Ha := Lib.hid ha
  have Hn := Lib.hid hn
  have HS := Lib.hid hs
  have HB := Lib.hid hb
  have h17b : (f.kind == 17) = false := by rw [beq_eq_false_iff_ne]; exact h17
  clear h17
  have HK := Lib.hid hk
  clear hc hp ha hn h0 hs hb hr hk
  obtain ⟨y0, hy0⟩ : ∃ y0 : ValT, y0 = ⟨(), (), (), f.number, [], (itemsL f.rep bs).map (fun x => (⟨x.1.toArray⟩ : ByteArray)), []⟩ := ⟨_, rfl⟩
  rw [← hy0]
  have Hy0 := Lib.hid hy0
  clear hy0
  unfold fieldV
  unfold fieldV at Hc Hp Ha
  refine (callsIn_wide (n := 3)).1 ?_
  refine callsIn_of_wp_marks Try.func6 rfl trivial ?_ rfl
  simp only [Try.ntmps6, List.size_toArray, List.length_cons, List.length_nil, Nat.reduceAdd, Nat.reduceSub, Array.replicate_succ, Array.replicate_zero, List.push_toArray, List.append_toArray, List.nil_append, List.cons_append]
  gi_wp2_with fail
  rw [show (((w.alloc (.cells #[.slice SA sn sc] 23)).alloc (.cells #[.string f.name, .int .i64 f.number, .int .i64 f.kind, .bool f.rep, .bool f.packed, .int .i64 f.of_] 25)).alloc (.cells #[.int .i64 d] 3)).alloc (.cells #[.int .i64 0, .slice none 0 0, .slice none 0 0, .slice none 0 0] 33) = valW SA sn sc f d w from rfl]
  generalize valW SA sn sc f d w = wa at *
  have z4 := h.b4.cell 0
  have z7 := h.b7.cell 0
  have z50 : wa.cell? ⟨w.heap.size + 1, 0, none⟩ = some (.string f.name) := h.b5.cell 0
  have z51 : wa.cell? ⟨w.heap.size + 1, 1, none⟩ = some (.int .i64 f.number) := h.b5.cell 1
  have z52 : wa.cell? ⟨w.heap.size + 1, 2, none⟩ = some (.int .i64 f.kind) := h.b5.cell 2
  have z53 : wa.cell? ⟨w.heap.size + 1, 3, none⟩ = some (.bool f.rep) := h.b5.cell 3
  have z54 : wa.cell? ⟨w.heap.size + 1, 4, none⟩ = some (.bool f.packed) := h.b5.cell 4
  have z55 : wa.cell? ⟨w.heap.size + 1, 5, none⟩ = some (.int .i64 f.of_) := h.b5.cell 5
  have H0 := Lib.hid h
  have lb8 := h.b8.lt
  clear h
  gi_wp2_with (first
    | (refine ⟨trivial, ?_⟩; gi_at_call 9; refine (callsIn_wide.2 (Hc.out _ (HS.out.up X) (HB.out.up X))).mono ?_; rintro e w1 ⟨rfl, E1⟩; have X1 := X.trans E1; have lb1 := Nat.lt_of_lt_of_le lb8 E1.size; have lb1a : w.heap.size + 1 < w1.heap.size := (by omega); have lb1b : w.heap.size < w1.heap.size := (by omega); have lb1c : w.heap.size + 1 + 1 < w1.heap.size := (by omega); replace z4 := E1.of_cell z4; replace z7 := E1.of_cell z7; replace z50 := E1.of_cell z50; replace z51 := E1.of_cell z51; replace z52 := E1.of_cell z52; replace z53 := E1.of_cell z53; replace z54 := E1.of_cell z54; replace z55 := E1.of_cell z55)
    | (refine ⟨trivial, ?_⟩; gi_at_call 10; refine (callsIn_wide.2 (Hp.out _)).mono ?_; rintro e w2 ⟨rfl, E2⟩; have EX : Ext w1 w2 := Ext.trans (by repeat with_reducible (first | exact Ext.refl _ | refine Ext.alloc ?_ _ | refine Ext.drew ?_ | refine Ext.drewN ?_ _ | refine Ext.setCell ?_ (by first | exact Nat.le_refl _ | omega | (simp; done) | (simp; omega)) _)) E2; have BO := (BlkT.new w1 33 #[.int .i64 f.number, .slice none 0 0, .slice none 0 0, .slice none 0 0] rfl).up E2; have X2 := X1.trans EX; replace z4 := EX.of_cell z4; replace z7 := EX.of_cell z7; replace z50 := EX.of_cell z50; replace z51 := EX.of_cell z51; replace z52 := EX.of_cell z52; replace z53 := EX.of_cell z53; replace z54 := EX.of_cell z54; replace z55 := EX.of_cell z55)
    | (refine ⟨trivial, ?_⟩; gi_at_call 12; refine (callsIn_wide.2 (Ha.out _ X2)).mono ?_; rintro e w3 ⟨gf, lb, B0, vs, rfl, eg, hV, hit, hB1, hB2, E3⟩; have X3 := X2.trans E3; have EA := (E1.trans EX).trans E3))
  have hw1 := E1.size
  have hw2 := BO.lt
  have hw3 := E3.size
  have hx0 := X.size
  have hvl : vs.length ≤ m + 1 := by have := itemsL_len f.rep bs; rw [← hV.list, List.length_map, HB.out.length] at this; exact this
  refine wp_range (w := w3) rfl eg hit (fun b h => by omega) hB2 (fun _ => rfl)
    (TxtI SA sn sc f d w w3 w1.heap.size vs) (fun _ _ => False)
    (fun j x a₁ W => TxtI SA sn sc f d w w3 w1.heap.size vs j W ∧ ∃ b12, BlkT W b12 54 #[.slice x.A x.n x.c, .int .u8 (x.e : Int)] ∧ w3.heap.size ≤ b12 ∧ a₁ = { tmps := #[.slice SA sn sc, .agg #[.string f.name, .int .i64 f.number, .int .i64 f.kind, .bool f.rep, .bool f.packed, .int .i64 f.of_], .slice B m k, .int .i64 d, .pointer (some ⟨w.heap.size, 0, none⟩), .pointer (some ⟨w.heap.size + 1, 0, none⟩), undef, .pointer (some ⟨w.heap.size + 1 + 1, 0, none⟩), .pointer (some ⟨w.heap.size + 1 + 1 + 1, 0, none⟩), .int .u8 0, .int .u8 0, .pointer (some ⟨w1.heap.size, 0, none⟩), .pointer (some ⟨b12, 0, none⟩), undef, undef, undef, undef, .slice SA sn sc, .agg #[.string f.name, .int .i64 f.number, .int .i64 f.kind, .bool f.rep, .bool f.packed, .int .i64 f.of_], .slice B m k, .int .i64 d, .int .u8 0, .int .u8 0, .bool false, undef, undef, .pointer (some ⟨w.heap.size + 1, 1, none⟩), .int .i64 f.number, .agg #[.int .i64 f.number, .slice none 0 0, .slice none 0 0, .slice none 0 0], .agg #[.string f.name, .int .i64 f.number, .int .i64 f.kind, .bool f.rep, .bool f.packed, .int .i64 f.of_], .bool false, undef, undef, undef, undef, undef, undef, undef, undef, undef, .agg #[.string f.name, .int .i64 f.number, .int .i64 f.kind, .bool f.rep, .bool f.packed, .int .i64 f.of_], .slice B m k, .func (.func gf) #[] lb, runV x, undef, undef, undef, undef, undef, undef, undef, undef, undef, undef, undef, undef, undef, undef, undef, undef, undef, undef, undef, undef, undef, undef, undef, undef, undef, undef, undef, undef, undef, undef, undef, undef, undef, undef, undef, undef, undef, undef, undef, undef, undef, undef, undef, undef, undef, undef, undef], defers := [] })
    (fun j W h => h.size) ?hI ?hIB ?hIx ?hIxB ?hA ⟨H0.out.up EA, ⟨none, 0, BO.up E3, World.ownsRow_nil _ _ _ _⟩, X3, Nat.le_refl _⟩ ?assign ?body ?done ?stop
  case hI =>
    intro j W W' b o h hb2 ho hc hO
    obtain ⟨A2, c2, r2, row⟩ := h.out
    exact ⟨h.box.besides ho hc hO, ⟨A2, c2, r2.besides ho hc hO, row_besides row ho hc hO⟩, hO.toExt h.ext (by omega), Nat.le_trans h.size hO.size⟩
  case hIB =>
    intro j W W' h hO
    obtain ⟨A2, c2, r2, row⟩ := h.out
    exact ⟨h.box.onlyB hO (by omega), ⟨A2, c2, r2.onlyB hO (by omega), row_only row hO (by omega)⟩, hO.toExt h.ext (by omega), Nat.le_trans h.size hO.size⟩
  case hIx => exact fun _ _ _ _ _ h => h.elim
  case hIxB => exact fun _ _ _ h => h.elim
  case hA =>
    rintro j x a₁ W W' b o ⟨h, b12, h12, hl, rfl⟩ hb2 ho hc hO
    obtain ⟨A2, c2, r2, row⟩ := h.out
    exact ⟨⟨h.box.besides ho hc hO, ⟨A2, c2, r2.besides ho hc hO, row_besides row ho hc hO⟩, hO.toExt h.ext (by omega), Nat.le_trans h.size hO.size⟩, b12, h12.besides ho hc hO, hl, rfl⟩
  case assign =>
    intro l j x W K h hx hK
    unfold runV
    gi_wp2
    refine hK _ _ ⟨?_, W.heap.size, BlkT.new W _ _ rfl, h.size, rfl⟩ (Ext.alloc (Ext.refl W) _)
    obtain ⟨A2, c2, r2, row⟩ := h.out
    exact ⟨h.box.up ((Ext.refl W).alloc _), ⟨A2, c2, r2.alloc _, row.alloc _⟩, h.ext.alloc _, Nat.le_trans h.size (by simp)⟩
  case body =>
    rintro l j x a₁ W ⟨h, b12, h12, hl, rfl⟩ hx
    have y0 : W.cell? ⟨b12, 0, none⟩ = some (.slice x.A x.n x.c) := h12.cell 0
    have yl := h12.lt
    obtain ⟨A2, c2, r2, row⟩ := h.out
    have hbx : BytesAt W x.A x.n x.c x.bs := ((hV.each x (List.mem_of_getElem? hx)).1).up h.ext
    have z52' : W.cell? ⟨w.heap.size + 1, 2, none⟩ = some (.int .i64 f.kind) := h.box.b5.cell 2
    have l5 := h.box.b5.lt
    have H := Lib.hid h
    have Hx := Lib.hid hx
    have hj : j < vs.length := (List.getElem?_eq_some_iff.1 hx).1
    have R2 := Lib.hid r2
    have Row := Lib.hid row
    have hsz := h.size
    have l11 := r2.lt
    clear h h12 hx r2 row z4 z7 z50 z51 z52 z53 z54 z55 hit
    gi_wp2_with (first
      | (refine ⟨trivial, ?_⟩; gi_at_call 13; refine (CallsIn.inRound l (callsIn_wide.2 (Hn.out _))).mono ?_; rintro e w5 ⟨rfl, E5⟩; have c52 := E5.of_cell z52'; have yy0 := E5.of_cell y0; have q11 := R2.out.up E5; have c11 : w5.cell? ⟨w1.heap.size, 2, none⟩ = some (.slice A2 j c2) := q11.cell 2; have l11b := q11.lt; have Hbx := hbx.up E5; have hcv := Hbx.convert (P := Try.prog) 26 5 9 Try.underlying26 Try.underlying5 Try.underlying9)
      | (gi_at_builtin; apply wpListIn_rowOne elemStr rfl (.tmp 45) (.tmp 49) rfl rfl; (case row => exact row_up Row.out E5); (case hx => rfl); (case hb0 => first | rfl | simp); (case h1 => rfl); (case hb => omega); (case h63 => unfold maxLen; omega); (case hbase => have := E5.size; omega); intro A4 c4 w4 row4 g4; have z4 := (show BlkT w4 w1.heap.size 33 #[.int .i64 f.number, .slice none 0 0, .slice A2 j c2, .slice none 0 0] from (row_beside Row.out E5 hsz g4 (by omega)).trans R2.out); have y4 : w4.cell? ⟨w1.heap.size, 2, none⟩ = some (.slice A2 j c2) := z4.cell 2; have f4 := z4.free 2; have l4 := z4.lt; have Z4 := Lib.hid z4; have G4 := Lib.hid g4; have Row4 := Lib.hid row4; clear z4 g4 row4))
    have h := H.out
    obtain ⟨K1, K2, K3, K4⟩ := row_appendedO (k := 2) Row.out E5 hsz G4.out (show w1.heap.size < w3.heap.size by omega) (.slice A4 (j + 1) c4)
    refine ⟨K1, fun b hb3 => K2 b (by omega) (by omega), ?_⟩
    refine ⟨h.box.same (fun b hb => K2 b (by omega) (by omega)), ⟨A4, c4, ?_, ?_⟩, K3 w h.ext (by omega), Nat.le_trans hsz K4⟩
    · have := Z4.out.set_ 2 (.slice A4 (j + 1) c4)
      simpa using this
    · refine ownsRow_setCell_below ?_ (by show w1.heap.size < w3.heap.size; omega) _
      have e : (vs.take (j + 1)).map (fun v => strV ⟨v.bs.toArray⟩) = (vs.take j).map (fun v => strV ⟨v.bs.toArray⟩) ++ [strV ⟨x.bs.toArray⟩] := by
        rw [List.take_add_one, Hx.out]
        simp
      rw [e]
      simpa [strV, uv] using Row4.out
  case done =>
    intro D W hD h hK
    obtain ⟨A2, c2, r2, row⟩ := h.out
    have o0 : W.cell? ⟨w1.heap.size, 0, none⟩ = some (.int .i64 f.number) := r2.cell 0
    have o1 := r2.cell 1
    have o2 := r2.cell 2
    have o3 : W.cell? ⟨w1.heap.size, 3, none⟩ = some (.slice none 0 0) := r2.cell 3
    have ol := r2.lt
    have B8 := h.box.b8
    have v0 : W.cell? ⟨w.heap.size + 1 + 1 + 1, 0, none⟩ = some (.int .i64 0) := B8.cell 0
    have v1 : W.cell? ⟨w.heap.size + 1 + 1 + 1, 1, none⟩ = some (.slice none 0 0) := B8.cell 1
    have v2 : W.cell? ⟨w.heap.size + 1 + 1 + 1, 2, none⟩ = some (.slice none 0 0) := B8.cell 2
    have v3 : W.cell? ⟨w.heap.size + 1 + 1 + 1, 3, none⟩ = some (.slice none 0 0) := B8.cell 3
    have g0 := B8.free 0
    have g1 := B8.free 1
    have g2 := B8.free 2
    have g3 := B8.free 3
    have vl := B8.lt
    have H := Lib.hid h
    have HK2 := Lib.hid hK
    have Row := Lib.hid row
    have HB8 := Lib.hid B8
    clear h hK row r2 B8 z4 z7 z50 z51 z52 z53 z54 z55 hit
    simp only [List.getElem?_toArray, List.getElem?_cons_succ, List.getElem?_cons_zero] at o1 o2
    gi_wp2
    have h := H.out
    have BF : BlkT ((((W.setCell ⟨w.heap.size + 1 + 1 + 1, 0, none⟩ (.int .i64 f.number)).setCell ⟨w.heap.size + 1 + 1 + 1, 1, none⟩ (.slice none 0 0)).setCell ⟨w.heap.size + 1 + 1 + 1, 2, none⟩ (.slice A2 vs.length c2)).setCell ⟨w.heap.size + 1 + 1 + 1, 3, none⟩ (.slice none 0 0)) (w.heap.size + 1 + 1 + 1) 33 #[.int .i64 f.number, (.slice none 0 0), (.slice A2 vs.length c2), .slice none 0 0] := by
      have := (((HB8.out.set_ 0 (.int .i64 f.number)).set_ 1 ((.slice none 0 0))).set_ 2 ((.slice A2 vs.length c2))).set_ 3 (.slice none 0 0)
      simpa using this
    have BF2 := BF.putObj (D := D) (by omega) (.deferred none)
    have E : Ext w (((((W.setCell ⟨w.heap.size + 1 + 1 + 1, 0, none⟩ (.int .i64 f.number)).setCell ⟨w.heap.size + 1 + 1 + 1, 1, none⟩ (.slice none 0 0)).setCell ⟨w.heap.size + 1 + 1 + 1, 2, none⟩ (.slice A2 vs.length c2)).setCell ⟨w.heap.size + 1 + 1 + 1, 3, none⟩ (.slice none 0 0)).putObj D (.deferred none)) :=
      (only_putObj _ _ _).toExt ((((h.ext.setCell (p := ⟨w.heap.size + 1 + 1 + 1, 0, none⟩) (by show w.heap.size ≤ w.heap.size + 1 + 1 + 1; omega) _).setCell (p := ⟨w.heap.size + 1 + 1 + 1, 1, none⟩) (by show w.heap.size ≤ w.heap.size + 1 + 1 + 1; omega) _).setCell (p := ⟨w.heap.size + 1 + 1 + 1, 2, none⟩) (by show w.heap.size ≤ w.heap.size + 1 + 1 + 1; omega) _).setCell (p := ⟨w.heap.size + 1 + 1 + 1, 3, none⟩) (by show w.heap.size ≤ w.heap.size + 1 + 1 + 1; omega) _) (by omega)
    have row4 := ownsRow_setCell_below (ownsRow_setCell_below (ownsRow_setCell_below (ownsRow_setCell_below Row.out (a := ⟨w.heap.size + 1 + 1 + 1, 0, none⟩) (by show w.heap.size + 1 + 1 + 1 < w3.heap.size; omega) (.int .i64 f.number)) (a := ⟨w.heap.size + 1 + 1 + 1, 1, none⟩) (by show w.heap.size + 1 + 1 + 1 < w3.heap.size; omega) ((.slice none 0 0))) (a := ⟨w.heap.size + 1 + 1 + 1, 2, none⟩) (by show w.heap.size + 1 + 1 + 1 < w3.heap.size; omega) ((.slice A2 vs.length c2))) (a := ⟨w.heap.size + 1 + 1 + 1, 3, none⟩) (by show w.heap.size + 1 + 1 + 1 < w3.heap.size; omega) (.slice none 0 0)
    have hD4 : ((((W.setCell ⟨w.heap.size + 1 + 1 + 1, 0, none⟩ (.int .i64 f.number)).setCell ⟨w.heap.size + 1 + 1 + 1, 1, none⟩ (.slice none 0 0)).setCell ⟨w.heap.size + 1 + 1 + 1, 2, none⟩ (.slice A2 vs.length c2)).setCell ⟨w.heap.size + 1 + 1 + 1, 3, none⟩ (.slice none 0 0)).heap[D]? = some (.deferred (some [])) := by
      rw [Below.heap_setCell _ ⟨w.heap.size + 1 + 1 + 1, 3, none⟩ _ D (by show D ≠ w.heap.size + 1 + 1 + 1; omega), Below.heap_setCell _ ⟨w.heap.size + 1 + 1 + 1, 2, none⟩ _ D (by show D ≠ w.heap.size + 1 + 1 + 1; omega), Below.heap_setCell _ ⟨w.heap.size + 1 + 1 + 1, 1, none⟩ _ D (by show D ≠ w.heap.size + 1 + 1 + 1; omega), Below.heap_setCell _ ⟨w.heap.size + 1 + 1 + 1, 0, none⟩ _ D (by show D ≠ w.heap.size + 1 + 1 + 1; omega)]
      exact HK2.out
    have row5 := ownsRow_putObj row4 (.deferred none) (l := D) (o := .deferred (some [])) hD4 rfl
    rw [List.take_length] at row5
    have own5 : Own w _ 9 1 A2 vs.length c2 _ := ⟨ownsRow_more row5 (by omega), E⟩
    refine ⟨by simp, .inl ⟨_, _, rfl, run_takeDeferred (b := D) (ds := []) hD4, ?_⟩⟩
    refine ⟨_, results_cell_row2 (ty := 33) rfl _ _ (w.heap.size + 1 + 1 + 1) _ _ (0, 0) _ rfl BF2 Try.underlying33 rfl (by kernel_rfl), ⟨⟨(none, 0), (A2, c2), (none, 0), f.number, [], vs.map (fun v => (⟨v.bs.toArray⟩ : ByteArray)), []⟩, by simp [tvalV], ?_, ⟨⟨hnum, reads_nil _ _, (fun x h => by cases h), ⟨by simp only [List.length_map, List.map_map]; exact own5.reads, fun t ht => by
      obtain ⟨x, hx, rfl⟩ := List.mem_map.1 ht
      have h1 := hV.each x hx
      have h2 := h1.1.length
      show x.bs.toArray.size ≤ _
      unfold maxLen
      simp
      omega⟩, reads_nil _ _⟩, fun y h => by cases h⟩, ?_, E⟩⟩
    · rw [Hy0.out, ← hV.list, List.map_map]
      rfl
    · rintro b ((q | q | q) | ⟨y, hy, _⟩)
      · exact absurd q.1 (Nat.lt_irrefl 0)
      · exact own_new own5 b (by simpa using q)
      · exact absurd q.1 (Nat.lt_irrefl 0)
      · cases hy
  case stop => exact fun _ _ _ _ h _ => h.elim

structure WrdI (SA : Option Addr) (sn sc : Nat) (f : FieldD) (d : Int) (w wa : World) (b11 : Nat) (vs : List RunV) (j : Nat) (W : World) : Prop where
  box : ValB SA sn sc f d w W
  out : ∃ A c, BlkT W b11 33 #[.int .i64 f.number, .slice A j c, .slice none 0 0, .slice none 0 0] ∧ W.ownsRow wa.heap.size 56 1 (.slice A j c) j ((vs.take j).map fun v => uv (readS f.kind v.bs).1)
  ext : Ext w W
  size : wa.heap.size ≤ W.heap.size

set_option maxRecDepth 100000 in
set_option maxHeartbeats 4000000 in
theorem lValue_words {SA B : Option Addr} {sn sc m k : Nat} {S : List MsgV} {f : FieldD} {d : Int} {bs : List UInt8} {w : World} (hs : SchemaAt w SA sn sc S) (hb : BytesAt w B m k bs) (hm : m ≤ 1000000000) (h0 : codeL (S.map MsgV.d) f bs d = 0) (hr : runL f = false) (hk : numberB f.kind = true) (hnum : -9223372036854775808 ≤ f.number ∧ f.number < 9223372036854775808) :
    Calls Try.prog 6 #[.slice SA sn sc, fieldV f, .slice B m k, .int .i64 d] w (ValTold (S.map MsgV.d) ⟨(), (), (), f.number, (itemsL f.rep bs).map (fun x => (readS f.kind x.1).1), [], []⟩ 0 w) := by
  have hc := fun W (h : SchemaAt W SA sn sc S) (q : BytesAt W B m k bs) => lCheck (f := f) (d := d) h q hm
  rw [h0] at hc
  have hp := fun W => lPacked (f := f) (w := W)
  unfold runL at hr
  rw [hr] at hp
  have ha := fun W (E : Ext w W) => lAll (f := f) hb E hm
  have hn := fun W => kNumber f.kind W
  rw [hk] at hn
  obtain ⟨h, X⟩ := valW_at SA sn sc f d w
  have Hc := Lib.hid hc
  have Hp := Lib.hid hp
  have Ha := Lib.hid ha
  have Hn := Lib.hid hn
  have HS := Lib.hid hs
  have HB := Lib.hid hb
  have HK := Lib.hid hk
  clear hc hp ha hn h0 hs hb hr hk
  obtain ⟨y0, hy0⟩ : ∃ y0 : ValT, y0 = ⟨(), (), (), f.number, (itemsL f.rep bs).map (fun x => (readS f.kind x.1).1), [], []⟩ := ⟨_, rfl⟩
  rw [← hy0]
  have Hy0 := Lib.hid hy0
  clear hy0
  unfold fieldV
  unfold fieldV at Hc Hp Ha
  refine (callsIn_wide (n := 3)).1 ?_
  refine callsIn_of_wp_marks Try.func6 rfl trivial ?_ rfl
  simp only [Try.ntmps6, List.size_toArray, List.length_cons, List.length_nil, Nat.reduceAdd, Nat.reduceSub, Array.replicate_succ, Array.replicate_zero, List.push_toArray, List.append_toArray, List.nil_append, List.cons_append]
  gi_wp2_with fail
  rw [show (((w.alloc (.cells #[.slice SA sn sc] 23)).alloc (.cells #[.string f.name, .int .i64 f.number, .int .i64 f.kind, .bool f.rep, .bool f.packed, .int .i64 f.of_] 25)).alloc (.cells #[.int .i64 d] 3)).alloc (.cells #[.int .i64 0, .slice none 0 0, .slice none 0 0, .slice none 0 0] 33) = valW SA sn sc f d w from rfl]
  generalize valW SA sn sc f d w = wa at *
  have z4 := h.b4.cell 0
  have z7 := h.b7.cell 0
  have z50 : wa.cell? ⟨w.heap.size + 1, 0, none⟩ = some (.string f.name) := h.b5.cell 0
  have z51 : wa.cell? ⟨w.heap.size + 1, 1, none⟩ = some (.int .i64 f.number) := h.b5.cell 1
  have z52 : wa.cell? ⟨w.heap.size + 1, 2, none⟩ = some (.int .i64 f.kind) := h.b5.cell 2
  have z53 : wa.cell? ⟨w.heap.size + 1, 3, none⟩ = some (.bool f.rep) := h.b5.cell 3
  have z54 : wa.cell? ⟨w.heap.size + 1, 4, none⟩ = some (.bool f.packed) := h.b5.cell 4
  have z55 : wa.cell? ⟨w.heap.size + 1, 5, none⟩ = some (.int .i64 f.of_) := h.b5.cell 5
  have H0 := Lib.hid h
  have lb8 := h.b8.lt
  clear h
  gi_wp2_with (first
    | (refine ⟨trivial, ?_⟩; gi_at_call 9; refine (callsIn_wide.2 (Hc.out _ (HS.out.up X) (HB.out.up X))).mono ?_; rintro e w1 ⟨rfl, E1⟩; have X1 := X.trans E1; have lb1 := Nat.lt_of_lt_of_le lb8 E1.size; have lb1a : w.heap.size + 1 < w1.heap.size := (by omega); have lb1b : w.heap.size < w1.heap.size := (by omega); have lb1c : w.heap.size + 1 + 1 < w1.heap.size := (by omega); replace z4 := E1.of_cell z4; replace z7 := E1.of_cell z7; replace z50 := E1.of_cell z50; replace z51 := E1.of_cell z51; replace z52 := E1.of_cell z52; replace z53 := E1.of_cell z53; replace z54 := E1.of_cell z54; replace z55 := E1.of_cell z55)
    | (refine ⟨trivial, ?_⟩; gi_at_call 10; refine (callsIn_wide.2 (Hp.out _)).mono ?_; rintro e w2 ⟨rfl, E2⟩; have EX : Ext w1 w2 := Ext.trans (by repeat with_reducible (first | exact Ext.refl _ | refine Ext.alloc ?_ _ | refine Ext.drew ?_ | refine Ext.drewN ?_ _ | refine Ext.setCell ?_ (by first | exact Nat.le_refl _ | omega | (simp; done) | (simp; omega)) _)) E2; have BO := (BlkT.new w1 33 #[.int .i64 f.number, .slice none 0 0, .slice none 0 0, .slice none 0 0] rfl).up E2; have X2 := X1.trans EX; replace z4 := EX.of_cell z4; replace z7 := EX.of_cell z7; replace z50 := EX.of_cell z50; replace z51 := EX.of_cell z51; replace z52 := EX.of_cell z52; replace z53 := EX.of_cell z53; replace z54 := EX.of_cell z54; replace z55 := EX.of_cell z55)
    | (refine ⟨trivial, ?_⟩; gi_at_call 12; refine (callsIn_wide.2 (Ha.out _ X2)).mono ?_; rintro e w3 ⟨gf, lb, B0, vs, rfl, eg, hV, hit, hB1, hB2, E3⟩; have X3 := X2.trans E3; have EA := (E1.trans EX).trans E3))
  have hw1 := E1.size
  have hw2 := BO.lt
  have hw3 := E3.size
  have hx0 := X.size
  have hvl : vs.length ≤ m + 1 := by have := itemsL_len f.rep bs; rw [← hV.list, List.length_map, HB.out.length] at this; exact this
  refine wp_range (w := w3) rfl eg hit (fun b h => by omega) hB2 (fun _ => rfl)
    (WrdI SA sn sc f d w w3 w1.heap.size vs) (fun _ _ => False)
    (fun j x a₁ W => WrdI SA sn sc f d w w3 w1.heap.size vs j W ∧ ∃ b12, BlkT W b12 54 #[.slice x.A x.n x.c, .int .u8 (x.e : Int)] ∧ w3.heap.size ≤ b12 ∧ a₁ = { tmps := #[.slice SA sn sc, .agg #[.string f.name, .int .i64 f.number, .int .i64 f.kind, .bool f.rep, .bool f.packed, .int .i64 f.of_], .slice B m k, .int .i64 d, .pointer (some ⟨w.heap.size, 0, none⟩), .pointer (some ⟨w.heap.size + 1, 0, none⟩), undef, .pointer (some ⟨w.heap.size + 1 + 1, 0, none⟩), .pointer (some ⟨w.heap.size + 1 + 1 + 1, 0, none⟩), .int .u8 0, .int .u8 0, .pointer (some ⟨w1.heap.size, 0, none⟩), .pointer (some ⟨b12, 0, none⟩), undef, undef, undef, undef, .slice SA sn sc, .agg #[.string f.name, .int .i64 f.number, .int .i64 f.kind, .bool f.rep, .bool f.packed, .int .i64 f.of_], .slice B m k, .int .i64 d, .int .u8 0, .int .u8 0, .bool false, undef, undef, .pointer (some ⟨w.heap.size + 1, 1, none⟩), .int .i64 f.number, .agg #[.int .i64 f.number, .slice none 0 0, .slice none 0 0, .slice none 0 0], .agg #[.string f.name, .int .i64 f.number, .int .i64 f.kind, .bool f.rep, .bool f.packed, .int .i64 f.of_], .bool false, undef, undef, undef, undef, undef, undef, undef, undef, undef, .agg #[.string f.name, .int .i64 f.number, .int .i64 f.kind, .bool f.rep, .bool f.packed, .int .i64 f.of_], .slice B m k, .func (.func gf) #[] lb, runV x, undef, undef, undef, undef, undef, undef, undef, undef, undef, undef, undef, undef, undef, undef, undef, undef, undef, undef, undef, undef, undef, undef, undef, undef, undef, undef, undef, undef, undef, undef, undef, undef, undef, undef, undef, undef, undef, undef, undef, undef, undef, undef, undef, undef, undef, undef, undef], defers := [] })
    (fun j W h => h.size) ?hI ?hIB ?hIx ?hIxB ?hA ⟨H0.out.up EA, ⟨none, 0, BO.up E3, World.ownsRow_nil _ _ _ _⟩, X3, Nat.le_refl _⟩ ?assign ?body ?done ?stop
  case hI =>
    intro j W W' b o h hb2 ho hc hO
    obtain ⟨A2, c2, r2, row⟩ := h.out
    exact ⟨h.box.besides ho hc hO, ⟨A2, c2, r2.besides ho hc hO, row_besides row ho hc hO⟩, hO.toExt h.ext (by omega), Nat.le_trans h.size hO.size⟩
  case hIB =>
    intro j W W' h hO
    obtain ⟨A2, c2, r2, row⟩ := h.out
    exact ⟨h.box.onlyB hO (by omega), ⟨A2, c2, r2.onlyB hO (by omega), row_only row hO (by omega)⟩, hO.toExt h.ext (by omega), Nat.le_trans h.size hO.size⟩
  case hIx => exact fun _ _ _ _ _ h => h.elim
  case hIxB => exact fun _ _ _ h => h.elim
  case hA =>
    rintro j x a₁ W W' b o ⟨h, b12, h12, hl, rfl⟩ hb2 ho hc hO
    obtain ⟨A2, c2, r2, row⟩ := h.out
    exact ⟨⟨h.box.besides ho hc hO, ⟨A2, c2, r2.besides ho hc hO, row_besides row ho hc hO⟩, hO.toExt h.ext (by omega), Nat.le_trans h.size hO.size⟩, b12, h12.besides ho hc hO, hl, rfl⟩
  case assign =>
    intro l j x W K h hx hK
    unfold runV
    gi_wp2
    refine hK _ _ ⟨?_, W.heap.size, BlkT.new W _ _ rfl, h.size, rfl⟩ (Ext.alloc (Ext.refl W) _)
    obtain ⟨A2, c2, r2, row⟩ := h.out
    exact ⟨h.box.up ((Ext.refl W).alloc _), ⟨A2, c2, r2.alloc _, row.alloc _⟩, h.ext.alloc _, Nat.le_trans h.size (by simp)⟩
  case body =>
    rintro l j x a₁ W ⟨h, b12, h12, hl, rfl⟩ hx
    have y0 : W.cell? ⟨b12, 0, none⟩ = some (.slice x.A x.n x.c) := h12.cell 0
    have yl := h12.lt
    obtain ⟨A2, c2, r2, row⟩ := h.out
    have hbx : BytesAt W x.A x.n x.c x.bs := ((hV.each x (List.mem_of_getElem? hx)).1).up h.ext
    have z52' : W.cell? ⟨w.heap.size + 1, 2, none⟩ = some (.int .i64 f.kind) := h.box.b5.cell 2
    have l5 := h.box.b5.lt
    have H := Lib.hid h
    have Hx := Lib.hid hx
    have hj : j < vs.length := (List.getElem?_eq_some_iff.1 hx).1
    have R2 := Lib.hid r2
    have Row := Lib.hid row
    have hsz := h.size
    have l11 := r2.lt
    rcases hrs : readS f.kind x.bs with ⟨Wd, Cd⟩
    have Hrs := Lib.hid hrs
    clear hrs
    clear h h12 hx r2 row z4 z7 z50 z51 z52 z53 z54 z55 hit
    gi_wp2_with (first
      | (refine ⟨trivial, ?_⟩; gi_at_call 13; refine (CallsIn.inRound l (callsIn_wide.2 (Hn.out _))).mono ?_; rintro e w5 ⟨rfl, E5⟩; have c52 := E5.of_cell z52'; have yy0 := E5.of_cell y0; have q11 := R2.out.up E5; have c11 : w5.cell? ⟨w1.heap.size, 1, none⟩ = some (.slice A2 j c2) := q11.cell 1; have l11b := q11.lt; have Hbx := hbx.up E5)
      | (refine ⟨trivial, ?_⟩; gi_at_call 14; refine (CallsIn.inRound l (callsIn_wide.2 (sRead Hbx Hrs.out))).mono ?_; rintro e w6 ⟨rfl, E6⟩; have X6 := E5.trans E6; have q11b := R2.out.up X6; have c11b : w6.cell? ⟨w1.heap.size, 1, none⟩ = some (.slice A2 j c2) := q11b.cell 1; have l11c := q11b.lt)
      | (gi_at_builtin; apply wpListIn_rowOne elemU rfl (.tmp 65) (.tmp 67) rfl rfl; (case row => exact row_up Row.out X6); (case hx => rfl); (case hb0 => first | rfl | simp); (case h1 => rfl); (case hb => omega); (case h63 => unfold maxLen; omega); (case hbase => have := X6.size; omega); intro A4 c4 w4 row4 g4; have z4 := (show BlkT w4 w1.heap.size 33 #[.int .i64 f.number, .slice A2 j c2, .slice none 0 0, .slice none 0 0] from (row_beside Row.out X6 hsz g4 (by omega)).trans R2.out); have y4 : w4.cell? ⟨w1.heap.size, 1, none⟩ = some (.slice A2 j c2) := z4.cell 1; have f4 := z4.free 1; have l4 := z4.lt; have Z4 := Lib.hid z4; have G4 := Lib.hid g4; have Row4 := Lib.hid row4; clear z4 g4 row4))
    have h := H.out
    obtain ⟨K1, K2, K3, K4⟩ := row_appendedO (k := 1) Row.out X6 hsz G4.out (show w1.heap.size < w3.heap.size by omega) (.slice A4 (j + 1) c4)
    refine ⟨K1, fun b hb3 => K2 b (by omega) (by omega), ?_⟩
    refine ⟨h.box.same (fun b hb => K2 b (by omega) (by omega)), ⟨A4, c4, ?_, ?_⟩, K3 w h.ext (by omega), Nat.le_trans hsz K4⟩
    · have := Z4.out.set_ 1 (.slice A4 (j + 1) c4)
      simpa using this
    · refine ownsRow_setCell_below ?_ (by show w1.heap.size < w3.heap.size; omega) _
      have e : (vs.take (j + 1)).map (fun v => uv (readS f.kind v.bs).1) = (vs.take j).map (fun v => uv (readS f.kind v.bs).1) ++ [uv Wd] := by
        rw [List.take_add_one, Hx.out]
        simp [Hrs.out]
      rw [e]
      simpa [strV, uv] using Row4.out
  case done =>
    intro D W hD h hK
    obtain ⟨A2, c2, r2, row⟩ := h.out
    have o0 : W.cell? ⟨w1.heap.size, 0, none⟩ = some (.int .i64 f.number) := r2.cell 0
    have o1 := r2.cell 1
    have o2 := r2.cell 2
    have o3 : W.cell? ⟨w1.heap.size, 3, none⟩ = some (.slice none 0 0) := r2.cell 3
    have ol := r2.lt
    have B8 := h.box.b8
    have v0 : W.cell? ⟨w.heap.size + 1 + 1 + 1, 0, none⟩ = some (.int .i64 0) := B8.cell 0
    have v1 : W.cell? ⟨w.heap.size + 1 + 1 + 1, 1, none⟩ = some (.slice none 0 0) := B8.cell 1
    have v2 : W.cell? ⟨w.heap.size + 1 + 1 + 1, 2, none⟩ = some (.slice none 0 0) := B8.cell 2
    have v3 : W.cell? ⟨w.heap.size + 1 + 1 + 1, 3, none⟩ = some (.slice none 0 0) := B8.cell 3
    have g0 := B8.free 0
    have g1 := B8.free 1
    have g2 := B8.free 2
    have g3 := B8.free 3
    have vl := B8.lt
    have H := Lib.hid h
    have HK2 := Lib.hid hK
    have Row := Lib.hid row
    have HB8 := Lib.hid B8
    clear h hK row r2 B8 z4 z7 z50 z51 z52 z53 z54 z55 hit
    simp only [List.getElem?_toArray, List.getElem?_cons_succ, List.getElem?_cons_zero] at o1 o2
    gi_wp2
    have h := H.out
    have BF : BlkT ((((W.setCell ⟨w.heap.size + 1 + 1 + 1, 0, none⟩ (.int .i64 f.number)).setCell ⟨w.heap.size + 1 + 1 + 1, 1, none⟩ (.slice A2 vs.length c2)).setCell ⟨w.heap.size + 1 + 1 + 1, 2, none⟩ (.slice none 0 0)).setCell ⟨w.heap.size + 1 + 1 + 1, 3, none⟩ (.slice none 0 0)) (w.heap.size + 1 + 1 + 1) 33 #[.int .i64 f.number, (.slice A2 vs.length c2), (.slice none 0 0), .slice none 0 0] := by
      have := (((HB8.out.set_ 0 (.int .i64 f.number)).set_ 1 ((.slice A2 vs.length c2))).set_ 2 ((.slice none 0 0))).set_ 3 (.slice none 0 0)
      simpa using this
    have BF2 := BF.putObj (D := D) (by omega) (.deferred none)
    have E : Ext w (((((W.setCell ⟨w.heap.size + 1 + 1 + 1, 0, none⟩ (.int .i64 f.number)).setCell ⟨w.heap.size + 1 + 1 + 1, 1, none⟩ (.slice A2 vs.length c2)).setCell ⟨w.heap.size + 1 + 1 + 1, 2, none⟩ (.slice none 0 0)).setCell ⟨w.heap.size + 1 + 1 + 1, 3, none⟩ (.slice none 0 0)).putObj D (.deferred none)) :=
      (only_putObj _ _ _).toExt ((((h.ext.setCell (p := ⟨w.heap.size + 1 + 1 + 1, 0, none⟩) (by show w.heap.size ≤ w.heap.size + 1 + 1 + 1; omega) _).setCell (p := ⟨w.heap.size + 1 + 1 + 1, 1, none⟩) (by show w.heap.size ≤ w.heap.size + 1 + 1 + 1; omega) _).setCell (p := ⟨w.heap.size + 1 + 1 + 1, 2, none⟩) (by show w.heap.size ≤ w.heap.size + 1 + 1 + 1; omega) _).setCell (p := ⟨w.heap.size + 1 + 1 + 1, 3, none⟩) (by show w.heap.size ≤ w.heap.size + 1 + 1 + 1; omega) _) (by omega)
    have row4 := ownsRow_setCell_below (ownsRow_setCell_below (ownsRow_setCell_below (ownsRow_setCell_below Row.out (a := ⟨w.heap.size + 1 + 1 + 1, 0, none⟩) (by show w.heap.size + 1 + 1 + 1 < w3.heap.size; omega) (.int .i64 f.number)) (a := ⟨w.heap.size + 1 + 1 + 1, 1, none⟩) (by show w.heap.size + 1 + 1 + 1 < w3.heap.size; omega) ((.slice A2 vs.length c2))) (a := ⟨w.heap.size + 1 + 1 + 1, 2, none⟩) (by show w.heap.size + 1 + 1 + 1 < w3.heap.size; omega) ((.slice none 0 0))) (a := ⟨w.heap.size + 1 + 1 + 1, 3, none⟩) (by show w.heap.size + 1 + 1 + 1 < w3.heap.size; omega) (.slice none 0 0)
    have hD4 : ((((W.setCell ⟨w.heap.size + 1 + 1 + 1, 0, none⟩ (.int .i64 f.number)).setCell ⟨w.heap.size + 1 + 1 + 1, 1, none⟩ (.slice A2 vs.length c2)).setCell ⟨w.heap.size + 1 + 1 + 1, 2, none⟩ (.slice none 0 0)).setCell ⟨w.heap.size + 1 + 1 + 1, 3, none⟩ (.slice none 0 0)).heap[D]? = some (.deferred (some [])) := by
      rw [Below.heap_setCell _ ⟨w.heap.size + 1 + 1 + 1, 3, none⟩ _ D (by show D ≠ w.heap.size + 1 + 1 + 1; omega), Below.heap_setCell _ ⟨w.heap.size + 1 + 1 + 1, 2, none⟩ _ D (by show D ≠ w.heap.size + 1 + 1 + 1; omega), Below.heap_setCell _ ⟨w.heap.size + 1 + 1 + 1, 1, none⟩ _ D (by show D ≠ w.heap.size + 1 + 1 + 1; omega), Below.heap_setCell _ ⟨w.heap.size + 1 + 1 + 1, 0, none⟩ _ D (by show D ≠ w.heap.size + 1 + 1 + 1; omega)]
      exact HK2.out
    have row5 := ownsRow_putObj row4 (.deferred none) (l := D) (o := .deferred (some [])) hD4 rfl
    rw [List.take_length] at row5
    have own5 : Own w _ 56 1 A2 vs.length c2 _ := ⟨ownsRow_more row5 (by omega), E⟩
    refine ⟨by simp, .inl ⟨_, _, rfl, run_takeDeferred (b := D) (ds := []) hD4, ?_⟩⟩
    refine ⟨_, results_cell_row2 (ty := 33) rfl _ _ (w.heap.size + 1 + 1 + 1) _ _ (0, 0) _ rfl BF2 Try.underlying33 rfl (by kernel_rfl), ⟨⟨(A2, c2), (none, 0), (none, 0), f.number, vs.map (fun v => (readS f.kind v.bs).1), [], []⟩, by simp [tvalV], ?_, ⟨⟨hnum, (by simp only [List.length_map, List.map_map]; exact own5.reads), (fun x h => by
      obtain ⟨v, _, rfl⟩ := List.mem_map.1 h
      exact (readS_bd f.kind v.bs).1), ⟨reads_nil _ _, fun t h => by cases h⟩, reads_nil _ _⟩, fun y h => by cases h⟩, ?_, E⟩⟩
    · rw [Hy0.out, ← hV.list, List.map_map]
      rfl
    · rintro b ((q | q | q) | ⟨y, hy, _⟩)
      · exact own_new own5 b (by simpa using q)
      · exact absurd q.1 (Nat.lt_irrefl 0)
      · exact absurd q.1 (Nat.lt_irrefl 0)
      · cases hy
  case stop => exact fun _ _ _ _ h _ => h.elim

end Go.Proofs.Ytnnphodgegcddaa
