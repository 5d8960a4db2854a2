/- Contracts of layer 7: the same schemas. -/
import Derived.Test.YtnnphodgegcddaaGreatQfW14w
import Derived.Test.YtnnphodgegcddaaGreatQfW14o
import Derived.Test.YtnnphodgegcddaaGreatQfW14u
import Derived.Test.YtnnphodgegcddaaGreatQfW38

namespace Go.Proofs.YtnnphodgegcddaaGreat
open Go.RowKit
set_option linter.unusedVariables false

theorem MsgD.eq_iff {x y : MsgD} : x = y ↔ x.name = y.name ∧ x.fields = y.fields := by
 constructor
 · rintro rfl
   exact ⟨rfl, rfl⟩
 · rintro ⟨h1, h2⟩
   obtain ⟨a, b⟩ := x
   obtain ⟨c, d⟩ := y
   simp only at h1 h2
   rw [h1, h2]

instance : DecidableEq MsgD := fun x y => decidable_of_iff _ MsgD.eq_iff.symm

end Go.Proofs.YtnnphodgegcddaaGreat

/- Contracts of layer 7: a copy of a schema. -/

namespace Go.Proofs.YtnnphodgegcddaaGreat
open Go.RowKit
set_option linter.unusedVariables false

end Go.Proofs.YtnnphodgegcddaaGreat

/- Contracts of layer 14: the place of a number, and copies of rows. -/



/- Contracts of layer 14: the place of a value, as the reference has it. -/
namespace Go.Proofs.YtnnphodgegcddaaGreat
open Go.RowKit
set_option linter.unusedVariables false

end Go.Proofs.YtnnphodgegcddaaGreat

/- Contracts of layer 14: texts and words in new memory. -/
namespace Go.Proofs.YtnnphodgegcddaaGreat
open Go.RowKit
set_option linter.unusedVariables false

end Go.Proofs.YtnnphodgegcddaaGreat

/- Contracts of layer 14: a meaning in new memory. (Begun.) -/


namespace Go.Proofs.YtnnphodgegcddaaGreat
open Go.RowKit Go.Shelf
set_option linter.unusedVariables false

theorem Own.far4 {w0 w : World} {e t : TypeId} {size n c b : Nat} {A : Option Addr} {xs : List Value} {cs : Array Value} (h : Own w0 w e size A n c xs) (k : BlkT w b t cs) (hne : e ≠ t) (hb : w0.heap.size ≤ b) (u0 u1 u2 u3 : Value) :
  Own w0 ((((w.setCell ⟨b, 0, none⟩ u0).setCell ⟨b, 1, none⟩ u1).setCell ⟨b, 2, none⟩ u2).setCell ⟨b, 3, none⟩ u3) e size A n c xs :=
 (((h.far k hne hb 0 u0).far (k.set_ 0 u0) hne hb 1 u1).far ((k.set_ 0 u0).set_ 1 u1) hne hb 2 u2).far (((k.set_ 0 u0).set_ 1 u1).set_ 2 u2) hne hb 3 u3

end Go.Proofs.YtnnphodgegcddaaGreat

/- Contracts of layer 20: what a load means: a run. (Printed by gen_lvalue4.py.) -/


namespace Go.Proofs.YtnnphodgegcddaaGreat
open Go.RowKit Go.Shelf
set_option linter.unusedVariables false
attribute [local go_sem] Oper.semAt_some

set_option maxRecDepth 100000 in
set_option maxHeartbeats 4000000 in
theorem lValue_run {SA B : Option Addr} {sn sc m k : Nat} {S : List MsgV} {f : FieldD} {d : Int} {bs : List UInt8} {w : World} (hs : SchemaAt w SA sn sc S) (hb : BytesAt w B m k bs) (hm : m ≤ 1000000000) (h0 : codeL (S.map MsgV.d) f bs d = 0) (hr : runL f = true) (hv0 : codeV f.kind bs = 0) (hnum : -9223372036854775808 ≤ f.number ∧ f.number < 9223372036854775808) :
  Calls Tryz.prog 38 #[.slice SA sn sc, fieldV f, .slice B m k, .int .i64 d] w (ValTold (S.map MsgV.d) ⟨(), (), (), f.number, (valsV f.kind bs).map (fun u => (readS f.kind u.1).1), [], []⟩ 0 w) := by
 have hc := fun W (h : SchemaAt W SA sn sc S) (q : BytesAt W B m k bs) => lCheck (f := f) (d := d) h q hm
 rw [h0] at hc
 have hp := fun W => lPacked (f := f) (w := W)
 unfold runL at hr
 rw [hr] at hp
 have hwv : wordsV f.kind bs = ((valsV f.kind bs).map (fun u => (readS f.kind u.1).1), 0) := by
  unfold wordsV
  rw [if_pos hv0, hv0]
 have hu := fun W (h : BytesAt W B m k bs) => uWords (k := f.kind) h hm
 rw [hwv] at hu
 simp only at hu
 have hsm : ∀ x ∈ (valsV f.kind bs).map (fun u => (readS f.kind u.1).1), x < 18446744073709551616 := fun x hx => by
  obtain ⟨v, _, rfl⟩ := List.mem_map.1 hx
  exact (readS_bd f.kind v.1).1
 obtain ⟨Ws, hWs⟩ : ∃ Ws, Ws = (valsV f.kind bs).map (fun u => (readS f.kind u.1).1) := ⟨_, rfl⟩
 rw [← hWs] at hu hsm ⊢
 obtain ⟨N, hN⟩ : ∃ N, N = Ws.length := ⟨_, rfl⟩
 rw [← hN] at hu
 obtain ⟨h, X⟩ := valW_at SA sn sc f d w
 have Hc := Lib.hid hc
 have Hp := Lib.hid hp
 have Hu := Lib.hid hu
 have Hsm := Lib.hid hsm
 have HN := Lib.hid hN
 have HS := Lib.hid hs
 have HB := Lib.hid hb
 clear hc hp hu h0 hs hb hr hwv hsm hWs hN hv0
 unfold fieldV
 unfold fieldV at Hc Hp
 refine (callsIn_wide (n := 3)).1 ?_
 refine callsIn_of_wp_marks Tryz.func38 rfl trivial ?_ rfl
 simp only [Tryz.ntmps38, List.size_toArray, List.length_cons, List.length_nil, Nat.reduceAdd, Nat.reduceSub, Array.replicate_succ, Array.replicate_zero, List.push_toArray, List.append_toArray, List.nil_append, List.cons_append]
 gi_wp2_with fail
 rw [show (((w.alloc (.cells #[.slice SA sn sc] 23)).alloc (.cells #[.string f.name, .int .i64 f.number, .int .i64 f.kind, .bool f.rep, .bool f.packed, .int .i64 f.of_] 48)).alloc (.cells #[.int .i64 d] 3)).alloc (.cells #[.int .i64 0, .slice none 0 0, .slice none 0 0, .slice none 0 0] 52) = valW SA sn sc f d w from rfl]
 generalize valW SA sn sc f d w = wa at *
 have z4 := h.b4.cell 0
 have z7 := h.b7.cell 0
 have z50 : wa.cell? ⟨w.heap.size + 1, 0, none⟩ = some (.string f.name) := h.b5.cell 0
 have z51 : wa.cell? ⟨w.heap.size + 1, 1, none⟩ = some (.int .i64 f.number) := h.b5.cell 1
 have z52 : wa.cell? ⟨w.heap.size + 1, 2, none⟩ = some (.int .i64 f.kind) := h.b5.cell 2
 have z53 : wa.cell? ⟨w.heap.size + 1, 3, none⟩ = some (.bool f.rep) := h.b5.cell 3
 have z54 : wa.cell? ⟨w.heap.size + 1, 4, none⟩ = some (.bool f.packed) := h.b5.cell 4
 have z55 : wa.cell? ⟨w.heap.size + 1, 5, none⟩ = some (.int .i64 f.of_) := h.b5.cell 5
 have B8 := h.b8
 have lb8 := h.b8.lt
 clear h
 gi_wp2_with (first
  | (refine ⟨trivial, ?_⟩; gi_at_call 39; refine (callsIn_wide.2 (Hc.out _ (HS.out.up X) (HB.out.up X))).mono ?_; rintro e w1 ⟨rfl, E1⟩; have X1 := X.trans E1; replace B8 := B8.up E1; have lb1 := Nat.lt_of_lt_of_le lb8 E1.size; have lb1a : w.heap.size + 1 < w1.heap.size := (by omega); have lb1b : w.heap.size < w1.heap.size := (by omega); have lb1c : w.heap.size + 1 + 1 < w1.heap.size := (by omega); replace z4 := E1.of_cell z4; replace z7 := E1.of_cell z7; replace z50 := E1.of_cell z50; replace z51 := E1.of_cell z51; replace z52 := E1.of_cell z52; replace z53 := E1.of_cell z53; replace z54 := E1.of_cell z54; replace z55 := E1.of_cell z55)
  | (refine ⟨trivial, ?_⟩; gi_at_call 60; refine (callsIn_wide.2 (Hp.out _)).mono ?_; rintro e w2 ⟨rfl, E2⟩; have EX : Ext w1 w2 := Ext.trans (by repeat with_reducible (first | exact Ext.refl _ | refine Ext.alloc ?_ _ | refine Ext.drew ?_ | refine Ext.drewN ?_ _ | refine Ext.setCell ?_ (by first | omega | (simp <;> omega)) _)) E2; have BO := (BlkT.new w1 52 #[.int .i64 f.number, .slice none 0 0, .slice none 0 0, .slice none 0 0] rfl).up E2; have X2 := X1.trans EX; replace B8 := B8.up EX; replace z4 := EX.of_cell z4; replace z7 := EX.of_cell z7; replace z50 := EX.of_cell z50; replace z51 := EX.of_cell z51; replace z52 := EX.of_cell z52; replace z53 := EX.of_cell z53; replace z54 := EX.of_cell z54; replace z55 := EX.of_cell z55)
  | (refine ⟨trivial, ?_⟩; gi_at_call 84; refine (callsIn_wide.2 (Hu.out _ (HB.out.up X2))).mono ?_; rintro e w4 ⟨A4, c4, rfl, own4⟩; have X4 := X2.trans own4.ext; have B84 := B8.up own4.ext; have BO4 := BO.up own4.ext; have k0 : w4.cell? ⟨w1.heap.size, 0, none⟩ = some (.int .i64 f.number) := BO4.cell 0; have k1 : w4.cell? ⟨w1.heap.size, 1, none⟩ = some (.slice none 0 0) := BO4.cell 1; have k2 : w4.cell? ⟨w1.heap.size, 2, none⟩ = some (.slice none 0 0) := BO4.cell 2; have k3 : w4.cell? ⟨w1.heap.size, 3, none⟩ = some (.slice none 0 0) := BO4.cell 3; have kf := BO4.free 1; have kl := BO4.lt; have j0 := B84.cell 0; have j1 := B84.cell 1; have j2 := B84.cell 2; have j3 := B84.cell 3; have q0 := B84.free 0; have q1 := B84.free 1; have q2 := B84.free 2; have q3 := B84.free 3; have ql := B84.lt))
 obtain rfl : N = Ws.length := HN.out
 have hlt := B84.lt
 have own5 := (own4.since X2).far BO4 (by decide) (by omega) 1 (.slice A4 Ws.length c4)
 have B85 := B84.far (p := ⟨w1.heap.size, 1, none⟩) (by show w.heap.size + 1 + 1 + 1 ≠ w1.heap.size; omega) (.slice A4 Ws.length c4)
 have own6 := own5.far4 B85 (by decide) (by omega) (.int .i64 f.number) (.slice A4 Ws.length c4) (.slice none 0 0) (.slice none 0 0)
 have BF : BlkT (((((w4.setCell ⟨w1.heap.size, 1, none⟩ (.slice A4 Ws.length c4)).setCell ⟨w.heap.size + 1 + 1 + 1, 0, none⟩ (.int .i64 f.number)).setCell ⟨w.heap.size + 1 + 1 + 1, 1, none⟩ (.slice A4 Ws.length c4)).setCell ⟨w.heap.size + 1 + 1 + 1, 2, none⟩ (.slice none 0 0)).setCell ⟨w.heap.size + 1 + 1 + 1, 3, none⟩ (.slice none 0 0)) (w.heap.size + 1 + 1 + 1) 52 #[.int .i64 f.number, .slice A4 Ws.length c4, .slice none 0 0, .slice none 0 0] := by
  have := (((B85.set_ 0 (.int .i64 f.number)).set_ 1 (.slice A4 Ws.length c4)).set_ 2 (.slice none 0 0)).set_ 3 (.slice none 0 0)
  simpa using this
 refine ⟨_, results_cell_row2 (ty := 52) rfl _ _ (w.heap.size + 1 + 1 + 1) _ _ (0, 0) _ rfl BF Tryz.underlying52 rfl (by kernel_rfl), ⟨(A4, c4), (none, 0), (none, 0), f.number, Ws, [], []⟩, rfl, rfl, ⟨⟨hnum, own6.reads, Hsm.out, ⟨reads_nil _ _, fun t h => by cases h⟩, reads_nil _ _⟩, fun y h => by cases h⟩, ?_, own6.ext⟩
 rintro b ((q | q | q) | ⟨y, hy, _⟩)
 · exact own_new own6 b q
 · exact absurd q.1 (Nat.lt_irrefl 0)
 · exact absurd q.1 (Nat.lt_irrefl 0)
 · cases hy

end Go.Proofs.YtnnphodgegcddaaGreat

/- Contracts of layer 20: what a load means: nested messages. (Printed by gen_lvalue5.py.) -/


namespace Go.Proofs.YtnnphodgegcddaaGreat
open Go.RowKit Go.Shelf
set_option linter.unusedVariables false
attribute [local go_sem] Oper.semAt_some

theorem Reads.is_cells {w : World} {A : Option Addr} {n c size b : Nat} {xs : List Value} (h : Reads w A n c size xs) (hs : 0 < size) (hu : UsesA A n b) : ∃ o : Obj, w.heap[b]? = some o ∧ o.isCells = true := by
 obtain ⟨h0, p, rfl, rfl⟩ := hu
 obtain ⟨b, off, e, _, hc⟩ := h.at_ h0
 cases e
 have hl := h.len
 have hm : 0 < n * size := Nat.mul_pos h0 hs
 have hx : xs[0]? = some (xs[0]'(by omega)) := List.getElem?_eq_getElem (by omega)
 exact cells_of_cell (hc 0 _ hx)

theorem ValL.is_cells {w : World} {v : ValR} (h : ValL w v) {b : Nat} (hu : UsesL v b) : ∃ o : Obj, w.heap[b]? = some o ∧ o.isCells = true := by
 rcases hu with q | q | q
 · exact h.words.is_cells (by omega) q
 · exact h.texts.at_.is_cells (by omega) q
 · exact h.subs.is_cells (by omega) q

theorem TreeAt.is_cells {w : World} {x : MsgR} {b : Nat} (hu : UsesT x b) : TreeAt w x → ∃ o : Obj, w.heap[b]? = some o ∧ o.isCells = true := by
 induction hu with
 | vals q => exact fun h => h.vals.is_cells (by omega) q
 | unk q => exact fun h => h.unk.at_.is_cells (by omega) q
 | val hv q => exact fun h => (h.each _ hv).is_cells q
 | sub hv hy q ih => exact fun h => ih (h.sub _ hv _ hy)

theorem TreeAt.besides {W W' : World} {x : MsgR} {b : Nat} {o : Obj} (h : TreeAt W x) (ho : W.heap[b]? = some o) (hc : o.isCells = false) (hO : Only b W W') : TreeAt W' x :=
 h.stays (s := fun k => k ≠ b) (Stays.grown hO (fun k hk q => q (by injection hk with hk; exact hk.symm))) (fun k hk e => by
  subst e
  obtain ⟨o2, h2, h3⟩ := TreeAt.is_cells hk h
  rw [ho] at h2
  cases h2
  rw [hc] at h3
  cases h3)

theorem TreeAt.onlyB {W W' : World} {x : MsgR} {B : Nat} (h : TreeAt W x) (hO : Only B W W') (hu : ∀ b, UsesT x b → b ≠ B) : TreeAt W' x :=
 h.stays (s := fun k => k ≠ B) (Stays.grown hO (fun k hk q => q (by injection hk with hk; exact hk.symm))) hu

theorem wpListIn_moreW {F : Fence} {n' : Nat} {P : Program} {w0 w : World} {e t : TypeId} {size bytes n c : Nat} {A : Option Addr} {xs : List Value} {ops : Array Oper} {rest : List Oper} {o : Oper} {a : Act} {Q : Exit → Act → World → Prop} (T : Elem P t e size bytes) (hgd : o.guard = none) (s x : Operand)
  (ho : o.op = .call { callee := .builtin .append, args := #[s, x], argTypes := #[t, t] })
  (hs : a.eval s = .slice A n c) (h : Own w0 w e size A n c xs) {B : Option Addr} {m d : Nat} {ys : List Value} (hx : a.eval x = .slice B m d) (hr : Reads w B m d size ys)
  (h1 : ∀ u ∈ ys, u.oneCell' = true) (hb : (n + m) * bytes ≤ 140737488355328) (h63 : n + m ≤ maxLen)
  (k : ∀ A' c' w', Own w0 w' e size A' (n + m) c' (xs ++ ys) → w.grownBy w' (Value.slice A n c).ownBlock → Moved w A A' → wpListIn F n' P ops Q rest (a.put o.dst (.slice A' (n + m) c')) w') : wpListIn F n' P ops Q (o :: rest) a w := by
 obtain ⟨A', c', w', hrun, h2, h3, h4⟩ := run_append_moreW T o.type h hr h1 hb h63
 refine wpListIn_plain hgd fun K hK => ?_
 unfold Oper.wpIn
 refine ⟨?_, ?_⟩
 · simp [Oper.about, ho, resolve, Target.leads, Sem.run_pure]
 · rw [Oper.semAt_plain F _ _ (by rw [ho]; intro c hc'; cases hc')]
   simp [execOp, ho, resolve, invoke, builtin, hs, hx, hrun, Result.andThen]
   exact hK _ _ (k A' c' w' h2 h3 h4)

structure SubI (SA : Option Addr) (sn sc : Nat) (f : FieldD) (d : Int) (g : List UInt8 → MsgT) (w wa : World) (b11 : Nat) (vs : List RunV) (j : Nat) (W : World) : Prop where
 box : ValB SA sn sc f d w W
 out : ∃ (A : Option Addr) (c : Nat) (ys : List MsgR), BlkT W b11 52 #[.int .i64 f.number, .slice none 0 0, .slice none 0 0, .slice A j c] ∧ W.ownsRow wa.heap.size 35 2 (.slice A j c) j (ys.flatMap treeC) ∧ ys.length = j ∧ ys.map bare = (vs.take j).map (fun v => g v.bs) ∧ (∀ y ∈ ys, TreeAt W y) ∧ ∀ y ∈ ys, ∀ b, UsesT y b → wa.heap.size ≤ b ∧ (Value.slice A 0 0).ownBlock ≠ some b
 ext : Ext w W
 size : wa.heap.size ≤ W.heap.size

set_option maxRecDepth 100000 in
set_option maxHeartbeats 4000000 in
theorem lValue_subs {SA B : Option Addr} {sn sc m k : Nat} {S : List MsgV} {f : FieldD} {d : Int} {bs : List UInt8} {w : World} (hs : SchemaAt w SA sn sc S) (hb : BytesAt w B m k bs) (hm : m ≤ 100000) (h0 : codeL (S.map MsgV.d) f bs d = 0) (h17 : f.kind = 17) (hnum : -9223372036854775808 ≤ f.number ∧ f.number < 9223372036854775808) :
  Calls Tryz.prog 38 #[.slice SA sn sc, fieldV f, .slice B m k, .int .i64 d] w (ValTold (S.map MsgV.d) ⟨(), (), (), f.number, [], [], (itemsL f.rep bs).map (fun x => OfT (S.map MsgV.d) f.of_ x.1 d)⟩ 0 w) := by
 have hk : numberB f.kind = false := by rw [h17]; decide
 have hc := fun W (h : SchemaAt W SA sn sc S) (q : BytesAt W B m k bs) => lCheck (f := f) (d := d) h q (by omega)
 rw [h0] at hc
 have hp := fun W => lPacked (f := f) (w := W)
 rw [hk, Bool.and_false] at hp
 have ha := fun W (E : Ext w W) => lAll (f := f) hb E (by omega)
 have hn := fun W => kNumber f.kind W
 rw [hk] at hn
 have ht := fun W (x : RunV) (h : SchemaAt W SA sn sc S) (q : BytesAt W x.A x.n x.c x.bs) (hn : x.n ≤ 100000) => tOfB (root := f.of_) (d := d) h q hn
 unfold treeV at ht
 obtain ⟨h, X⟩ := valW_at SA sn sc f d w
 have Hc := Lib.hid hc
 have Hp := Lib.hid hp
 have Ha := Lib.hid ha
 have Hn := Lib.hid hn
 have Ht := Lib.hid ht
 have HS := Lib.hid hs
 have HB := Lib.hid hb
 have h17b : (f.kind == 17) = true := by rw [h17]; rfl
 clear hc hp ha hn ht h0 hs hb hk h17
 obtain ⟨y0, hy0⟩ : ∃ y0 : ValT, y0 = ⟨(), (), (), f.number, [], [], (itemsL f.rep bs).map (fun x => OfT (S.map MsgV.d) f.of_ x.1 d)⟩ := ⟨_, rfl⟩
 rw [← hy0]
 have Hy0 := Lib.hid hy0
 clear hy0
 unfold fieldV
 unfold fieldV at Hc Hp Ha
 refine (callsIn_wide (n := 3)).1 ?_
 refine callsIn_of_wp_marks Tryz.func38 rfl trivial ?_ rfl
 simp only [Tryz.ntmps38, List.size_toArray, List.length_cons, List.length_nil, Nat.reduceAdd, Nat.reduceSub, Array.replicate_succ, Array.replicate_zero, List.push_toArray, List.append_toArray, List.nil_append, List.cons_append]
 gi_wp2_with fail
 rw [show (((w.alloc (.cells #[.slice SA sn sc] 23)).alloc (.cells #[.string f.name, .int .i64 f.number, .int .i64 f.kind, .bool f.rep, .bool f.packed, .int .i64 f.of_] 48)).alloc (.cells #[.int .i64 d] 3)).alloc (.cells #[.int .i64 0, .slice none 0 0, .slice none 0 0, .slice none 0 0] 52) = valW SA sn sc f d w from rfl]
 generalize valW SA sn sc f d w = wa at *
 have z4 := h.b4.cell 0
 have z7 := h.b7.cell 0
 have z50 : wa.cell? ⟨w.heap.size + 1, 0, none⟩ = some (.string f.name) := h.b5.cell 0
 have z51 : wa.cell? ⟨w.heap.size + 1, 1, none⟩ = some (.int .i64 f.number) := h.b5.cell 1
 have z52 : wa.cell? ⟨w.heap.size + 1, 2, none⟩ = some (.int .i64 f.kind) := h.b5.cell 2
 have z53 : wa.cell? ⟨w.heap.size + 1, 3, none⟩ = some (.bool f.rep) := h.b5.cell 3
 have z54 : wa.cell? ⟨w.heap.size + 1, 4, none⟩ = some (.bool f.packed) := h.b5.cell 4
 have z55 : wa.cell? ⟨w.heap.size + 1, 5, none⟩ = some (.int .i64 f.of_) := h.b5.cell 5
 have H0 := Lib.hid h
 have lb8 := h.b8.lt
 clear h
 gi_wp2_with (first
  | (refine ⟨trivial, ?_⟩; gi_at_call 39; refine (callsIn_wide.2 (Hc.out _ (HS.out.up X) (HB.out.up X))).mono ?_; rintro e w1 ⟨rfl, E1⟩; have X1 := X.trans E1; have lb1 := Nat.lt_of_lt_of_le lb8 E1.size; have lb1a : w.heap.size + 1 < w1.heap.size := (by omega); have lb1b : w.heap.size < w1.heap.size := (by omega); have lb1c : w.heap.size + 1 + 1 < w1.heap.size := (by omega); replace z4 := E1.of_cell z4; replace z7 := E1.of_cell z7; replace z50 := E1.of_cell z50; replace z51 := E1.of_cell z51; replace z52 := E1.of_cell z52; replace z53 := E1.of_cell z53; replace z54 := E1.of_cell z54; replace z55 := E1.of_cell z55)
  | (refine ⟨trivial, ?_⟩; gi_at_call 60; refine (callsIn_wide.2 (Hp.out _)).mono ?_; rintro e w2 ⟨rfl, E2⟩; have EX : Ext w1 w2 := Ext.trans (by repeat with_reducible (first | exact Ext.refl _ | refine Ext.alloc ?_ _ | refine Ext.drew ?_ | refine Ext.drewN ?_ _ | refine Ext.setCell ?_ (by first | omega | (simp <;> omega)) _)) E2; have BO := (BlkT.new w1 52 #[.int .i64 f.number, .slice none 0 0, .slice none 0 0, .slice none 0 0] rfl).up E2; have X2 := X1.trans EX; replace z4 := EX.of_cell z4; replace z7 := EX.of_cell z7; replace z50 := EX.of_cell z50; replace z51 := EX.of_cell z51; replace z52 := EX.of_cell z52; replace z53 := EX.of_cell z53; replace z54 := EX.of_cell z54; replace z55 := EX.of_cell z55)
  | (refine ⟨trivial, ?_⟩; gi_at_call 85; refine (callsIn_wide.2 (Ha.out _ X2)).mono ?_; rintro e w3 ⟨gf, lb, B0, vs, rfl, eg, hV, hit, hB1, hB2, E3⟩; have X3 := X2.trans E3; have EA := (E1.trans EX).trans E3))
 have hw1 := E1.size
 have hw2 := BO.lt
 have hw3 := E3.size
 have hx0 := X.size
 have hvl : vs.length ≤ m + 1 := by have := itemsL_len f.rep bs; rw [← hV.list, List.length_map, HB.out.length] at this; exact this
 refine wp_range (w := w3) rfl eg hit (fun b h => by omega) hB2 (fun _ => rfl)
  (SubI SA sn sc f d (fun b => OfT (S.map MsgV.d) f.of_ b d) w w3 w1.heap.size vs) (fun _ _ => False)
  (fun j x a₁ W => SubI SA sn sc f d (fun b => OfT (S.map MsgV.d) f.of_ b d) w w3 w1.heap.size vs j W ∧ ∃ b12, BlkT W b12 145 #[.slice x.A x.n x.c, .int .u8 (x.e : Int)] ∧ w3.heap.size ≤ b12 ∧ a₁ = { tmps := #[.slice SA sn sc, .agg #[.string f.name, .int .i64 f.number, .int .i64 f.kind, .bool f.rep, .bool f.packed, .int .i64 f.of_], .slice B m k, .int .i64 d, .pointer (some ⟨w.heap.size, 0, none⟩), .pointer (some ⟨w.heap.size + 1, 0, none⟩), undef, .pointer (some ⟨w.heap.size + 1 + 1, 0, none⟩), .pointer (some ⟨w.heap.size + 1 + 1 + 1, 0, none⟩), .int .u8 0, .int .u8 0, .pointer (some ⟨w1.heap.size, 0, none⟩), .pointer (some ⟨b12, 0, none⟩), undef, undef, undef, undef, .slice SA sn sc, .agg #[.string f.name, .int .i64 f.number, .int .i64 f.kind, .bool f.rep, .bool f.packed, .int .i64 f.of_], .slice B m k, .int .i64 d, .int .u8 0, .int .u8 0, .bool false, undef, undef, .pointer (some ⟨w.heap.size + 1, 1, none⟩), .int .i64 f.number, .agg #[.int .i64 f.number, .slice none 0 0, .slice none 0 0, .slice none 0 0], .agg #[.string f.name, .int .i64 f.number, .int .i64 f.kind, .bool f.rep, .bool f.packed, .int .i64 f.of_], .bool false, undef, undef, undef, undef, undef, undef, undef, undef, undef, .agg #[.string f.name, .int .i64 f.number, .int .i64 f.kind, .bool f.rep, .bool f.packed, .int .i64 f.of_], .slice B m k, .func (.func gf) #[] lb, runV x, undef, undef, undef, undef, undef, undef, undef, undef, undef, undef, undef, undef, undef, undef, undef, undef, undef, undef, undef, undef, undef, undef, undef, undef, undef, undef, undef, undef, undef, undef, undef, undef, undef, undef, undef, undef, undef, undef, undef, undef, undef, undef, undef, undef, undef, undef, undef], defers := [] })
  (fun j W h => h.size) ?hI ?hIB ?hIx ?hIxB ?hA ⟨H0.out.up EA, ⟨none, 0, [], BO.up E3, World.ownsRow_nil _ _ _ _, rfl, rfl, (fun y h => by cases h), fun y h => by cases h⟩, X3, Nat.le_refl _⟩ ?assign ?body ?done ?stop
 case hI =>
  intro j W W' b o h hb2 ho hc hO
  obtain ⟨A2, c2, ys, r2, row, q1, q2, q3, q4⟩ := h.out
  exact ⟨h.box.besides ho hc hO, ⟨A2, c2, ys, r2.besides ho hc hO, row_besides row ho hc hO, q1, q2, fun y hy => (q3 y hy).besides ho hc hO, q4⟩, hO.toExt h.ext (by omega), Nat.le_trans h.size hO.size⟩
 case hIB =>
  intro j W W' h hO
  obtain ⟨A2, c2, ys, r2, row, q1, q2, q3, q4⟩ := h.out
  exact ⟨h.box.onlyB hO (by omega), ⟨A2, c2, ys, r2.onlyB hO (by omega), row_only row hO (by omega), q1, q2, fun y hy => (q3 y hy).onlyB hO (fun b hb => by have := (q4 y hy b hb).1; omega), q4⟩, hO.toExt h.ext (by omega), Nat.le_trans h.size hO.size⟩
 case hIx => exact fun _ _ _ _ _ h => h.elim
 case hIxB => exact fun _ _ _ h => h.elim
 case hA =>
  rintro j x a₁ W W' b o ⟨h, b12, h12, hl, rfl⟩ hb2 ho hc hO
  obtain ⟨A2, c2, ys, r2, row, q1, q2, q3, q4⟩ := h.out
  exact ⟨⟨h.box.besides ho hc hO, ⟨A2, c2, ys, r2.besides ho hc hO, row_besides row ho hc hO, q1, q2, fun y hy => (q3 y hy).besides ho hc hO, q4⟩, hO.toExt h.ext (by omega), Nat.le_trans h.size hO.size⟩, b12, h12.besides ho hc hO, hl, rfl⟩
 case assign =>
  intro l j x W K h hx hK
  unfold runV
  gi_wp2
  refine hK _ _ ⟨?_, W.heap.size, BlkT.new W _ _ rfl, h.size, rfl⟩ (Ext.alloc (Ext.refl W) _)
  obtain ⟨A2, c2, ys, r2, row, q1, q2, q3, q4⟩ := h.out
  exact ⟨h.box.up ((Ext.refl W).alloc _), ⟨A2, c2, ys, r2.alloc _, row.alloc _, q1, q2, fun y hy => (q3 y hy).up ((Ext.refl W).alloc _), q4⟩, h.ext.alloc _, Nat.le_trans h.size (by simp)⟩
 case body =>
  rintro l j x a₁ W ⟨h, b12, h12, hl, rfl⟩ hx
  have y0 : W.cell? ⟨b12, 0, none⟩ = some (.slice x.A x.n x.c) := h12.cell 0
  have yl := h12.lt
  obtain ⟨A2, c2, ys, r2, row, q1, q2, q3, q4⟩ := h.out
  have hev := hV.each x (List.mem_of_getElem? hx)
  have hbx : BytesAt W x.A x.n x.c x.bs := hev.1.up h.ext
  have hxn : x.n ≤ 100000 := by omega
  have z4' := h.box.b4.cell 0
  have z7' := h.box.b7.cell 0
  have z52' : W.cell? ⟨w.heap.size + 1, 2, none⟩ = some (.int .i64 f.kind) := h.box.b5.cell 2
  have z55' : W.cell? ⟨w.heap.size + 1, 5, none⟩ = some (.int .i64 f.of_) := h.box.b5.cell 5
  have l5 := h.box.b5.lt
  have H := Lib.hid h
  have Hx := Lib.hid hx
  have hj : j < vs.length := (List.getElem?_eq_some_iff.1 hx).1
  have R2 := Lib.hid r2
  have Row := Lib.hid row
  have Q1 := Lib.hid q1
  have Q2 := Lib.hid q2
  have Q3 := Lib.hid q3
  have Q4 := Lib.hid q4
  have hsz := h.size
  have l11 := r2.lt
  have hWx := h.ext
  clear h h12 hx r2 row z4 z7 z50 z51 z52 z53 z54 z55 hit hev q1 q2 q3 q4
  gi_wp2_with (first
   | (refine ⟨trivial, ?_⟩; gi_at_call 62; refine (CallsIn.inRound l (callsIn_wide.2 (Hn.out _))).mono ?_; rintro e w5 ⟨rfl, E5⟩; have c52 := E5.of_cell z52'; have c55 := E5.of_cell z55'; have c4' := E5.of_cell z4'; have c7' := E5.of_cell z7'; have yy0 := E5.of_cell y0; have Hbx := hbx.up E5)
   | (refine ⟨trivial, ?_⟩; gi_at_call 13; refine (CallsIn.inRound l (callsIn_wide.2 (Ht.out _ x (HS.out.up (hWx.trans E5)) Hbx hxn))).mono ?_; rintro e w6 ⟨y, rfl, p1, p2, p3, E6⟩; have X6 := E5.trans E6; have q11b := R2.out.up X6; have c11b : w6.cell? ⟨w1.heap.size, 3, none⟩ = some (.slice A2 j c2) := q11b.cell 3; have l11c := q11b.lt; have P1 := Lib.hid p1; have P2 := Lib.hid p2; have P3' := Lib.hid p3; clear p1 p2 p3)
   | (gi_at_builtin; obtain ⟨wb, hwb, hwbs⟩ := old_part w6 (n := w3.heap.size) (by have := X6.size; omega); refine wpListIn_moreW elemTM rfl (.tmp 85) (.tmp 87) rfl rfl (w0 := wb) (((show Own wb w6 35 2 A2 j c2 (ys.flatMap treeC) from ⟨by rw [hwbs]; exact row_up Row.out X6, hwb⟩).alloc _).alloc _) rfl (reads_oneN (w6.alloc (.cells (treeC y).toArray 35)) (treeC y) 35 (by first | rfl | simp) (by first | rfl | simp)) (by simpa using treeC_one [y]) (by omega) (by unfold maxLen; omega) ?_; intro A4 c4 w4 own4 g4 m4; have z4 := (show BlkT w4 w1.heap.size 52 #[.int .i64 f.number, .slice none 0 0, .slice none 0 0, .slice A2 j c2] from (row_beside (o := .cells (treeC y).toArray 35) Row.out (X6.alloc _) hsz g4 (by omega)).trans R2.out); have y4 : w4.cell? ⟨w1.heap.size, 3, none⟩ = some (.slice A2 j c2) := z4.cell 3; have f4 := z4.free 3; have l4 := z4.lt; have Z4 := Lib.hid z4; have G4 := Lib.hid g4; have Own4 := Lib.hid own4; have M4 := Lib.hid m4; have Hwbs := Lib.hid hwbs; clear z4 g4 own4 m4 hwbs))
  have h := H.out
  have X6a : Ext W (w6.alloc (.cells (treeC y).toArray 35)) := X6.alloc _
  have X6b : Ext W ((w6.alloc (.cells (treeC y).toArray 35)).alloc (.cells (treeC y).toArray 35)) := X6a.alloc _
  obtain ⟨K1, K2, K3, K4⟩ := row_appendedO (k := 3) Row.out X6a hsz G4.out (show w1.heap.size < w3.heap.size by omega) (.slice A4 (j + 1) c4)
  have hA2 : ∀ b, (Value.slice A2 0 0).ownBlock = some b → w3.heap.size ≤ b ∧ b < W.heap.size := fun b hb => by
   rw [ownBlock_any A2 0 0 j c2] at hb
   obtain ⟨r1, o, r3, _⟩ := row_block Row.out hb
   exact ⟨r1, (Array.getElem?_eq_some_iff.1 r3).1⟩
  have st4 : Stays (fun b => (Value.slice A2 0 0).ownBlock ≠ some b) ((w6.alloc (.cells (treeC y).toArray 35)).alloc (.cells (treeC y).toArray 35)) w4 := Stays.grown G4.out (fun k hk q => q (by rw [ownBlock_any A2 0 0 j c2]; exact hk))
  have hold : ∀ z ∈ ys ++ [y], ∀ b, UsesT z b → w3.heap.size ≤ b ∧ (Value.slice A2 0 0).ownBlock ≠ some b := fun z hz b hb => by
   rcases List.mem_append.1 hz with hz | hz
   · exact Q4.out z hz b hb
   · simp only [List.mem_singleton] at hz
     subst hz
     have e1 := P3'.out b hb
     have e2 := E5.size
     refine ⟨by omega, fun e => ?_⟩
     have := (hA2 b e).2
     omega
  have hat : ∀ z ∈ ys ++ [y], TreeAt ((w6.alloc (.cells (treeC y).toArray 35)).alloc (.cells (treeC y).toArray 35)) z := fun z hz => by
   rcases List.mem_append.1 hz with hz | hz
   · exact (Q3.out z hz).up X6b
   · simp only [List.mem_singleton] at hz
     subst hz
     exact P2.out.up (((Ext.refl w6).alloc _).alloc _)
  have hn4 : ∀ z ∈ ys ++ [y], ∀ b, UsesT z b → (Value.slice A4 0 0).ownBlock ≠ some b := fun z hz b hb e => by
   rcases M4.out with m | m
   · rw [m] at e
     exact (hold z hz b hb).2 e
   · rw [m] at e
     injection e with e
     have e' : ((w6.alloc (.cells (treeC y).toArray 35)).alloc (.cells (treeC y).toArray 35)).heap.size = b := e
     obtain ⟨o, h1, _⟩ := TreeAt.is_cells hb (hat z hz)
     have := (Array.getElem?_eq_some_iff.1 h1).1
     omega
  refine ⟨K1, fun b hb3 => K2 b (by omega) (by omega), ?_⟩
  refine ⟨h.box.same (fun b hb => K2 b (by omega) (by omega)), ⟨A4, c4, ys ++ [y], ?_, ?_, by rw [List.length_append, Q1.out]; rfl, ?_, fun z hz => ?_, fun z hz b hb => ⟨(hold z hz b hb).1, hn4 z hz b hb⟩⟩, K3 w h.ext (by omega), Nat.le_trans hsz K4⟩
  · have := Z4.out.set_ 3 (.slice A4 (j + 1) c4)
    simpa using this
  · refine ownsRow_setCell_below ?_ (by show w1.heap.size < w3.heap.size; omega) _
    have := Own4.out.row
    rw [Hwbs.out] at this
    rw [List.flatMap_append]
    simpa using this
  · rw [List.map_append, Q2.out, List.take_add_one, Hx.out]
    simp [P1.out]
  · exact ((hat z hz).stays st4 (fun b hb => (hold z hz b hb).2)).stays (s := fun b => b ≠ w1.heap.size) ((Stays.refl _ w4).set (p := ⟨w1.heap.size, 3, none⟩) (fun q => q rfl) _) (fun b hb => by have := (hold z hz b hb).1; omega)
 case done =>
  intro D W hD h hK
  obtain ⟨A2, c2, ys, r2, row, q1, q2, q3, q4⟩ := h.out
  have o0 : W.cell? ⟨w1.heap.size, 0, none⟩ = some (.int .i64 f.number) := r2.cell 0
  have o1 : W.cell? ⟨w1.heap.size, 1, none⟩ = some (.slice none 0 0) := r2.cell 1
  have o2 : W.cell? ⟨w1.heap.size, 2, none⟩ = some (.slice none 0 0) := r2.cell 2
  have o3 : W.cell? ⟨w1.heap.size, 3, none⟩ = some (.slice A2 vs.length c2) := r2.cell 3
  have ol := r2.lt
  have B8 := h.box.b8
  have v0 : W.cell? ⟨w.heap.size + 1 + 1 + 1, 0, none⟩ = some (.int .i64 0) := B8.cell 0
  have v1 : W.cell? ⟨w.heap.size + 1 + 1 + 1, 1, none⟩ = some (.slice none 0 0) := B8.cell 1
  have v2 : W.cell? ⟨w.heap.size + 1 + 1 + 1, 2, none⟩ = some (.slice none 0 0) := B8.cell 2
  have v3 : W.cell? ⟨w.heap.size + 1 + 1 + 1, 3, none⟩ = some (.slice none 0 0) := B8.cell 3
  have g0 := B8.free 0
  have g1 := B8.free 1
  have g2 := B8.free 2
  have g3 := B8.free 3
  have vl := B8.lt
  have H := Lib.hid h
  have HK2 := Lib.hid hK
  have Row := Lib.hid row
  have HB8 := Lib.hid B8
  have Q1 := Lib.hid q1
  have Q2 := Lib.hid q2
  have Q3 := Lib.hid q3
  have Q4 := Lib.hid q4
  clear h hK row r2 B8 z4 z7 z50 z51 z52 z53 z54 z55 hit q1 q2 q3 q4
  gi_wp2
  have h := H.out
  have BF : BlkT ((((W.setCell ⟨w.heap.size + 1 + 1 + 1, 0, none⟩ (.int .i64 f.number)).setCell ⟨w.heap.size + 1 + 1 + 1, 1, none⟩ (.slice none 0 0)).setCell ⟨w.heap.size + 1 + 1 + 1, 2, none⟩ (.slice none 0 0)).setCell ⟨w.heap.size + 1 + 1 + 1, 3, none⟩ (.slice A2 vs.length c2)) (w.heap.size + 1 + 1 + 1) 52 #[.int .i64 f.number, .slice none 0 0, .slice none 0 0, .slice A2 vs.length c2] := by
   have := (((HB8.out.set_ 0 (.int .i64 f.number)).set_ 1 (.slice none 0 0)).set_ 2 (.slice none 0 0)).set_ 3 (.slice A2 vs.length c2)
   simpa using this
  have BF2 := BF.putObj (D := D) (by omega) (.deferred none)
  have E : Ext w (((((W.setCell ⟨w.heap.size + 1 + 1 + 1, 0, none⟩ (.int .i64 f.number)).setCell ⟨w.heap.size + 1 + 1 + 1, 1, none⟩ (.slice none 0 0)).setCell ⟨w.heap.size + 1 + 1 + 1, 2, none⟩ (.slice none 0 0)).setCell ⟨w.heap.size + 1 + 1 + 1, 3, none⟩ (.slice A2 vs.length c2)).putObj D (.deferred none)) :=
   (only_putObj _ _ _).toExt ((((h.ext.setCell (p := ⟨w.heap.size + 1 + 1 + 1, 0, none⟩) (by show w.heap.size ≤ w.heap.size + 1 + 1 + 1; omega) _).setCell (p := ⟨w.heap.size + 1 + 1 + 1, 1, none⟩) (by show w.heap.size ≤ w.heap.size + 1 + 1 + 1; omega) _).setCell (p := ⟨w.heap.size + 1 + 1 + 1, 2, none⟩) (by show w.heap.size ≤ w.heap.size + 1 + 1 + 1; omega) _).setCell (p := ⟨w.heap.size + 1 + 1 + 1, 3, none⟩) (by show w.heap.size ≤ w.heap.size + 1 + 1 + 1; omega) _) (by omega)
  have row4 := ownsRow_setCell_below (ownsRow_setCell_below (ownsRow_setCell_below (ownsRow_setCell_below Row.out (a := ⟨w.heap.size + 1 + 1 + 1, 0, none⟩) (by show w.heap.size + 1 + 1 + 1 < w3.heap.size; omega) (.int .i64 f.number)) (a := ⟨w.heap.size + 1 + 1 + 1, 1, none⟩) (by show w.heap.size + 1 + 1 + 1 < w3.heap.size; omega) (.slice none 0 0)) (a := ⟨w.heap.size + 1 + 1 + 1, 2, none⟩) (by show w.heap.size + 1 + 1 + 1 < w3.heap.size; omega) (.slice none 0 0)) (a := ⟨w.heap.size + 1 + 1 + 1, 3, none⟩) (by show w.heap.size + 1 + 1 + 1 < w3.heap.size; omega) (.slice A2 vs.length c2)
  have hD4 : ((((W.setCell ⟨w.heap.size + 1 + 1 + 1, 0, none⟩ (.int .i64 f.number)).setCell ⟨w.heap.size + 1 + 1 + 1, 1, none⟩ (.slice none 0 0)).setCell ⟨w.heap.size + 1 + 1 + 1, 2, none⟩ (.slice none 0 0)).setCell ⟨w.heap.size + 1 + 1 + 1, 3, none⟩ (.slice A2 vs.length c2)).heap[D]? = some (.deferred (some [])) := by
   rw [Below.heap_setCell _ ⟨w.heap.size + 1 + 1 + 1, 3, none⟩ _ D (by show D ≠ w.heap.size + 1 + 1 + 1; omega), Below.heap_setCell _ ⟨w.heap.size + 1 + 1 + 1, 2, none⟩ _ D (by show D ≠ w.heap.size + 1 + 1 + 1; omega), Below.heap_setCell _ ⟨w.heap.size + 1 + 1 + 1, 1, none⟩ _ D (by show D ≠ w.heap.size + 1 + 1 + 1; omega), Below.heap_setCell _ ⟨w.heap.size + 1 + 1 + 1, 0, none⟩ _ D (by show D ≠ w.heap.size + 1 + 1 + 1; omega)]
   exact HK2.out
  have hy4 : ∀ y ∈ ys, TreeAt (((((W.setCell ⟨w.heap.size + 1 + 1 + 1, 0, none⟩ (.int .i64 f.number)).setCell ⟨w.heap.size + 1 + 1 + 1, 1, none⟩ (.slice none 0 0)).setCell ⟨w.heap.size + 1 + 1 + 1, 2, none⟩ (.slice none 0 0)).setCell ⟨w.heap.size + 1 + 1 + 1, 3, none⟩ (.slice A2 vs.length c2)).putObj D (.deferred none)) y := fun y hy =>
   ((Q3.out y hy).stays (s := fun b => b ≠ w.heap.size + 1 + 1 + 1) (((((Stays.refl _ W).set (p := ⟨w.heap.size + 1 + 1 + 1, 0, none⟩) (fun q => q rfl) _).set (p := ⟨w.heap.size + 1 + 1 + 1, 1, none⟩) (fun q => q rfl) _).set (p := ⟨w.heap.size + 1 + 1 + 1, 2, none⟩) (fun q => q rfl) _).set (p := ⟨w.heap.size + 1 + 1 + 1, 3, none⟩) (fun q => q rfl) _) (fun b hb => by have := (Q4.out y hy b hb).1; omega)).besides hD4 rfl (only_putObj _ _ _)
  have row5 := ownsRow_putObj row4 (.deferred none) (l := D) (o := .deferred (some [])) hD4 rfl
  have own5 : Own w _ 35 2 A2 vs.length c2 _ := ⟨ownsRow_more row5 (by omega), E⟩
  refine ⟨by simp, .inl ⟨_, _, rfl, run_takeDeferred (b := D) (ds := []) hD4, ?_⟩⟩
  refine ⟨_, results_cell_row2 (ty := 52) rfl _ _ (w.heap.size + 1 + 1 + 1) _ _ (0, 0) _ rfl BF2 Tryz.underlying52 rfl (by kernel_rfl), ⟨⟨(none, 0), (none, 0), (A2, c2), f.number, [], [], ys⟩, by show _ = Ending.returned (.tuple #[.agg #[.int .i64 f.number, .slice none 0 0, .slice none 0 0, .slice A2 ys.length c2], .int .u8 (0 : Nat)]); rw [Q1.out]; rfl, ?_, ⟨⟨hnum, reads_nil _ _, (fun x h => by cases h), ⟨reads_nil _ _, fun t h => by cases h⟩, by show Reads _ A2 ys.length c2 2 _; rw [Q1.out]; exact own5.reads⟩, hy4⟩, ?_, E⟩⟩
  · rw [Hy0.out, ← hV.list, List.map_map]
    have := Q2.out
    rw [List.take_length] at this
    show (⟨(), (), (), f.number, [], [], ys.map bare⟩ : ValT) = _
    rw [this]
    rfl
  · rintro b ((q | q | q) | ⟨y, hy, hb⟩)
    · exact absurd q.1 (Nat.lt_irrefl 0)
    · exact absurd q.1 (Nat.lt_irrefl 0)
    · exact own_new own5 b (by rw [← Q1.out]; exact q)
    · have := (Q4.out y hy b hb).1
      omega
 case stop => exact fun _ _ _ _ h _ => h.elim

end Go.Proofs.YtnnphodgegcddaaGreat

/- Contracts of layer 20: what a load means. -/

namespace Go.Proofs.YtnnphodgegcddaaGreat
open Go.RowKit Go.Shelf
set_option linter.unusedVariables false

theorem argsL_number {S : List MsgD} {f : FieldD} {d : Int} (h : argsL S f d = 0) : -9223372036854775808 ≤ f.number ∧ f.number < 9223372036854775808 := by
 unfold argsL at h
 split at h
 · cases h
 · split at h
   · cases h
   · rename_i h2
     unfold badL at h2
     omega

theorem codeL_args {S : List MsgD} {f : FieldD} {bs : List UInt8} {d : Int} (h : codeL S f bs d = 0) : argsL S f d = 0 := by
 by_cases h0 : argsL S f d = 0
 · exact h0
 · rw [codeL_bad h0] at h
   exact absurd h h0

def toldL (S : List MsgD) (f : FieldD) (bs : List UInt8) (d : Int) : ValT := if codeL S f bs d = 0 then valueL S f bs d else ⟨(), (), (), 0, [], [], []⟩

theorem lValue {SA B : Option Addr} {sn sc m k : Nat} {S : List MsgV} {f : FieldD} {d : Int} {bs : List UInt8} {w : World} (hs : SchemaAt w SA sn sc S) (hb : BytesAt w B m k bs) (hm : m ≤ 100000) :
  Calls Tryz.prog 38 #[.slice SA sn sc, fieldV f, .slice B m k, .int .i64 d] w (ValTold (S.map MsgV.d) (toldL (S.map MsgV.d) f bs d) (codeL (S.map MsgV.d) f bs d) w) := by
 unfold toldL
 by_cases h : codeL (S.map MsgV.d) f bs d = 0
 · rw [if_pos h, h]
   have h0 := codeL_args h
   have hn := argsL_number h0
   rcases hr : runL f with _ | _
   · rcases hk : numberB f.kind with _ | _
     · by_cases h17 : f.kind = 17
       · have e : valueL (S.map MsgV.d) f bs d = ⟨(), (), (), f.number, [], [], (itemsL f.rep bs).map (fun x => OfT (S.map MsgV.d) f.of_ x.1 d)⟩ := by
          unfold valueL
          rw [if_neg (by rw [hr]; decide), if_neg (by rw [hk]; decide), if_pos h17]
         rw [e]
         exact lValue_subs hs hb hm h h17 hn
       · have e : valueL (S.map MsgV.d) f bs d = ⟨(), (), (), f.number, [], (itemsL f.rep bs).map (fun x => (⟨x.1.toArray⟩ : ByteArray)), []⟩ := by
          unfold valueL
          rw [if_neg (by rw [hr]; decide), if_neg (by rw [hk]; decide), if_neg h17]
         rw [e]
         exact lValue_texts hs hb (by omega) h hr hk h17 hn
     · have e : valueL (S.map MsgV.d) f bs d = ⟨(), (), (), f.number, (itemsL f.rep bs).map (fun x => (readS f.kind x.1).1), [], []⟩ := by
        unfold valueL
        rw [if_neg (by rw [hr]; decide), if_pos hk]
       rw [e]
       exact lValue_words hs hb (by omega) h hr hk hn
   · have e : valueL (S.map MsgV.d) f bs d = ⟨(), (), (), f.number, (valsV f.kind bs).map (fun u => (readS f.kind u.1).1), [], []⟩ := by
      unfold valueL
      rw [if_pos hr]
     rw [e]
     exact lValue_run hs hb (by omega) h hr (by rw [codeL_run h0 hr] at h; exact h) hn
 · rw [if_neg h]
   exact lValue_bad hs hb (by omega) h

end Go.Proofs.YtnnphodgegcddaaGreat
