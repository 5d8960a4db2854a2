/- Contracts of layer 14: tree.Get. -/
import Derived.Test.YtgjhglehghjoeaaGreatQbW23
import Derived.Test.YtgjhglehghjoeaaGreatQbW20i

namespace Go.Proofs.YtgjhglehghjoeaaGreat
open Go.RowKit Go.Shelf
set_option linter.unusedVariables false

theorem tGet1 {f : ValR} {b : Nat} {x : Int} {w : World} (hc : w.cell? ⟨b, 0, none⟩ = some (.int .i64 x)) :
    Calls Tryz.prog 75 #[tvalV f, .pointer (some ⟨b, 0, none⟩)] w fun e w' => e = .returned (.bool (f.number == x)) ∧ Ext w w' := by
  have hb := World.block_lt_of_cell? w _ hc
  simp only at hb
  unfold tvalV
  go_enter Tryz.func75, Tryz.ntmps75
  go_wp2
  go_ret
  exact ⟨rfl, (by repeat with_reducible (first | exact Ext.refl _ | refine Ext.alloc ?_ _ | refine Ext.drew ?_ | refine Ext.drewN ?_ _ | refine Ext.setCell ?_ (by first | exact Nat.le_refl _ | omega | (simp; done) | (simp; omega)) _))⟩

theorem msgField0 (a b : Value) (w : World) : (Instr.field 43 (.agg #[a, b]) 0).run Tryz.prog w = .ok a w := by kernel_rfl

def noneV : ValR := ⟨(none, 0), (none, 0), (none, 0), 0, [], [], []⟩

theorem tGet_no {x : MsgR} {N : Int} {w : World} (hx : TreeAt w x) (hl : x.vals.length ≤ 1000000000000) (h : idxB (fun v : ValR => v.number == N) x.vals = -1) :
    Calls Tryz.prog 21 #[treeV x, .int .i64 N] w fun e w' => e = .returned (.tuple #[tvalV noneV, .bool false]) ∧ Ext w w' := by
  have eg : ∀ args w, (callFunc 75 args).run Tryz.prog w = .ok (.enter 75 args) w := enters_of Tryz.func75 (by kernel_rfl) rfl
  have hidx := fun W (E : Ext w W) (hc : W.cell? ⟨w.heap.size + 1, 0, none⟩ = some (.int .i64 N)) => idxVal (w := W) (p := fun v : ValR => v.number == N) (lb := #[.pointer (some ⟨w.heap.size + 1, 0, none⟩)]) eg (hx.vals.ext E) (by omega) (fun W' f hf hE => tGet1 (hE.of_cell hc))
  rw [h] at hidx
  have Hidx := Lib.hid hidx
  clear hidx h eg
  unfold treeV tvalV noneV
  go_enter Tryz.func21, Tryz.ntmps21
  go_wp2_with fail
  have BX := ((BlkT.new w 43 #[.slice x.a.1 x.vals.length x.a.2, .slice x.b.1 x.unk.length x.b.2] rfl).alloc (.cells #[.int .i64 N] 3)).alloc (.cells #[.int .i64 0, .slice none 0 0, .slice none 0 0, .slice none 0 0] 30)
  have BN := (BlkT.new (w.alloc (.cells #[.slice x.a.1 x.vals.length x.a.2, .slice x.b.1 x.unk.length x.b.2] 43)) 3 #[.int .i64 N] (show w.heap.size + 1 = _ by simp)).alloc (.cells #[.int .i64 0, .slice none 0 0, .slice none 0 0, .slice none 0 0] 30)
  have BV := BlkT.new ((w.alloc (.cells #[.slice x.a.1 x.vals.length x.a.2, .slice x.b.1 x.unk.length x.b.2] 43)).alloc (.cells #[.int .i64 N] 3)) 30 #[.int .i64 0, .slice none 0 0, .slice none 0 0, .slice none 0 0] (show w.heap.size + 2 = _ by simp)
  have X0 : Ext w (((w.alloc (.cells #[.slice x.a.1 x.vals.length x.a.2, .slice x.b.1 x.unk.length x.b.2] 43)).alloc (.cells #[.int .i64 N] 3)).alloc (.cells #[.int .i64 0, .slice none 0 0, .slice none 0 0, .slice none 0 0] 30)) := (((Ext.refl w).alloc _).alloc _).alloc _
  have Z0 := X0.size
  generalize ((w.alloc (.cells #[.slice x.a.1 x.vals.length x.a.2, .slice x.b.1 x.unk.length x.b.2] 43)).alloc (.cells #[.int .i64 N] 3)).alloc (.cells #[.int .i64 0, .slice none 0 0, .slice none 0 0, .slice none 0 0] 30) = w3 at *
  have n0 : w3.cell? ⟨w.heap.size + 1, 0, none⟩ = some (.int .i64 N) := BN.cell 0
  have nl := BN.lt
  refine (Hidx.out _ X0 n0).mono ?_
  rintro e w4 ⟨rfl, E4⟩
  have B4 := BV.up E4
  have c0 : w4.cell? ⟨w.heap.size + 2, 0, none⟩ = some (.int .i64 0) := B4.cell 0
  have c1 : w4.cell? ⟨w.heap.size + 2, 1, none⟩ = some (.slice none 0 0) := B4.cell 1
  have c2 : w4.cell? ⟨w.heap.size + 2, 2, none⟩ = some (.slice none 0 0) := B4.cell 2
  have c3 : w4.cell? ⟨w.heap.size + 2, 3, none⟩ = some (.slice none 0 0) := B4.cell 3
  have f0 := B4.free 0
  have f1 := B4.free 1
  have f2 := B4.free 2
  have f3 := B4.free 3
  have l4 := B4.lt
  go_wp2
  (try simp only [Exit.inBlock, Exit.then])
  have BF := (((B4.set_ 0 (.int .i64 0)).set_ 1 (.slice none 0 0)).set_ 2 (.slice none 0 0)).set_ 3 (.slice none 0 0)
  have h2 : w.heap.size ≤ w.heap.size + 2 := by omega
  have EF := ((((X0.trans E4).setCell (p := ⟨w.heap.size + 2, 0, none⟩) h2 (.int .i64 0)).setCell (p := ⟨w.heap.size + 2, 1, none⟩) h2 (.slice none 0 0)).setCell (p := ⟨w.heap.size + 2, 2, none⟩) h2 (.slice none 0 0)).setCell (p := ⟨w.heap.size + 2, 3, none⟩) h2 (.slice none 0 0)
  refine bodyPost_ret (results_cell_row2 (ty := 30) rfl _ _ (w.heap.size + 2) _ _ (0, 0) _ rfl BF Tryz.underlying30 rfl (by kernel_rfl)) rfl ?_
  exact ⟨rfl, EF⟩

set_option maxRecDepth 100000 in
theorem tGet_yes {x : MsgR} {N : Int} {k : Nat} {v : ValR} {w : World} (hx : TreeAt w x) (hfit : FitT 1000000000000 x) (h : idxB (fun v : ValR => v.number == N) x.vals = (k : Int)) (hv : x.vals[k]? = some v) :
    Calls Tryz.prog 21 #[treeV x, .int .i64 N] w fun e w' => ∃ u : ValR, e = .returned (.tuple #[tvalV u, .bool true]) ∧ bareV u = bareV v ∧ ValAt w' u ∧ (∀ b, UsesV u b → w.heap.size ≤ b) ∧ Ext w w' := by
  have eg : ∀ args w, (callFunc 75 args).run Tryz.prog w = .ok (.enter 75 args) w := enters_of Tryz.func75 (by kernel_rfl) rfl
  have hxl := hfit.vals
  have hidx := fun W (E : Ext w W) (hc : W.cell? ⟨w.heap.size + 1, 0, none⟩ = some (.int .i64 N)) => idxVal (w := W) (p := fun v : ValR => v.number == N) (lb := #[.pointer (some ⟨w.heap.size + 1, 0, none⟩)]) eg (hx.vals.ext E) (by omega) (fun W' f hf hE => tGet1 (hE.of_cell hc))
  rw [h] at hidx
  have hcp := fun W (E : Ext w W) => tCopy x W (hx.up E) hfit
  have hkl : k < x.vals.length := (List.getElem?_eq_some_iff.1 hv).1
  unfold treeV at *
  have Hidx := Lib.hid hidx
  have Hcp := Lib.hid hcp
  have Hv := Lib.hid hv
  clear hidx hcp h eg hv
  go_enter Tryz.func21, Tryz.ntmps21
  go_wp2_with fail
  have BX := ((BlkT.new w 43 #[.slice x.a.1 x.vals.length x.a.2, .slice x.b.1 x.unk.length x.b.2] rfl).alloc (.cells #[.int .i64 N] 3)).alloc (.cells #[.int .i64 0, .slice none 0 0, .slice none 0 0, .slice none 0 0] 30)
  have BN := (BlkT.new (w.alloc (.cells #[.slice x.a.1 x.vals.length x.a.2, .slice x.b.1 x.unk.length x.b.2] 43)) 3 #[.int .i64 N] (show w.heap.size + 1 = _ by simp)).alloc (.cells #[.int .i64 0, .slice none 0 0, .slice none 0 0, .slice none 0 0] 30)
  have BV := BlkT.new ((w.alloc (.cells #[.slice x.a.1 x.vals.length x.a.2, .slice x.b.1 x.unk.length x.b.2] 43)).alloc (.cells #[.int .i64 N] 3)) 30 #[.int .i64 0, .slice none 0 0, .slice none 0 0, .slice none 0 0] (show w.heap.size + 2 = _ by simp)
  have X0 : Ext w (((w.alloc (.cells #[.slice x.a.1 x.vals.length x.a.2, .slice x.b.1 x.unk.length x.b.2] 43)).alloc (.cells #[.int .i64 N] 3)).alloc (.cells #[.int .i64 0, .slice none 0 0, .slice none 0 0, .slice none 0 0] 30)) := (((Ext.refl w).alloc _).alloc _).alloc _
  generalize ((w.alloc (.cells #[.slice x.a.1 x.vals.length x.a.2, .slice x.b.1 x.unk.length x.b.2] 43)).alloc (.cells #[.int .i64 N] 3)).alloc (.cells #[.int .i64 0, .slice none 0 0, .slice none 0 0, .slice none 0 0] 30) = w3 at *
  have n0 : w3.cell? ⟨w.heap.size + 1, 0, none⟩ = some (.int .i64 N) := BN.cell 0
  have nl := BN.lt
  refine (Hidx.out _ X0 n0).mono ?_
  rintro e w4 ⟨rfl, E4⟩
  have x0 : w4.cell? ⟨w.heap.size, 0, none⟩ = some (.slice x.a.1 x.vals.length x.a.2) := (BX.up E4).cell 0
  have x1 : w4.cell? ⟨w.heap.size, 1, none⟩ = some (.slice x.b.1 x.unk.length x.b.2) := (BX.up E4).cell 1
  have X4 : Ext w w4 := X0.trans E4
  have kN : ¬ ((k : Int) < 0) := by omega
  go_wp2_with (go_at_call 29; refine (Hcp.out _ X4).mono ?_; rintro e w5 ⟨y, rfl, q1, q2, q3, E5⟩; have hyl : y.vals.map bareV = x.vals.map bareV := (by rw [bare_eq, bare_eq] at q1; injection q1); have hkl2 : k < y.vals.length := (by have := congrArg List.length hyl; simp only [List.length_map] at this; omega); obtain ⟨b6, off6, u, hA6, hu, hb6, e0, e1, e2, e3⟩ := valCells q2.vals hkl2; have kI : (k : Int) < y.vals.length := (by omega); have hfd := msgField0 (.slice (some ⟨b6, off6, none⟩) y.vals.length y.a.2) (.slice y.b.1 y.unk.length y.b.2) w5; have B5 := (BV.up E4).up E5; have f0 := B5.free 0; have f1 := B5.free 1; have f2 := B5.free 2; have f3 := B5.free 3; have l5 := B5.lt; have c0 : w5.cell? ⟨w.heap.size + 2, 0, none⟩ = some (.int .i64 0) := B5.cell 0; have c1 : w5.cell? ⟨w.heap.size + 2, 1, none⟩ = some (.slice none 0 0) := B5.cell 1; have c2 : w5.cell? ⟨w.heap.size + 2, 2, none⟩ = some (.slice none 0 0) := B5.cell 2; have c3 : w5.cell? ⟨w.heap.size + 2, 3, none⟩ = some (.slice none 0 0) := B5.cell 3; have Hu := Lib.hid hu; have Hyl := Lib.hid hyl; have Hq1 := Lib.hid q1; clear hu hyl q1)
  (try simp only [Exit.inBlock, Exit.then])
  have BF := (((B5.set_ 0 (.int .i64 u.number)).set_ 1 (.slice u.a.1 u.words.length u.a.2)).set_ 2 (.slice u.b.1 u.texts.length u.b.2)).set_ 3 (.slice u.c.1 u.subs.length u.c.2)
  have h2 : w.heap.size ≤ w.heap.size + 2 := by omega
  have EF := ((((X4.trans E5).setCell (p := ⟨w.heap.size + 2, 0, none⟩) h2 (.int .i64 u.number)).setCell (p := ⟨w.heap.size + 2, 1, none⟩) h2 (.slice u.a.1 u.words.length u.a.2)).setCell (p := ⟨w.heap.size + 2, 2, none⟩) h2 (.slice u.b.1 u.texts.length u.b.2)).setCell (p := ⟨w.heap.size + 2, 3, none⟩) h2 (.slice u.c.1 u.subs.length u.c.2)
  have hS2 := ((((Stays.refl (fun b => b ≠ w.heap.size + 2) w5).set (p := ⟨w.heap.size + 2, 0, none⟩) (fun e => e rfl) (.int .i64 u.number)).set (p := ⟨w.heap.size + 2, 1, none⟩) (fun e => e rfl) (.slice u.a.1 u.words.length u.a.2)).set (p := ⟨w.heap.size + 2, 2, none⟩) (fun e => e rfl) (.slice u.b.1 u.texts.length u.b.2)).set (p := ⟨w.heap.size + 2, 3, none⟩) (fun e => e rfl) (.slice u.c.1 u.subs.length u.c.2)
  refine bodyPost_ret (results_cell_row2 (ty := 30) rfl _ _ (w.heap.size + 2) _ _ (0, 0) _ rfl BF Tryz.underlying30 rfl (by kernel_rfl)) rfl ?_
  have hum := List.mem_of_getElem? Hu.out
  have hl4 : w.heap.size + 2 < w4.heap.size := (BV.up E4).lt
  have hub : ∀ b, UsesV u b → w4.heap.size ≤ b := fun b hb => q3 b (UsesT.of_val hum hb)
  refine ⟨u, rfl, ?_, (q2.val hum).stays hS2 (fun b hb => by have := hub b hb; omega), fun b hb => by have := hub b hb; have := X4.size; omega, EF⟩
  have h1 := congrArg (·[k]?) Hyl.out
  simp only [List.getElem?_map, Hu.out, Hv.out, Option.map_some] at h1
  injection h1

end Go.Proofs.YtgjhglehghjoeaaGreat
