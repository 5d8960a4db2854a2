/- The walk of the law TreeRight, out of its callees' contracts. (Printed by gen_ktreeright.py.) -/
import Derived.Test.YtgjhglehghjoeaaGreatQbW20s
import Derived.Test.YtgjhglehghjoeaaGreatQbW20
import Derived.Test.YtgjhglehghjoeaaGreatQbW14w
import Derived.Test.YtgjhglehghjoeaaGreatQbW14c
import Derived.Test.YtgjhglehghjoeaaGreatQbW14r
import Derived.Test.YtgjhglehghjoeaaGreatQbW14s
import Derived.Test.YtgjhglehghjoeaaGreatQbW14
import Derived.Test.YtgjhglehghjoeaaGreatQbW26
import Derived.Test.YtgjhglehghjoeaaGreatQbW27
import Derived.Test.YtgjhglehghjoeaaGreatQbKSchemaChecks

namespace Go.Proofs.YtgjhglehghjoeaaGreat
open Go.RowKit Go.Shelf
set_option linter.unusedVariables false

theorem findIdx_map {α β : Type} (f : α → β) (p : β → Bool) (l : List α) : idxB p (l.map f) = idxB (fun x => p (f x)) l := by
  unfold idxB
  rw [List.findIdx?_map]
  rfl

theorem idx_bare (l : List ValR) (N : Int) : idxB (fun v : ValR => v.number == N) l = idxB (fun v : ValT => v.number == N) (l.map bareV) := by
  rw [findIdx_map]
  rfl

theorem valAt_none (W : World) : ValAt W noneV :=
  ⟨⟨by decide, Reads.nil W 1, (fun n h => by cases h), ⟨Reads.nil W 1, (fun n h => by cases h)⟩, Reads.nil W 2⟩, fun y h => by cases h⟩

theorem vals_bare {x y : MsgR} (h : bare x = bare y) : x.vals.map bareV = y.vals.map bareV := by
  rw [bare_eq, bare_eq] at h
  injection h

set_option maxRecDepth 100000 in
set_option maxHeartbeats 4000000 in
theorem treeRight_00 {A : Option Addr} {n c : Nat} {S : List MsgV} {root N : Int} {x y : MsgR} {w : World} (hs : SchemaAt w A n c S) (hx : TreeAt w x) (hy : TreeAt w y) (fx : FitT 1000000000000 x) (gx : LongT 1000000000 x) (fy : FitT 1000000000000 y) (gy : LongT 1000000000 y) (hR : rightS (S.map MsgV.d) = false) (hi : idxB (fun v : ValR => v.number == N) x.vals = -1) :
    Calls Tryz.prog 4 #[.slice A n c, .int .i64 root, treeV x, treeV y, .int .i64 N] w fun e w' => e = .returned (.bool true) ∧ Ext w w' := by
  have hcap := hs.1.cap
  have hxl := fx.vals
  have tx := tSize x
  have ty := tSize y
  have h1 := fun W (h : TreeAt W x) => tx 70 W (by omega) (by omega) h
  have h2 := fun W (h : TreeAt W y) => ty 70 W (by omega) (by omega) h
  clear tx ty
  have h3 := fun W (h : SchemaAt W A n c S) => sRightR h
  rw [hR] at h3
  have h5 := fun W (h : SchemaAt W A n c S) (k : TreeAt W x) => tRightS (root := root) h k fx gx.unkT
  rw [hR] at h5
  simp only [Bool.false_and] at h5
  have h6 := fun W (h : TreeAt W x) => tGet_no (w := W) h hxl hi
  have h7 : ∀ W (z : MsgR), bare z = bare x → TreeAt W z → Calls Tryz.prog 22 #[treeV z, .int .i64 N] W fun e W' => e = .returned (.int .i64 (-1)) ∧ Ext W W' := fun W z hz h => by
    have := rGet (N := N) h
    rwa [idx_bare, vals_bare hz, ← idx_bare, hi] at this
  have h8 := fun W (h : TreeAt W x) (k : TreeAt W y) => tSame x y W h k
  have h9 : ∀ W (z0 z1 : MsgR), bare z0 = bare x → bare z1 = bare y → TreeAt W z0 → TreeAt W z1 → Calls Tryz.prog 25 #[treeV z0, treeV z1] W fun e W' => e = .returned (.bool (eqB (bare x = bare y))) ∧ Ext W W' := fun W z0 z1 e0 e1 h k => by
    have := rSame z0 z1 W h k
    rwa [e0, e1] at this
  have h10 : ∀ W (z0 z1 : MsgR), bare z0 = bare x → bare z1 = bare x → TreeAt W z0 → TreeAt W z1 → Calls Tryz.prog 25 #[treeV z0, treeV z1] W fun e W' => e = .returned (.bool true) ∧ Ext W W' := fun W z0 z1 e0 e1 h k => by
    have := rSame z0 z1 W h k
    rwa [e0, e1, eqB_yes rfl] at this
  have h11 := fun W (h : TreeAt W x) => tDepth x W h
  have h12 : ∀ W (z : MsgR), bare z = bare x → TreeAt W z → Calls Tryz.prog 28 #[treeV z] W fun e W' => e = .returned (.int .i64 (depthI x)) ∧ Ext W W' := fun W z hz h => by
    have := rDepth z W h
    rwa [← depth_bare, hz, depth_bare] at this
  have h13 := fun W (h : TreeAt W x) => tCopy x W h fx
  have h14 : ∀ W (z : MsgR), bare z = bare x → TreeAt W z → Calls Tryz.prog 19 #[treeV z] W fun e W' => ∃ m, e = .returned (treeV m) ∧ bare m = bare x ∧ TreeAt W' m ∧ (∀ b, UsesT m b → UsesT z b ∨ W.heap.size ≤ b) ∧ Ext W W' := fun W z hz h => by
    have := tOf z W h (FitT.of_bare z (by rw [hz]; exact fx.to_bare))
    rwa [hz] at this
  have h15 := fun W (h : TreeAt W y) => tOf y W h fy
  have h16 : ∀ W (u : ValR), (bareV u = bareV noneV) → ValAt W u → Calls Tryz.prog 17 #[tvalV u] W fun e W' => ∃ m, e = .returned (tvalV m) ∧ bareV m = bareV noneV ∧ ValAt W' m ∧ Ext W W' := fun W u hu h => by
    have hsl : u.subs.map bare = noneV.subs.map bare := congrArg (fun v : ValT => v.subs) hu
    have hnil : u.subs = [] := List.map_eq_nil_iff.1 hsl
    have := tOfV (v := u) (fun y _ => tOf y) W h (by rw [hnil]; exact Nat.zero_le _) (fun y hy => by rw [hnil] at hy; cases hy)
    refine this.mono ?_
    rintro e w' ⟨m, rfl, q1, q2, _, q4⟩
    exact ⟨m, rfl, q1.trans hu, q2, q4⟩
  have h17 : ∀ W (u t : ValR), bareV u = bareV t → ValAt W u → ValAt W t → Calls Tryz.prog 26 #[tvalV u, tvalV t] W fun e W' => e = .returned (.bool true) ∧ Ext W W' := fun W u t e h k => by
    have := rsameV h k (fun y hy z hz W2 hW2 => rSame y z W2 ((h.sub y hy).up hW2) ((k.sub z hz).up hW2))
    rwa [e, eqB_yes rfl] at this
  generalize eqB (bare x = bare y) = sq at *
  generalize depthI x = dI at *
  unfold treeV tvalV at *
  dsimp only [noneV, List.length_nil] at h6
  have H1 := Lib.hid h1
  have H2 := Lib.hid h2
  have H3 := Lib.hid h3
  have H5 := Lib.hid h5
  have H6 := Lib.hid h6
  have H7 := Lib.hid h7
  have H8 := Lib.hid h8
  have H9 := Lib.hid h9
  have H10 := Lib.hid h10
  have H11 := Lib.hid h11
  have H12 := Lib.hid h12
  have H13 := Lib.hid h13
  have H14 := Lib.hid h14
  have H15 := Lib.hid h15
  have H16 := Lib.hid h16
  have H17 := Lib.hid h17
  clear h1 h2 h3 h5 h6 h7 h8 h9 h10 h11 h12 h13 h14 h15 h16 h17 hR hi fx gx fy gy hxl
  go_enter Tryz.func4, Tryz.ntmps4
  go_wp2_with fail
  have BX := (BlkT.new w 43 #[.slice x.a.1 x.vals.length x.a.2, .slice x.b.1 x.unk.length x.b.2] rfl).alloc (.cells #[.slice y.a.1 y.vals.length y.a.2, .slice y.b.1 y.unk.length y.b.2] 43)
  have BY := BlkT.new (w.alloc (.cells #[.slice x.a.1 x.vals.length x.a.2, .slice x.b.1 x.unk.length x.b.2] 43)) 43 #[.slice y.a.1 y.vals.length y.a.2, .slice y.b.1 y.unk.length y.b.2] (show w.heap.size + 1 = _ by simp)
  have X0 : Ext w ((w.alloc (.cells #[.slice x.a.1 x.vals.length x.a.2, .slice x.b.1 x.unk.length x.b.2] 43)).alloc (.cells #[.slice y.a.1 y.vals.length y.a.2, .slice y.b.1 y.unk.length y.b.2] 43)) := ((Ext.refl w).alloc _).alloc _
  generalize (w.alloc (.cells #[.slice x.a.1 x.vals.length x.a.2, .slice x.b.1 x.unk.length x.b.2] 43)).alloc (.cells #[.slice y.a.1 y.vals.length y.a.2, .slice y.b.1 y.unk.length y.b.2] 43) = wx at *
  replace hs := hs.up X0
  replace hx := hx.up X0
  replace hy := hy.up X0
  have x0 : wx.cell? ⟨w.heap.size, 0, none⟩ = some (.slice x.a.1 x.vals.length x.a.2) := BX.cell 0
  have x1 : wx.cell? ⟨w.heap.size, 1, none⟩ = some (.slice x.b.1 x.unk.length x.b.2) := BX.cell 1
  have y0 : wx.cell? ⟨w.heap.size + 1, 0, none⟩ = some (.slice y.a.1 y.vals.length y.a.2) := BY.cell 0
  have y1 : wx.cell? ⟨w.heap.size + 1, 1, none⟩ = some (.slice y.b.1 y.unk.length y.b.2) := BY.cell 1
  have lx := BX.lt
  have ly := BY.lt
  have hX := Ext.refl wx
  clear BX BY
  go_wp2_with (first
    | (go_at_call 11; refine (alive14 _).mono ?_; rintro e w1 ⟨rfl, E1⟩; have X_ : Ext wx w1 := Ext.trans (by repeat with_reducible (first | exact Ext.refl _ | refine Ext.alloc ?_ _ | refine Ext.drew ?_ | refine Ext.drewN ?_ _ | refine Ext.setCell ?_ (by first | exact Nat.le_refl _ | omega | (simp; done) | (simp; omega)) _)) E1; replace hX := hX.up X_; replace hs := hs.up X_; replace hx := hx.up X_; replace hy := hy.up X_; replace x0 := X_.of_cell x0; replace x1 := X_.of_cell x1; replace y0 := X_.of_cell y0; replace y1 := X_.of_cell y1; clear X_)
    | (go_at_call 12; refine (few07 hs).mono ?_; rintro e w2 ⟨q, rfl, E2⟩; have X_ : Ext w1 w2 := Ext.trans (by repeat with_reducible (first | exact Ext.refl _ | refine Ext.alloc ?_ _ | refine Ext.drew ?_ | refine Ext.drewN ?_ _ | refine Ext.setCell ?_ (by first | exact Nat.le_refl _ | omega | (simp; done) | (simp; omega)) _)) E2; replace hX := hX.up X_; replace hs := hs.up X_; replace hx := hx.up X_; replace hy := hy.up X_; replace x0 := X_.of_cell x0; replace x1 := X_.of_cell x1; replace y0 := X_.of_cell y0; replace y1 := X_.of_cell y1; clear X_)
    | (go_at_call 18; (with_reducible refine (H1.out w2 hx).mono ?_); rintro e w3 ⟨n1, rfl, E3⟩; have X_ : Ext w2 w3 := Ext.trans (by repeat with_reducible (first | exact Ext.refl _ | refine Ext.alloc ?_ _ | refine Ext.drew ?_ | refine Ext.drewN ?_ _ | refine Ext.setCell ?_ (by first | exact Nat.le_refl _ | omega | (simp; done) | (simp; omega)) _)) E3; replace hX := hX.up X_; replace hs := hs.up X_; replace hx := hx.up X_; replace hy := hy.up X_; replace x0 := X_.of_cell x0; replace x1 := X_.of_cell x1; replace y0 := X_.of_cell y0; replace y1 := X_.of_cell y1; clear X_)
    | (go_at_call 18; (with_reducible refine (H2.out w3 hy).mono ?_); rintro e w4 ⟨n2, rfl, E4⟩; have X_ : Ext w3 w4 := Ext.trans (by repeat with_reducible (first | exact Ext.refl _ | refine Ext.alloc ?_ _ | refine Ext.drew ?_ | refine Ext.drewN ?_ _ | refine Ext.setCell ?_ (by first | exact Nat.le_refl _ | omega | (simp; done) | (simp; omega)) _)) E4; replace hX := hX.up X_; replace hs := hs.up X_; replace hx := hx.up X_; replace hy := hy.up X_; replace x0 := X_.of_cell x0; replace x1 := X_.of_cell x1; replace y0 := X_.of_cell y0; replace y1 := X_.of_cell y1; clear X_))
  all_goals try (go_ret; exact ⟨rfl, X0.trans hX⟩)
  replace lx := Nat.lt_of_lt_of_le lx hX.size
  replace ly := Nat.lt_of_lt_of_le ly hX.size
  have Hof0 : Hid (∀ W, Ext w4 W → Calls Tryz.prog 19 #[.agg #[.slice x.a.1 x.vals.length x.a.2, .slice x.b.1 x.unk.length x.b.2]] W fun e W' => ∃ z, e = .returned (treeV z) ∧ bare z = bare x ∧ TreeAt W' z ∧ (∀ b, UsesT z b → b < w4.heap.size ∨ W.heap.size ≤ b) ∧ Ext W W') := fun W h => by
    refine (H14.out W x rfl (hx.up h)).mono ?_
    rintro e w' ⟨m, rfl, q1, q2, q3, q4⟩
    exact ⟨m, rfl, q1, q2, fun b hb => (q3 b hb).imp (fun h => hx.lt h) id, q4⟩
  have Hof1 : Hid (∀ W, Ext w4 W → Calls Tryz.prog 19 #[.agg #[.slice y.a.1 y.vals.length y.a.2, .slice y.b.1 y.unk.length y.b.2]] W fun e W' => ∃ z, e = .returned (treeV z) ∧ bare z = bare y ∧ TreeAt W' z ∧ (∀ b, UsesT z b → b < w4.heap.size ∨ W.heap.size ≤ b) ∧ Ext W W') := fun W h => by
    refine (H15.out W (hy.up h)).mono ?_
    rintro e w' ⟨m, rfl, q1, q2, q3, q4⟩
    exact ⟨m, rfl, q1, q2, fun b hb => (q3 b hb).imp (fun h => hy.lt h) id, q4⟩
  refine calm (fun _ _ _ hd h => ⟨hd, h.2⟩) (treg5 (P0 := fun z => bare z = bare x) (P1 := fun z => bare z = bare y) x0 x1 y0 y1 Hof0 Hof1 ?_)
  intro v33 v34 v35 v36 z0 z1 k0 k1 w5 X5 p0 a0 g0 _ _ p1 a1 g1 _ _ _ _ _ _
  have P0 := Lib.hid p0
  have P1 := Lib.hid p1
  clear p0 p1 Hof0 Hof1 H1 H2
  replace hX := hX.trans X5
  replace hs := hs.up X5
  replace hx := hx.up X5
  replace hy := hy.up X5
  replace x0 := X5.of_cell x0
  replace x1 := X5.of_cell x1
  replace y0 := X5.of_cell y0
  replace y1 := X5.of_cell y1
  replace lx := Nat.lt_of_lt_of_le lx X5.size
  replace ly := Nat.lt_of_lt_of_le ly X5.size
  have c0 : w5.cell? ⟨k0, 0, none⟩ = some (.slice z0.a.1 z0.vals.length z0.a.2) := g0.cell 0
  have c1 : w5.cell? ⟨k0, 1, none⟩ = some (.slice z0.b.1 z0.unk.length z0.b.2) := g0.cell 1
  have d0 : w5.cell? ⟨k1, 0, none⟩ = some (.slice z1.a.1 z1.vals.length z1.a.2) := g1.cell 0
  have d1 : w5.cell? ⟨k1, 1, none⟩ = some (.slice z1.b.1 z1.unk.length z1.b.2) := g1.cell 1
  have lc := g0.lt
  have ld := g1.lt
  clear g0 g1 X5
  unfold treeV at *
  have G5 := Ext.refl w5
  go_wp2_with (first
    | (go_at_call 13; refine (H3.out _ hs).mono ?_; rintro e w6 ⟨rfl, E6⟩; have X_ : Ext w5 w6 := Ext.trans (by repeat with_reducible (first | exact Ext.refl _ | refine Ext.alloc ?_ _ | refine Ext.drew ?_ | refine Ext.drewN ?_ _ | refine Ext.setCell ?_ (by first | exact Nat.le_refl _ | omega | (simp; done) | (simp; omega)) _)) E6; replace hX := hX.up X_; replace hs := hs.up X_; replace hx := hx.up X_; replace hy := hy.up X_; replace a0 := a0.up X_; replace a1 := a1.up X_; replace G5 := G5.up X_; replace x0 := X_.of_cell x0; replace x1 := X_.of_cell x1; replace y0 := X_.of_cell y0; replace y1 := X_.of_cell y1; replace c0 := X_.of_cell c0; replace c1 := X_.of_cell c1; replace d0 := X_.of_cell d0; replace d1 := X_.of_cell d1; clear X_)
    | (go_at_call 21; refine (H6.out _ hx).mono ?_; rintro e w8 ⟨rfl, E8⟩; have X_ : Ext w6 w8 := Ext.trans (by repeat with_reducible (first | exact Ext.refl _ | refine Ext.alloc ?_ _ | refine Ext.drew ?_ | refine Ext.drewN ?_ _ | refine Ext.setCell ?_ (by first | exact Nat.le_refl _ | omega | (simp; done) | (simp; omega)) _)) E8; replace hX := hX.up X_; replace hs := hs.up X_; replace hx := hx.up X_; replace hy := hy.up X_; replace a0 := a0.up X_; replace a1 := a1.up X_; replace G5 := G5.up X_; replace x0 := X_.of_cell x0; replace x1 := X_.of_cell x1; replace y0 := X_.of_cell y0; replace y1 := X_.of_cell y1; replace c0 := X_.of_cell c0; replace c1 := X_.of_cell c1; replace d0 := X_.of_cell d0; replace d1 := X_.of_cell d1; clear X_; replace lx := Nat.lt_of_lt_of_le lx G5.size;  replace ly := Nat.lt_of_lt_of_le ly G5.size;  replace lc := Nat.lt_of_lt_of_le lc G5.size;  replace ld := Nat.lt_of_lt_of_le ld G5.size))
  have B14 := BlkT.new w8 30 #[.int .i64 0, .slice none 0 0, .slice none 0 0, .slice none 0 0] rfl
  have X9 : Ext w8 (w8.alloc (.cells #[.int .i64 0, .slice none 0 0, .slice none 0 0, .slice none 0 0] 30)) := (Ext.refl w8).alloc _
  generalize w8.alloc (.cells #[.int .i64 0, .slice none 0 0, .slice none 0 0, .slice none 0 0] 30) = w9 at *
  refine (H7.out _ z0 P0.out (a0.up X9)).mono ?_
  rintro e w10 ⟨rfl, E10⟩
  have Y := X9.trans E10
  replace x0 := Y.of_cell x0
  replace x1 := Y.of_cell x1
  replace y0 := Y.of_cell y0
  replace y1 := Y.of_cell y1
  replace c0 := Y.of_cell c0
  replace c1 := Y.of_cell c1
  replace d0 := Y.of_cell d0
  replace d1 := Y.of_cell d1
  replace lx := Nat.lt_of_lt_of_le lx Y.size
  replace ly := Nat.lt_of_lt_of_le ly Y.size
  replace lc := Nat.lt_of_lt_of_le lc Y.size
  replace ld := Nat.lt_of_lt_of_le ld Y.size
  replace hX := hX.trans Y
  replace hs := hs.up Y
  replace hx := hx.up Y
  replace hy := hy.up Y
  replace a0 := a0.up Y
  replace a1 := a1.up Y
  generalize w8.heap.size = kv at *
  replace B14 := B14.up E10
  have r0 : w10.cell? ⟨kv, 0, none⟩ = some (.int .i64 0) := B14.cell 0
  have r1 : w10.cell? ⟨kv, 1, none⟩ = some (.slice none 0 0) := B14.cell 1
  have r2 : w10.cell? ⟨kv, 2, none⟩ = some (.slice none 0 0) := B14.cell 2
  have r3 : w10.cell? ⟨kv, 3, none⟩ = some (.slice none 0 0) := B14.cell 3
  have lv := B14.lt
  clear B14 X9 E10 Y G5
  go_wp2
  have B17 := BlkT.new w10 38 #[.int .i64 0, .slice none 0 0, .slice none 0 0, .slice none 0 0] rfl
  have Z := (Ext.refl w10).alloc (.cells #[.int .i64 0, .slice none 0 0, .slice none 0 0, .slice none 0 0] 38)
  generalize w10.alloc (.cells #[.int .i64 0, .slice none 0 0, .slice none 0 0, .slice none 0 0] 38) = w11 at *
  replace x0 := Z.of_cell x0
  replace x1 := Z.of_cell x1
  replace y0 := Z.of_cell y0
  replace y1 := Z.of_cell y1
  replace c0 := Z.of_cell c0
  replace c1 := Z.of_cell c1
  replace d0 := Z.of_cell d0
  replace d1 := Z.of_cell d1
  replace r0 := Z.of_cell r0
  replace r1 := Z.of_cell r1
  replace r2 := Z.of_cell r2
  replace r3 := Z.of_cell r3
  replace lx := Nat.lt_of_lt_of_le lx Z.size
  replace ly := Nat.lt_of_lt_of_le ly Z.size
  replace lc := Nat.lt_of_lt_of_le lc Z.size
  replace ld := Nat.lt_of_lt_of_le ld Z.size
  replace lv := Nat.lt_of_lt_of_le lv Z.size
  replace hs := hs.up Z
  replace hx := hx.up Z
  replace hy := hy.up Z
  replace a0 := a0.up Z
  replace a1 := a1.up Z
  replace hX := hX.trans Z
  have t0 : w11.cell? ⟨w10.heap.size, 0, none⟩ = some (.int .i64 0) := B17.cell 0
  have t1 : w11.cell? ⟨w10.heap.size, 1, none⟩ = some (.slice none 0 0) := B17.cell 1
  have t2 : w11.cell? ⟨w10.heap.size, 2, none⟩ = some (.slice none 0 0) := B17.cell 2
  have t3 : w11.cell? ⟨w10.heap.size, 3, none⟩ = some (.slice none 0 0) := B17.cell 3
  have lt := B17.lt
  refine calm (fun _ _ _ hd h => ⟨hd, h.2⟩) (treg12 (x := x) (y := y) (z0 := z0) (z1 := z1) (u := noneV) (t := noneV) (rq := false) (sq := sq) (dI := dI) (ok := false) (P4 := fun m => bareV m = bareV noneV) (P8 := fun m => bare m = bare x) (P9 := fun m => bare m = bare x) x0 x1 y0 y1 c0 c1 d0 d1 r0 r1 r2 r3 t0 t1 t2 t3 lx ly lc ld lv lt (by decide)
    (Lib.hid fun W h => H5.out W (hs.up h) (hx.up h)) (Lib.hid fun W h => H8.out W (hx.up h) (hy.up h)) (Lib.hid fun W h => H9.out W z0 z1 P0.out P1.out (a0.up h) (a1.up h))
    (Lib.hid fun W h => H16.out W noneV rfl (valAt_none W)) (Lib.hid fun W m h p k => H17.out W m noneV p k (valAt_none W))
    (Lib.hid fun W h => H11.out W (hx.up h)) (Lib.hid fun W h => H12.out W z0 P0.out (a0.up h))
    (Lib.hid fun W h => (H13.out W (hx.up h)).mono (fun e w' ⟨m, q0, q1, q2, _, q4⟩ => ⟨m, q0, q1, q2, q4⟩))
    (Lib.hid fun W m h p k => (H14.out W m p k).mono (fun e w' ⟨m, q0, q1, q2, _, q4⟩ => ⟨m, q0, q1, q2, q4⟩))
    (Lib.hid fun W m h p k => H10.out W m z0 p P0.out k (a0.up h)) ?_)
  intro s62 s63 s64 s65 s66 s67 s68 s69 s70 s71 s72 s73 s74 s75 s76 s77 s78 s79 s80 s81 s82 s83 s84 s85 s86 s87 s88 s89 s90 s91 s92 s93 s94 s95 s96 s97 s98 s99 s100 s101 s102 wz Xz
  go_wp2
  go_ret
  exact ⟨rfl, X0.trans (hX.trans (Ext.trans Xz (by repeat with_reducible (first | exact Ext.refl _ | refine Ext.alloc ?_ _ | refine Ext.drew ?_ | refine Ext.drewN ?_ _ | refine Ext.setCell ?_ (by first | exact Nat.le_refl _ | omega | (simp; done) | (simp; omega)) _))))⟩

set_option maxRecDepth 100000 in
set_option maxHeartbeats 4000000 in
theorem treeRight_01 {A : Option Addr} {n c : Nat} {S : List MsgV} {root N : Int} {x y : MsgR} {w : World} {k : Nat} {v : ValR} (hs : SchemaAt w A n c S) (hx : TreeAt w x) (hy : TreeAt w y) (fx : FitT 1000000000000 x) (gx : LongT 1000000000 x) (fy : FitT 1000000000000 y) (gy : LongT 1000000000 y) (hR : rightS (S.map MsgV.d) = false) (hi : idxB (fun v : ValR => v.number == N) x.vals = (k : Int)) (hv : x.vals[k]? = some v) :
    Calls Tryz.prog 4 #[.slice A n c, .int .i64 root, treeV x, treeV y, .int .i64 N] w fun e w' => e = .returned (.bool true) ∧ Ext w w' := by
  have hkx : k < x.vals.length := (List.getElem?_eq_some_iff.1 hv).1
  have hcap := hs.1.cap
  have hxl := fx.vals
  have tx := tSize x
  have ty := tSize y
  have h1 := fun W (h : TreeAt W x) => tx 70 W (by omega) (by omega) h
  have h2 := fun W (h : TreeAt W y) => ty 70 W (by omega) (by omega) h
  clear tx ty
  have h3 := fun W (h : SchemaAt W A n c S) => sRightR h
  rw [hR] at h3
  have h5 := fun W (h : SchemaAt W A n c S) (k : TreeAt W x) => tRightS (root := root) h k fx gx.unkT
  rw [hR] at h5
  simp only [Bool.false_and] at h5
  have h6 := fun W (h : TreeAt W x) => tGet_yes (w := W) h fx hi hv
  have h7 : ∀ W (z : MsgR), bare z = bare x → TreeAt W z → Calls Tryz.prog 22 #[treeV z, .int .i64 N] W fun e W' => e = .returned (.int .i64 (k : Int)) ∧ Ext W W' := fun W z hz h => by
    have := rGet (N := N) h
    rwa [idx_bare, vals_bare hz, ← idx_bare, hi] at this
  have h8 := fun W (h : TreeAt W x) (k : TreeAt W y) => tSame x y W h k
  have h9 : ∀ W (z0 z1 : MsgR), bare z0 = bare x → bare z1 = bare y → TreeAt W z0 → TreeAt W z1 → Calls Tryz.prog 25 #[treeV z0, treeV z1] W fun e W' => e = .returned (.bool (eqB (bare x = bare y))) ∧ Ext W W' := fun W z0 z1 e0 e1 h k => by
    have := rSame z0 z1 W h k
    rwa [e0, e1] at this
  have h10 : ∀ W (z0 z1 : MsgR), bare z0 = bare x → bare z1 = bare x → TreeAt W z0 → TreeAt W z1 → Calls Tryz.prog 25 #[treeV z0, treeV z1] W fun e W' => e = .returned (.bool true) ∧ Ext W W' := fun W z0 z1 e0 e1 h k => by
    have := rSame z0 z1 W h k
    rwa [e0, e1, eqB_yes rfl] at this
  have h11 := fun W (h : TreeAt W x) => tDepth x W h
  have h12 : ∀ W (z : MsgR), bare z = bare x → TreeAt W z → Calls Tryz.prog 28 #[treeV z] W fun e W' => e = .returned (.int .i64 (depthI x)) ∧ Ext W W' := fun W z hz h => by
    have := rDepth z W h
    rwa [← depth_bare, hz, depth_bare] at this
  have h13 := fun W (h : TreeAt W x) => tCopy x W h fx
  have h14 : ∀ W (z : MsgR), bare z = bare x → TreeAt W z → Calls Tryz.prog 19 #[treeV z] W fun e W' => ∃ m, e = .returned (treeV m) ∧ bare m = bare x ∧ TreeAt W' m ∧ (∀ b, UsesT m b → UsesT z b ∨ W.heap.size ≤ b) ∧ Ext W W' := fun W z hz h => by
    have := tOf z W h (FitT.of_bare z (by rw [hz]; exact fx.to_bare))
    rwa [hz] at this
  have h15 := fun W (h : TreeAt W y) => tOf y W h fy
  have h16 : ∀ W (u : ValR), (bareV u = bareV v) → ValAt W u → Calls Tryz.prog 17 #[tvalV u] W fun e W' => ∃ m, e = .returned (tvalV m) ∧ bareV m = bareV v ∧ ValAt W' m ∧ Ext W W' := fun W u hu h => by
    have hsl : u.subs.map bare = v.subs.map bare := congrArg (fun v : ValT => v.subs) hu
    have l1 := congrArg List.length hsl
    rw [List.length_map, List.length_map] at l1
    have l2 := (fx.each v (List.mem_of_getElem? hv)).2.2
    have := tOfV (v := u) (fun y _ => tOf y) W h (by omega) (fun y hy => by
      obtain ⟨z, hz, hzy⟩ := List.mem_map.1 (show bare y ∈ v.subs.map bare by rw [← hsl]; exact List.mem_map_of_mem hy)
      exact FitT.of_bare y (by rw [← hzy]; exact (fx.sub v (List.mem_of_getElem? hv) z hz).to_bare))
    refine this.mono ?_
    rintro e w' ⟨m, rfl, q1, q2, _, q4⟩
    exact ⟨m, rfl, q1.trans hu, q2, q4⟩
  have h17 : ∀ W (u t : ValR), bareV u = bareV t → ValAt W u → ValAt W t → Calls Tryz.prog 26 #[tvalV u, tvalV t] W fun e W' => e = .returned (.bool true) ∧ Ext W W' := fun W u t e h k => by
    have := rsameV h k (fun y hy z hz W2 hW2 => rSame y z W2 ((h.sub y hy).up hW2) ((k.sub z hz).up hW2))
    rwa [e, eqB_yes rfl] at this
  generalize eqB (bare x = bare y) = sq at *
  generalize depthI x = dI at *
  unfold treeV tvalV at *
  have H1 := Lib.hid h1
  have H2 := Lib.hid h2
  have H3 := Lib.hid h3
  have H5 := Lib.hid h5
  have H6 := Lib.hid h6
  have H7 := Lib.hid h7
  have H8 := Lib.hid h8
  have H9 := Lib.hid h9
  have H10 := Lib.hid h10
  have H11 := Lib.hid h11
  have H12 := Lib.hid h12
  have H13 := Lib.hid h13
  have H14 := Lib.hid h14
  have H15 := Lib.hid h15
  have H16 := Lib.hid h16
  have H17 := Lib.hid h17
  clear h1 h2 h3 h5 h6 h7 h8 h9 h10 h11 h12 h13 h14 h15 h16 h17 hR hi fx gx fy gy hxl
  have Hv := Lib.hid hv
  clear hv
  go_enter Tryz.func4, Tryz.ntmps4
  go_wp2_with fail
  have BX := (BlkT.new w 43 #[.slice x.a.1 x.vals.length x.a.2, .slice x.b.1 x.unk.length x.b.2] rfl).alloc (.cells #[.slice y.a.1 y.vals.length y.a.2, .slice y.b.1 y.unk.length y.b.2] 43)
  have BY := BlkT.new (w.alloc (.cells #[.slice x.a.1 x.vals.length x.a.2, .slice x.b.1 x.unk.length x.b.2] 43)) 43 #[.slice y.a.1 y.vals.length y.a.2, .slice y.b.1 y.unk.length y.b.2] (show w.heap.size + 1 = _ by simp)
  have X0 : Ext w ((w.alloc (.cells #[.slice x.a.1 x.vals.length x.a.2, .slice x.b.1 x.unk.length x.b.2] 43)).alloc (.cells #[.slice y.a.1 y.vals.length y.a.2, .slice y.b.1 y.unk.length y.b.2] 43)) := ((Ext.refl w).alloc _).alloc _
  generalize (w.alloc (.cells #[.slice x.a.1 x.vals.length x.a.2, .slice x.b.1 x.unk.length x.b.2] 43)).alloc (.cells #[.slice y.a.1 y.vals.length y.a.2, .slice y.b.1 y.unk.length y.b.2] 43) = wx at *
  replace hs := hs.up X0
  replace hx := hx.up X0
  replace hy := hy.up X0
  have x0 : wx.cell? ⟨w.heap.size, 0, none⟩ = some (.slice x.a.1 x.vals.length x.a.2) := BX.cell 0
  have x1 : wx.cell? ⟨w.heap.size, 1, none⟩ = some (.slice x.b.1 x.unk.length x.b.2) := BX.cell 1
  have y0 : wx.cell? ⟨w.heap.size + 1, 0, none⟩ = some (.slice y.a.1 y.vals.length y.a.2) := BY.cell 0
  have y1 : wx.cell? ⟨w.heap.size + 1, 1, none⟩ = some (.slice y.b.1 y.unk.length y.b.2) := BY.cell 1
  have lx := BX.lt
  have ly := BY.lt
  have hX := Ext.refl wx
  clear BX BY
  go_wp2_with (first
    | (go_at_call 11; refine (alive14 _).mono ?_; rintro e w1 ⟨rfl, E1⟩; have X_ : Ext wx w1 := Ext.trans (by repeat with_reducible (first | exact Ext.refl _ | refine Ext.alloc ?_ _ | refine Ext.drew ?_ | refine Ext.drewN ?_ _ | refine Ext.setCell ?_ (by first | exact Nat.le_refl _ | omega | (simp; done) | (simp; omega)) _)) E1; replace hX := hX.up X_; replace hs := hs.up X_; replace hx := hx.up X_; replace hy := hy.up X_; replace x0 := X_.of_cell x0; replace x1 := X_.of_cell x1; replace y0 := X_.of_cell y0; replace y1 := X_.of_cell y1; clear X_)
    | (go_at_call 12; refine (few07 hs).mono ?_; rintro e w2 ⟨q, rfl, E2⟩; have X_ : Ext w1 w2 := Ext.trans (by repeat with_reducible (first | exact Ext.refl _ | refine Ext.alloc ?_ _ | refine Ext.drew ?_ | refine Ext.drewN ?_ _ | refine Ext.setCell ?_ (by first | exact Nat.le_refl _ | omega | (simp; done) | (simp; omega)) _)) E2; replace hX := hX.up X_; replace hs := hs.up X_; replace hx := hx.up X_; replace hy := hy.up X_; replace x0 := X_.of_cell x0; replace x1 := X_.of_cell x1; replace y0 := X_.of_cell y0; replace y1 := X_.of_cell y1; clear X_)
    | (go_at_call 18; (with_reducible refine (H1.out w2 hx).mono ?_); rintro e w3 ⟨n1, rfl, E3⟩; have X_ : Ext w2 w3 := Ext.trans (by repeat with_reducible (first | exact Ext.refl _ | refine Ext.alloc ?_ _ | refine Ext.drew ?_ | refine Ext.drewN ?_ _ | refine Ext.setCell ?_ (by first | exact Nat.le_refl _ | omega | (simp; done) | (simp; omega)) _)) E3; replace hX := hX.up X_; replace hs := hs.up X_; replace hx := hx.up X_; replace hy := hy.up X_; replace x0 := X_.of_cell x0; replace x1 := X_.of_cell x1; replace y0 := X_.of_cell y0; replace y1 := X_.of_cell y1; clear X_)
    | (go_at_call 18; (with_reducible refine (H2.out w3 hy).mono ?_); rintro e w4 ⟨n2, rfl, E4⟩; have X_ : Ext w3 w4 := Ext.trans (by repeat with_reducible (first | exact Ext.refl _ | refine Ext.alloc ?_ _ | refine Ext.drew ?_ | refine Ext.drewN ?_ _ | refine Ext.setCell ?_ (by first | exact Nat.le_refl _ | omega | (simp; done) | (simp; omega)) _)) E4; replace hX := hX.up X_; replace hs := hs.up X_; replace hx := hx.up X_; replace hy := hy.up X_; replace x0 := X_.of_cell x0; replace x1 := X_.of_cell x1; replace y0 := X_.of_cell y0; replace y1 := X_.of_cell y1; clear X_))
  all_goals try (go_ret; exact ⟨rfl, X0.trans hX⟩)
  replace lx := Nat.lt_of_lt_of_le lx hX.size
  replace ly := Nat.lt_of_lt_of_le ly hX.size
  have Hof0 : Hid (∀ W, Ext w4 W → Calls Tryz.prog 19 #[.agg #[.slice x.a.1 x.vals.length x.a.2, .slice x.b.1 x.unk.length x.b.2]] W fun e W' => ∃ z, e = .returned (treeV z) ∧ bare z = bare x ∧ TreeAt W' z ∧ (∀ b, UsesT z b → b < w4.heap.size ∨ W.heap.size ≤ b) ∧ Ext W W') := fun W h => by
    refine (H14.out W x rfl (hx.up h)).mono ?_
    rintro e w' ⟨m, rfl, q1, q2, q3, q4⟩
    exact ⟨m, rfl, q1, q2, fun b hb => (q3 b hb).imp (fun h => hx.lt h) id, q4⟩
  have Hof1 : Hid (∀ W, Ext w4 W → Calls Tryz.prog 19 #[.agg #[.slice y.a.1 y.vals.length y.a.2, .slice y.b.1 y.unk.length y.b.2]] W fun e W' => ∃ z, e = .returned (treeV z) ∧ bare z = bare y ∧ TreeAt W' z ∧ (∀ b, UsesT z b → b < w4.heap.size ∨ W.heap.size ≤ b) ∧ Ext W W') := fun W h => by
    refine (H15.out W (hy.up h)).mono ?_
    rintro e w' ⟨m, rfl, q1, q2, q3, q4⟩
    exact ⟨m, rfl, q1, q2, fun b hb => (q3 b hb).imp (fun h => hy.lt h) id, q4⟩
  refine calm (fun _ _ _ hd h => ⟨hd, h.2⟩) (treg5 (P0 := fun z => bare z = bare x) (P1 := fun z => bare z = bare y) x0 x1 y0 y1 Hof0 Hof1 ?_)
  intro v33 v34 v35 v36 z0 z1 k0 k1 w5 X5 p0 a0 g0 _ _ p1 a1 g1 _ _ _ _ _ _
  have P0 := Lib.hid p0
  have P1 := Lib.hid p1
  clear p0 p1 Hof0 Hof1 H1 H2
  replace hX := hX.trans X5
  replace hs := hs.up X5
  replace hx := hx.up X5
  replace hy := hy.up X5
  replace x0 := X5.of_cell x0
  replace x1 := X5.of_cell x1
  replace y0 := X5.of_cell y0
  replace y1 := X5.of_cell y1
  replace lx := Nat.lt_of_lt_of_le lx X5.size
  replace ly := Nat.lt_of_lt_of_le ly X5.size
  have c0 : w5.cell? ⟨k0, 0, none⟩ = some (.slice z0.a.1 z0.vals.length z0.a.2) := g0.cell 0
  have c1 : w5.cell? ⟨k0, 1, none⟩ = some (.slice z0.b.1 z0.unk.length z0.b.2) := g0.cell 1
  have d0 : w5.cell? ⟨k1, 0, none⟩ = some (.slice z1.a.1 z1.vals.length z1.a.2) := g1.cell 0
  have d1 : w5.cell? ⟨k1, 1, none⟩ = some (.slice z1.b.1 z1.unk.length z1.b.2) := g1.cell 1
  have lc := g0.lt
  have ld := g1.lt
  clear g0 g1 X5
  unfold treeV at *
  have G5 := Ext.refl w5
  go_wp2_with (first
    | (go_at_call 13; refine (H3.out _ hs).mono ?_; rintro e w6 ⟨rfl, E6⟩; have X_ : Ext w5 w6 := Ext.trans (by repeat with_reducible (first | exact Ext.refl _ | refine Ext.alloc ?_ _ | refine Ext.drew ?_ | refine Ext.drewN ?_ _ | refine Ext.setCell ?_ (by first | exact Nat.le_refl _ | omega | (simp; done) | (simp; omega)) _)) E6; replace hX := hX.up X_; replace hs := hs.up X_; replace hx := hx.up X_; replace hy := hy.up X_; replace a0 := a0.up X_; replace a1 := a1.up X_; replace G5 := G5.up X_; replace x0 := X_.of_cell x0; replace x1 := X_.of_cell x1; replace y0 := X_.of_cell y0; replace y1 := X_.of_cell y1; replace c0 := X_.of_cell c0; replace c1 := X_.of_cell c1; replace d0 := X_.of_cell d0; replace d1 := X_.of_cell d1; clear X_)
    | (go_at_call 21; refine (H6.out _ hx).mono ?_; rintro e w8 ⟨u, rfl, u1, u2, _, E8⟩; have X_ : Ext w6 w8 := Ext.trans (by repeat with_reducible (first | exact Ext.refl _ | refine Ext.alloc ?_ _ | refine Ext.drew ?_ | refine Ext.drewN ?_ _ | refine Ext.setCell ?_ (by first | exact Nat.le_refl _ | omega | (simp; done) | (simp; omega)) _)) E8; replace hX := hX.up X_; replace hs := hs.up X_; replace hx := hx.up X_; replace hy := hy.up X_; replace a0 := a0.up X_; replace a1 := a1.up X_; replace G5 := G5.up X_; replace x0 := X_.of_cell x0; replace x1 := X_.of_cell x1; replace y0 := X_.of_cell y0; replace y1 := X_.of_cell y1; replace c0 := X_.of_cell c0; replace c1 := X_.of_cell c1; replace d0 := X_.of_cell d0; replace d1 := X_.of_cell d1; clear X_; replace u1 := Lib.hid u1;  replace lx := Nat.lt_of_lt_of_le lx G5.size;  replace ly := Nat.lt_of_lt_of_le ly G5.size;  replace lc := Nat.lt_of_lt_of_le lc G5.size;  replace ld := Nat.lt_of_lt_of_le ld G5.size))
  have B14 := BlkT.new w8 30 #[.int .i64 u.number, .slice u.a.1 u.words.length u.a.2, .slice u.b.1 u.texts.length u.b.2, .slice u.c.1 u.subs.length u.c.2] rfl
  have X9 : Ext w8 (w8.alloc (.cells #[.int .i64 u.number, .slice u.a.1 u.words.length u.a.2, .slice u.b.1 u.texts.length u.b.2, .slice u.c.1 u.subs.length u.c.2] 30)) := (Ext.refl w8).alloc _
  generalize w8.alloc (.cells #[.int .i64 u.number, .slice u.a.1 u.words.length u.a.2, .slice u.b.1 u.texts.length u.b.2, .slice u.c.1 u.subs.length u.c.2] 30) = w9 at *
  refine (H7.out _ z0 P0.out (a0.up X9)).mono ?_
  rintro e w10 ⟨rfl, E10⟩
  have Y := X9.trans E10
  replace x0 := Y.of_cell x0
  replace x1 := Y.of_cell x1
  replace y0 := Y.of_cell y0
  replace y1 := Y.of_cell y1
  replace c0 := Y.of_cell c0
  replace c1 := Y.of_cell c1
  replace d0 := Y.of_cell d0
  replace d1 := Y.of_cell d1
  replace lx := Nat.lt_of_lt_of_le lx Y.size
  replace ly := Nat.lt_of_lt_of_le ly Y.size
  replace lc := Nat.lt_of_lt_of_le lc Y.size
  replace ld := Nat.lt_of_lt_of_le ld Y.size
  replace hX := hX.trans Y
  replace hs := hs.up Y
  replace hx := hx.up Y
  replace hy := hy.up Y
  replace a0 := a0.up Y
  replace a1 := a1.up Y
  replace u2 := u2.up Y
  generalize w8.heap.size = kv at *
  replace B14 := B14.up E10
  have r0 : w10.cell? ⟨kv, 0, none⟩ = some (.int .i64 u.number) := B14.cell 0
  have r1 : w10.cell? ⟨kv, 1, none⟩ = some (.slice u.a.1 u.words.length u.a.2) := B14.cell 1
  have r2 : w10.cell? ⟨kv, 2, none⟩ = some (.slice u.b.1 u.texts.length u.b.2) := B14.cell 2
  have r3 : w10.cell? ⟨kv, 3, none⟩ = some (.slice u.c.1 u.subs.length u.c.2) := B14.cell 3
  have lv := B14.lt
  have hkz : k < z0.vals.length := by
    have := congrArg List.length (vals_bare P0.out)
    simp only [List.length_map] at this
    omega
  obtain ⟨b6, off6, t, hA6, ht, hb6, e0, e1, e2, e3⟩ := valCells a0.vals hkz
  have ht2 : bareV t = bareV v := by
    have h1 := congrArg (·[k]?) (vals_bare P0.out)
    simp only [List.getElem?_map, ht, Hv.out, Option.map_some] at h1
    injection h1
  have at_ := a0.val (List.mem_of_getElem? ht)
  have c0k := c0
  rw [hA6] at c0
  have HA6 := Lib.hid hA6
  have Ht := Lib.hid ht
  have Ht2 := Lib.hid ht2
  have Hc0 := Lib.hid c0k
  have kI : (k : Int) < z0.vals.length := by omega
  have k0I : ¬ ((k : Int) < 0) := by omega
  have k0J : (0 : Int) ≤ (k : Int) := by omega
  clear hA6 ht ht2 c0k
  clear B14 X9 E10 Y G5
  go_wp2
  have B17 := BlkT.new w10 38 #[.int .i64 t.number, .slice t.a.1 t.words.length t.a.2, .slice t.b.1 t.texts.length t.b.2, .slice t.c.1 t.subs.length t.c.2] rfl
  have Z := (Ext.refl w10).alloc (.cells #[.int .i64 t.number, .slice t.a.1 t.words.length t.a.2, .slice t.b.1 t.texts.length t.b.2, .slice t.c.1 t.subs.length t.c.2] 38)
  generalize w10.alloc (.cells #[.int .i64 t.number, .slice t.a.1 t.words.length t.a.2, .slice t.b.1 t.texts.length t.b.2, .slice t.c.1 t.subs.length t.c.2] 38) = w11 at *
  replace c0 := Hc0.out
  replace x0 := Z.of_cell x0
  replace x1 := Z.of_cell x1
  replace y0 := Z.of_cell y0
  replace y1 := Z.of_cell y1
  replace c0 := Z.of_cell c0
  replace c1 := Z.of_cell c1
  replace d0 := Z.of_cell d0
  replace d1 := Z.of_cell d1
  replace r0 := Z.of_cell r0
  replace r1 := Z.of_cell r1
  replace r2 := Z.of_cell r2
  replace r3 := Z.of_cell r3
  replace lx := Nat.lt_of_lt_of_le lx Z.size
  replace ly := Nat.lt_of_lt_of_le ly Z.size
  replace lc := Nat.lt_of_lt_of_le lc Z.size
  replace ld := Nat.lt_of_lt_of_le ld Z.size
  replace lv := Nat.lt_of_lt_of_le lv Z.size
  replace hs := hs.up Z
  replace hx := hx.up Z
  replace hy := hy.up Z
  replace a0 := a0.up Z
  replace a1 := a1.up Z
  replace hX := hX.trans Z
  replace u2 := u2.up Z
  replace at_ := at_.up Z
  have t0 : w11.cell? ⟨w10.heap.size, 0, none⟩ = some (.int .i64 t.number) := B17.cell 0
  have t1 : w11.cell? ⟨w10.heap.size, 1, none⟩ = some (.slice t.a.1 t.words.length t.a.2) := B17.cell 1
  have t2 : w11.cell? ⟨w10.heap.size, 2, none⟩ = some (.slice t.b.1 t.texts.length t.b.2) := B17.cell 2
  have t3 : w11.cell? ⟨w10.heap.size, 3, none⟩ = some (.slice t.c.1 t.subs.length t.c.2) := B17.cell 3
  have lt := B17.lt
  refine calm (fun _ _ _ hd h => ⟨hd, h.2⟩) (treg12 (x := x) (y := y) (z0 := z0) (z1 := z1) (u := u) (t := t) (rq := false) (sq := sq) (dI := dI) (ok := true) (P4 := fun m => bareV m = bareV v) (P8 := fun m => bare m = bare x) (P9 := fun m => bare m = bare x) x0 x1 y0 y1 c0 c1 d0 d1 r0 r1 r2 r3 t0 t1 t2 t3 lx ly lc ld lv lt (decide_eq_true k0J)
    (Lib.hid fun W h => H5.out W (hs.up h) (hx.up h)) (Lib.hid fun W h => H8.out W (hx.up h) (hy.up h)) (Lib.hid fun W h => H9.out W z0 z1 P0.out P1.out (a0.up h) (a1.up h))
    (Lib.hid fun W h => H16.out W u u1.out (u2.up h)) (Lib.hid fun W m h p k => H17.out W m t (p.trans Ht2.out.symm) k (at_.up h))
    (Lib.hid fun W h => H11.out W (hx.up h)) (Lib.hid fun W h => H12.out W z0 P0.out (a0.up h))
    (Lib.hid fun W h => (H13.out W (hx.up h)).mono (fun e w' ⟨m, q0, q1, q2, _, q4⟩ => ⟨m, q0, q1, q2, q4⟩))
    (Lib.hid fun W m h p k => (H14.out W m p k).mono (fun e w' ⟨m, q0, q1, q2, _, q4⟩ => ⟨m, q0, q1, q2, q4⟩))
    (Lib.hid fun W m h p k => H10.out W m z0 p P0.out k (a0.up h)) ?_)
  intro s62 s63 s64 s65 s66 s67 s68 s69 s70 s71 s72 s73 s74 s75 s76 s77 s78 s79 s80 s81 s82 s83 s84 s85 s86 s87 s88 s89 s90 s91 s92 s93 s94 s95 s96 s97 s98 s99 s100 s101 s102 wz Xz
  go_wp2
  go_ret
  exact ⟨rfl, X0.trans (hX.trans (Ext.trans Xz (by repeat with_reducible (first | exact Ext.refl _ | refine Ext.alloc ?_ _ | refine Ext.drew ?_ | refine Ext.drewN ?_ _ | refine Ext.setCell ?_ (by first | exact Nat.le_refl _ | omega | (simp; done) | (simp; omega)) _))))⟩

set_option maxRecDepth 100000 in
set_option maxHeartbeats 4000000 in
theorem treeRight_10 {A : Option Addr} {n c : Nat} {S : List MsgV} {root N : Int} {x y : MsgR} {w : World} (hs : SchemaAt w A n c S) (hx : TreeAt w x) (hy : TreeAt w y) (fx : FitT 1000000000000 x) (gx : LongT 1000000000 x) (fy : FitT 1000000000000 y) (gy : LongT 1000000000 y) (hR : rightS (S.map MsgV.d) = true) (hi : idxB (fun v : ValR => v.number == N) x.vals = -1) :
    Calls Tryz.prog 4 #[.slice A n c, .int .i64 root, treeV x, treeV y, .int .i64 N] w fun e w' => e = .returned (.bool true) ∧ Ext w w' := by
  have hcap := hs.1.cap
  have hxl := fx.vals
  have tx := tSize x
  have ty := tSize y
  have h1 := fun W (h : TreeAt W x) => tx 70 W (by omega) (by omega) h
  have h2 := fun W (h : TreeAt W y) => ty 70 W (by omega) (by omega) h
  clear tx ty
  have h3 := fun W (h : SchemaAt W A n c S) => sRightR h
  rw [hR] at h3
  have h4 : ∀ W (z : MsgR), bare z = bare x → SchemaAt W A n c S → TreeAt W z → Calls Tryz.prog 20 #[.slice A n c, .int .i64 root, treeV z] W fun e W' => e = .returned (.bool (eqB (RI (S.map MsgV.d) root (bare x)))) ∧ Ext W W' := fun W z hz h k => by
    have := rRightT hR z (FitT.of_bare z (by rw [hz]; exact fx.to_bare)) (LongT.of_bare z (by rw [hz]; exact gx.to_bare)) root W A n c h k
    rwa [hz] at this
  have h5 := fun W (h : SchemaAt W A n c S) (k : TreeAt W x) => tRightS (root := root) h k fx gx.unkT
  rw [hR] at h5
  simp only [Bool.true_and] at h5
  have h6 := fun W (h : TreeAt W x) => tGet_no (w := W) h hxl hi
  have h7 : ∀ W (z : MsgR), bare z = bare x → TreeAt W z → Calls Tryz.prog 22 #[treeV z, .int .i64 N] W fun e W' => e = .returned (.int .i64 (-1)) ∧ Ext W W' := fun W z hz h => by
    have := rGet (N := N) h
    rwa [idx_bare, vals_bare hz, ← idx_bare, hi] at this
  have h8 := fun W (h : TreeAt W x) (k : TreeAt W y) => tSame x y W h k
  have h9 : ∀ W (z0 z1 : MsgR), bare z0 = bare x → bare z1 = bare y → TreeAt W z0 → TreeAt W z1 → Calls Tryz.prog 25 #[treeV z0, treeV z1] W fun e W' => e = .returned (.bool (eqB (bare x = bare y))) ∧ Ext W W' := fun W z0 z1 e0 e1 h k => by
    have := rSame z0 z1 W h k
    rwa [e0, e1] at this
  have h10 : ∀ W (z0 z1 : MsgR), bare z0 = bare x → bare z1 = bare x → TreeAt W z0 → TreeAt W z1 → Calls Tryz.prog 25 #[treeV z0, treeV z1] W fun e W' => e = .returned (.bool true) ∧ Ext W W' := fun W z0 z1 e0 e1 h k => by
    have := rSame z0 z1 W h k
    rwa [e0, e1, eqB_yes rfl] at this
  have h11 := fun W (h : TreeAt W x) => tDepth x W h
  have h12 : ∀ W (z : MsgR), bare z = bare x → TreeAt W z → Calls Tryz.prog 28 #[treeV z] W fun e W' => e = .returned (.int .i64 (depthI x)) ∧ Ext W W' := fun W z hz h => by
    have := rDepth z W h
    rwa [← depth_bare, hz, depth_bare] at this
  have h13 := fun W (h : TreeAt W x) => tCopy x W h fx
  have h14 : ∀ W (z : MsgR), bare z = bare x → TreeAt W z → Calls Tryz.prog 19 #[treeV z] W fun e W' => ∃ m, e = .returned (treeV m) ∧ bare m = bare x ∧ TreeAt W' m ∧ (∀ b, UsesT m b → UsesT z b ∨ W.heap.size ≤ b) ∧ Ext W W' := fun W z hz h => by
    have := tOf z W h (FitT.of_bare z (by rw [hz]; exact fx.to_bare))
    rwa [hz] at this
  have h15 := fun W (h : TreeAt W y) => tOf y W h fy
  have h16 : ∀ W (u : ValR), (bareV u = bareV noneV) → ValAt W u → Calls Tryz.prog 17 #[tvalV u] W fun e W' => ∃ m, e = .returned (tvalV m) ∧ bareV m = bareV noneV ∧ ValAt W' m ∧ Ext W W' := fun W u hu h => by
    have hsl : u.subs.map bare = noneV.subs.map bare := congrArg (fun v : ValT => v.subs) hu
    have hnil : u.subs = [] := List.map_eq_nil_iff.1 hsl
    have := tOfV (v := u) (fun y _ => tOf y) W h (by rw [hnil]; exact Nat.zero_le _) (fun y hy => by rw [hnil] at hy; cases hy)
    refine this.mono ?_
    rintro e w' ⟨m, rfl, q1, q2, _, q4⟩
    exact ⟨m, rfl, q1.trans hu, q2, q4⟩
  have h17 : ∀ W (u t : ValR), bareV u = bareV t → ValAt W u → ValAt W t → Calls Tryz.prog 26 #[tvalV u, tvalV t] W fun e W' => e = .returned (.bool true) ∧ Ext W W' := fun W u t e h k => by
    have := rsameV h k (fun y hy z hz W2 hW2 => rSame y z W2 ((h.sub y hy).up hW2) ((k.sub z hz).up hW2))
    rwa [e, eqB_yes rfl] at this
  generalize eqB (RI (S.map MsgV.d) root (bare x)) = R at *
  generalize eqB (bare x = bare y) = sq at *
  generalize depthI x = dI at *
  unfold treeV tvalV at *
  dsimp only [noneV, List.length_nil] at h6
  have H1 := Lib.hid h1
  have H2 := Lib.hid h2
  have H3 := Lib.hid h3
  have H4 := Lib.hid h4
  have H5 := Lib.hid h5
  have H6 := Lib.hid h6
  have H7 := Lib.hid h7
  have H8 := Lib.hid h8
  have H9 := Lib.hid h9
  have H10 := Lib.hid h10
  have H11 := Lib.hid h11
  have H12 := Lib.hid h12
  have H13 := Lib.hid h13
  have H14 := Lib.hid h14
  have H15 := Lib.hid h15
  have H16 := Lib.hid h16
  have H17 := Lib.hid h17
  clear h1 h2 h3 h4 h5 h6 h7 h8 h9 h10 h11 h12 h13 h14 h15 h16 h17 hR hi fx gx fy gy hxl
  go_enter Tryz.func4, Tryz.ntmps4
  go_wp2_with fail
  have BX := (BlkT.new w 43 #[.slice x.a.1 x.vals.length x.a.2, .slice x.b.1 x.unk.length x.b.2] rfl).alloc (.cells #[.slice y.a.1 y.vals.length y.a.2, .slice y.b.1 y.unk.length y.b.2] 43)
  have BY := BlkT.new (w.alloc (.cells #[.slice x.a.1 x.vals.length x.a.2, .slice x.b.1 x.unk.length x.b.2] 43)) 43 #[.slice y.a.1 y.vals.length y.a.2, .slice y.b.1 y.unk.length y.b.2] (show w.heap.size + 1 = _ by simp)
  have X0 : Ext w ((w.alloc (.cells #[.slice x.a.1 x.vals.length x.a.2, .slice x.b.1 x.unk.length x.b.2] 43)).alloc (.cells #[.slice y.a.1 y.vals.length y.a.2, .slice y.b.1 y.unk.length y.b.2] 43)) := ((Ext.refl w).alloc _).alloc _
  generalize (w.alloc (.cells #[.slice x.a.1 x.vals.length x.a.2, .slice x.b.1 x.unk.length x.b.2] 43)).alloc (.cells #[.slice y.a.1 y.vals.length y.a.2, .slice y.b.1 y.unk.length y.b.2] 43) = wx at *
  replace hs := hs.up X0
  replace hx := hx.up X0
  replace hy := hy.up X0
  have x0 : wx.cell? ⟨w.heap.size, 0, none⟩ = some (.slice x.a.1 x.vals.length x.a.2) := BX.cell 0
  have x1 : wx.cell? ⟨w.heap.size, 1, none⟩ = some (.slice x.b.1 x.unk.length x.b.2) := BX.cell 1
  have y0 : wx.cell? ⟨w.heap.size + 1, 0, none⟩ = some (.slice y.a.1 y.vals.length y.a.2) := BY.cell 0
  have y1 : wx.cell? ⟨w.heap.size + 1, 1, none⟩ = some (.slice y.b.1 y.unk.length y.b.2) := BY.cell 1
  have lx := BX.lt
  have ly := BY.lt
  have hX := Ext.refl wx
  clear BX BY
  go_wp2_with (first
    | (go_at_call 11; refine (alive14 _).mono ?_; rintro e w1 ⟨rfl, E1⟩; have X_ : Ext wx w1 := Ext.trans (by repeat with_reducible (first | exact Ext.refl _ | refine Ext.alloc ?_ _ | refine Ext.drew ?_ | refine Ext.drewN ?_ _ | refine Ext.setCell ?_ (by first | exact Nat.le_refl _ | omega | (simp; done) | (simp; omega)) _)) E1; replace hX := hX.up X_; replace hs := hs.up X_; replace hx := hx.up X_; replace hy := hy.up X_; replace x0 := X_.of_cell x0; replace x1 := X_.of_cell x1; replace y0 := X_.of_cell y0; replace y1 := X_.of_cell y1; clear X_)
    | (go_at_call 12; refine (few07 hs).mono ?_; rintro e w2 ⟨q, rfl, E2⟩; have X_ : Ext w1 w2 := Ext.trans (by repeat with_reducible (first | exact Ext.refl _ | refine Ext.alloc ?_ _ | refine Ext.drew ?_ | refine Ext.drewN ?_ _ | refine Ext.setCell ?_ (by first | exact Nat.le_refl _ | omega | (simp; done) | (simp; omega)) _)) E2; replace hX := hX.up X_; replace hs := hs.up X_; replace hx := hx.up X_; replace hy := hy.up X_; replace x0 := X_.of_cell x0; replace x1 := X_.of_cell x1; replace y0 := X_.of_cell y0; replace y1 := X_.of_cell y1; clear X_)
    | (go_at_call 18; (with_reducible refine (H1.out w2 hx).mono ?_); rintro e w3 ⟨n1, rfl, E3⟩; have X_ : Ext w2 w3 := Ext.trans (by repeat with_reducible (first | exact Ext.refl _ | refine Ext.alloc ?_ _ | refine Ext.drew ?_ | refine Ext.drewN ?_ _ | refine Ext.setCell ?_ (by first | exact Nat.le_refl _ | omega | (simp; done) | (simp; omega)) _)) E3; replace hX := hX.up X_; replace hs := hs.up X_; replace hx := hx.up X_; replace hy := hy.up X_; replace x0 := X_.of_cell x0; replace x1 := X_.of_cell x1; replace y0 := X_.of_cell y0; replace y1 := X_.of_cell y1; clear X_)
    | (go_at_call 18; (with_reducible refine (H2.out w3 hy).mono ?_); rintro e w4 ⟨n2, rfl, E4⟩; have X_ : Ext w3 w4 := Ext.trans (by repeat with_reducible (first | exact Ext.refl _ | refine Ext.alloc ?_ _ | refine Ext.drew ?_ | refine Ext.drewN ?_ _ | refine Ext.setCell ?_ (by first | exact Nat.le_refl _ | omega | (simp; done) | (simp; omega)) _)) E4; replace hX := hX.up X_; replace hs := hs.up X_; replace hx := hx.up X_; replace hy := hy.up X_; replace x0 := X_.of_cell x0; replace x1 := X_.of_cell x1; replace y0 := X_.of_cell y0; replace y1 := X_.of_cell y1; clear X_))
  all_goals try (go_ret; exact ⟨rfl, X0.trans hX⟩)
  replace lx := Nat.lt_of_lt_of_le lx hX.size
  replace ly := Nat.lt_of_lt_of_le ly hX.size
  have Hof0 : Hid (∀ W, Ext w4 W → Calls Tryz.prog 19 #[.agg #[.slice x.a.1 x.vals.length x.a.2, .slice x.b.1 x.unk.length x.b.2]] W fun e W' => ∃ z, e = .returned (treeV z) ∧ bare z = bare x ∧ TreeAt W' z ∧ (∀ b, UsesT z b → b < w4.heap.size ∨ W.heap.size ≤ b) ∧ Ext W W') := fun W h => by
    refine (H14.out W x rfl (hx.up h)).mono ?_
    rintro e w' ⟨m, rfl, q1, q2, q3, q4⟩
    exact ⟨m, rfl, q1, q2, fun b hb => (q3 b hb).imp (fun h => hx.lt h) id, q4⟩
  have Hof1 : Hid (∀ W, Ext w4 W → Calls Tryz.prog 19 #[.agg #[.slice y.a.1 y.vals.length y.a.2, .slice y.b.1 y.unk.length y.b.2]] W fun e W' => ∃ z, e = .returned (treeV z) ∧ bare z = bare y ∧ TreeAt W' z ∧ (∀ b, UsesT z b → b < w4.heap.size ∨ W.heap.size ≤ b) ∧ Ext W W') := fun W h => by
    refine (H15.out W (hy.up h)).mono ?_
    rintro e w' ⟨m, rfl, q1, q2, q3, q4⟩
    exact ⟨m, rfl, q1, q2, fun b hb => (q3 b hb).imp (fun h => hy.lt h) id, q4⟩
  refine calm (fun _ _ _ hd h => ⟨hd, h.2⟩) (treg5 (P0 := fun z => bare z = bare x) (P1 := fun z => bare z = bare y) x0 x1 y0 y1 Hof0 Hof1 ?_)
  intro v33 v34 v35 v36 z0 z1 k0 k1 w5 X5 p0 a0 g0 _ _ p1 a1 g1 _ _ _ _ _ _
  have P0 := Lib.hid p0
  have P1 := Lib.hid p1
  clear p0 p1 Hof0 Hof1 H1 H2
  replace hX := hX.trans X5
  replace hs := hs.up X5
  replace hx := hx.up X5
  replace hy := hy.up X5
  replace x0 := X5.of_cell x0
  replace x1 := X5.of_cell x1
  replace y0 := X5.of_cell y0
  replace y1 := X5.of_cell y1
  replace lx := Nat.lt_of_lt_of_le lx X5.size
  replace ly := Nat.lt_of_lt_of_le ly X5.size
  have c0 : w5.cell? ⟨k0, 0, none⟩ = some (.slice z0.a.1 z0.vals.length z0.a.2) := g0.cell 0
  have c1 : w5.cell? ⟨k0, 1, none⟩ = some (.slice z0.b.1 z0.unk.length z0.b.2) := g0.cell 1
  have d0 : w5.cell? ⟨k1, 0, none⟩ = some (.slice z1.a.1 z1.vals.length z1.a.2) := g1.cell 0
  have d1 : w5.cell? ⟨k1, 1, none⟩ = some (.slice z1.b.1 z1.unk.length z1.b.2) := g1.cell 1
  have lc := g0.lt
  have ld := g1.lt
  clear g0 g1 X5
  unfold treeV at *
  have G5 := Ext.refl w5
  go_wp2_with (first
    | (go_at_call 13; refine (H3.out _ hs).mono ?_; rintro e w6 ⟨rfl, E6⟩; have X_ : Ext w5 w6 := Ext.trans (by repeat with_reducible (first | exact Ext.refl _ | refine Ext.alloc ?_ _ | refine Ext.drew ?_ | refine Ext.drewN ?_ _ | refine Ext.setCell ?_ (by first | exact Nat.le_refl _ | omega | (simp; done) | (simp; omega)) _)) E6; replace hX := hX.up X_; replace hs := hs.up X_; replace hx := hx.up X_; replace hy := hy.up X_; replace a0 := a0.up X_; replace a1 := a1.up X_; replace G5 := G5.up X_; replace x0 := X_.of_cell x0; replace x1 := X_.of_cell x1; replace y0 := X_.of_cell y0; replace y1 := X_.of_cell y1; replace c0 := X_.of_cell c0; replace c1 := X_.of_cell c1; replace d0 := X_.of_cell d0; replace d1 := X_.of_cell d1; clear X_)
    | (go_at_call 20; refine (H4.out _ z0 P0.out hs a0).mono ?_; rintro e w7 ⟨rfl, E7⟩; have X_ : Ext w6 w7 := Ext.trans (by repeat with_reducible (first | exact Ext.refl _ | refine Ext.alloc ?_ _ | refine Ext.drew ?_ | refine Ext.drewN ?_ _ | refine Ext.setCell ?_ (by first | exact Nat.le_refl _ | omega | (simp; done) | (simp; omega)) _)) E7; replace hX := hX.up X_; replace hs := hs.up X_; replace hx := hx.up X_; replace hy := hy.up X_; replace a0 := a0.up X_; replace a1 := a1.up X_; replace G5 := G5.up X_; replace x0 := X_.of_cell x0; replace x1 := X_.of_cell x1; replace y0 := X_.of_cell y0; replace y1 := X_.of_cell y1; replace c0 := X_.of_cell c0; replace c1 := X_.of_cell c1; replace d0 := X_.of_cell d0; replace d1 := X_.of_cell d1; clear X_)
    | (go_at_call 21; refine (H6.out _ hx).mono ?_; rintro e w8 ⟨rfl, E8⟩; have X_ : Ext w7 w8 := Ext.trans (by repeat with_reducible (first | exact Ext.refl _ | refine Ext.alloc ?_ _ | refine Ext.drew ?_ | refine Ext.drewN ?_ _ | refine Ext.setCell ?_ (by first | exact Nat.le_refl _ | omega | (simp; done) | (simp; omega)) _)) E8; replace hX := hX.up X_; replace hs := hs.up X_; replace hx := hx.up X_; replace hy := hy.up X_; replace a0 := a0.up X_; replace a1 := a1.up X_; replace G5 := G5.up X_; replace x0 := X_.of_cell x0; replace x1 := X_.of_cell x1; replace y0 := X_.of_cell y0; replace y1 := X_.of_cell y1; replace c0 := X_.of_cell c0; replace c1 := X_.of_cell c1; replace d0 := X_.of_cell d0; replace d1 := X_.of_cell d1; clear X_; replace lx := Nat.lt_of_lt_of_le lx G5.size;  replace ly := Nat.lt_of_lt_of_le ly G5.size;  replace lc := Nat.lt_of_lt_of_le lc G5.size;  replace ld := Nat.lt_of_lt_of_le ld G5.size))
  have B14 := BlkT.new w8 30 #[.int .i64 0, .slice none 0 0, .slice none 0 0, .slice none 0 0] rfl
  have X9 : Ext w8 (w8.alloc (.cells #[.int .i64 0, .slice none 0 0, .slice none 0 0, .slice none 0 0] 30)) := (Ext.refl w8).alloc _
  generalize w8.alloc (.cells #[.int .i64 0, .slice none 0 0, .slice none 0 0, .slice none 0 0] 30) = w9 at *
  refine (H7.out _ z0 P0.out (a0.up X9)).mono ?_
  rintro e w10 ⟨rfl, E10⟩
  have Y := X9.trans E10
  replace x0 := Y.of_cell x0
  replace x1 := Y.of_cell x1
  replace y0 := Y.of_cell y0
  replace y1 := Y.of_cell y1
  replace c0 := Y.of_cell c0
  replace c1 := Y.of_cell c1
  replace d0 := Y.of_cell d0
  replace d1 := Y.of_cell d1
  replace lx := Nat.lt_of_lt_of_le lx Y.size
  replace ly := Nat.lt_of_lt_of_le ly Y.size
  replace lc := Nat.lt_of_lt_of_le lc Y.size
  replace ld := Nat.lt_of_lt_of_le ld Y.size
  replace hX := hX.trans Y
  replace hs := hs.up Y
  replace hx := hx.up Y
  replace hy := hy.up Y
  replace a0 := a0.up Y
  replace a1 := a1.up Y
  generalize w8.heap.size = kv at *
  replace B14 := B14.up E10
  have r0 : w10.cell? ⟨kv, 0, none⟩ = some (.int .i64 0) := B14.cell 0
  have r1 : w10.cell? ⟨kv, 1, none⟩ = some (.slice none 0 0) := B14.cell 1
  have r2 : w10.cell? ⟨kv, 2, none⟩ = some (.slice none 0 0) := B14.cell 2
  have r3 : w10.cell? ⟨kv, 3, none⟩ = some (.slice none 0 0) := B14.cell 3
  have lv := B14.lt
  clear B14 X9 E10 Y G5
  go_wp2
  have B17 := BlkT.new w10 38 #[.int .i64 0, .slice none 0 0, .slice none 0 0, .slice none 0 0] rfl
  have Z := (Ext.refl w10).alloc (.cells #[.int .i64 0, .slice none 0 0, .slice none 0 0, .slice none 0 0] 38)
  generalize w10.alloc (.cells #[.int .i64 0, .slice none 0 0, .slice none 0 0, .slice none 0 0] 38) = w11 at *
  replace x0 := Z.of_cell x0
  replace x1 := Z.of_cell x1
  replace y0 := Z.of_cell y0
  replace y1 := Z.of_cell y1
  replace c0 := Z.of_cell c0
  replace c1 := Z.of_cell c1
  replace d0 := Z.of_cell d0
  replace d1 := Z.of_cell d1
  replace r0 := Z.of_cell r0
  replace r1 := Z.of_cell r1
  replace r2 := Z.of_cell r2
  replace r3 := Z.of_cell r3
  replace lx := Nat.lt_of_lt_of_le lx Z.size
  replace ly := Nat.lt_of_lt_of_le ly Z.size
  replace lc := Nat.lt_of_lt_of_le lc Z.size
  replace ld := Nat.lt_of_lt_of_le ld Z.size
  replace lv := Nat.lt_of_lt_of_le lv Z.size
  replace hs := hs.up Z
  replace hx := hx.up Z
  replace hy := hy.up Z
  replace a0 := a0.up Z
  replace a1 := a1.up Z
  replace hX := hX.trans Z
  have t0 : w11.cell? ⟨w10.heap.size, 0, none⟩ = some (.int .i64 0) := B17.cell 0
  have t1 : w11.cell? ⟨w10.heap.size, 1, none⟩ = some (.slice none 0 0) := B17.cell 1
  have t2 : w11.cell? ⟨w10.heap.size, 2, none⟩ = some (.slice none 0 0) := B17.cell 2
  have t3 : w11.cell? ⟨w10.heap.size, 3, none⟩ = some (.slice none 0 0) := B17.cell 3
  have lt := B17.lt
  refine calm (fun _ _ _ hd h => ⟨hd, h.2⟩) (treg12 (x := x) (y := y) (z0 := z0) (z1 := z1) (u := noneV) (t := noneV) (rq := R) (sq := sq) (dI := dI) (ok := false) (P4 := fun m => bareV m = bareV noneV) (P8 := fun m => bare m = bare x) (P9 := fun m => bare m = bare x) x0 x1 y0 y1 c0 c1 d0 d1 r0 r1 r2 r3 t0 t1 t2 t3 lx ly lc ld lv lt (by decide)
    (Lib.hid fun W h => H5.out W (hs.up h) (hx.up h)) (Lib.hid fun W h => H8.out W (hx.up h) (hy.up h)) (Lib.hid fun W h => H9.out W z0 z1 P0.out P1.out (a0.up h) (a1.up h))
    (Lib.hid fun W h => H16.out W noneV rfl (valAt_none W)) (Lib.hid fun W m h p k => H17.out W m noneV p k (valAt_none W))
    (Lib.hid fun W h => H11.out W (hx.up h)) (Lib.hid fun W h => H12.out W z0 P0.out (a0.up h))
    (Lib.hid fun W h => (H13.out W (hx.up h)).mono (fun e w' ⟨m, q0, q1, q2, _, q4⟩ => ⟨m, q0, q1, q2, q4⟩))
    (Lib.hid fun W m h p k => (H14.out W m p k).mono (fun e w' ⟨m, q0, q1, q2, _, q4⟩ => ⟨m, q0, q1, q2, q4⟩))
    (Lib.hid fun W m h p k => H10.out W m z0 p P0.out k (a0.up h)) ?_)
  intro s62 s63 s64 s65 s66 s67 s68 s69 s70 s71 s72 s73 s74 s75 s76 s77 s78 s79 s80 s81 s82 s83 s84 s85 s86 s87 s88 s89 s90 s91 s92 s93 s94 s95 s96 s97 s98 s99 s100 s101 s102 wz Xz
  go_wp2
  go_ret
  exact ⟨rfl, X0.trans (hX.trans (Ext.trans Xz (by repeat with_reducible (first | exact Ext.refl _ | refine Ext.alloc ?_ _ | refine Ext.drew ?_ | refine Ext.drewN ?_ _ | refine Ext.setCell ?_ (by first | exact Nat.le_refl _ | omega | (simp; done) | (simp; omega)) _))))⟩

set_option maxRecDepth 100000 in
set_option maxHeartbeats 4000000 in
theorem treeRight_11 {A : Option Addr} {n c : Nat} {S : List MsgV} {root N : Int} {x y : MsgR} {w : World} {k : Nat} {v : ValR} (hs : SchemaAt w A n c S) (hx : TreeAt w x) (hy : TreeAt w y) (fx : FitT 1000000000000 x) (gx : LongT 1000000000 x) (fy : FitT 1000000000000 y) (gy : LongT 1000000000 y) (hR : rightS (S.map MsgV.d) = true) (hi : idxB (fun v : ValR => v.number == N) x.vals = (k : Int)) (hv : x.vals[k]? = some v) :
    Calls Tryz.prog 4 #[.slice A n c, .int .i64 root, treeV x, treeV y, .int .i64 N] w fun e w' => e = .returned (.bool true) ∧ Ext w w' := by
  have hkx : k < x.vals.length := (List.getElem?_eq_some_iff.1 hv).1
  have hcap := hs.1.cap
  have hxl := fx.vals
  have tx := tSize x
  have ty := tSize y
  have h1 := fun W (h : TreeAt W x) => tx 70 W (by omega) (by omega) h
  have h2 := fun W (h : TreeAt W y) => ty 70 W (by omega) (by omega) h
  clear tx ty
  have h3 := fun W (h : SchemaAt W A n c S) => sRightR h
  rw [hR] at h3
  have h4 : ∀ W (z : MsgR), bare z = bare x → SchemaAt W A n c S → TreeAt W z → Calls Tryz.prog 20 #[.slice A n c, .int .i64 root, treeV z] W fun e W' => e = .returned (.bool (eqB (RI (S.map MsgV.d) root (bare x)))) ∧ Ext W W' := fun W z hz h k => by
    have := rRightT hR z (FitT.of_bare z (by rw [hz]; exact fx.to_bare)) (LongT.of_bare z (by rw [hz]; exact gx.to_bare)) root W A n c h k
    rwa [hz] at this
  have h5 := fun W (h : SchemaAt W A n c S) (k : TreeAt W x) => tRightS (root := root) h k fx gx.unkT
  rw [hR] at h5
  simp only [Bool.true_and] at h5
  have h6 := fun W (h : TreeAt W x) => tGet_yes (w := W) h fx hi hv
  have h7 : ∀ W (z : MsgR), bare z = bare x → TreeAt W z → Calls Tryz.prog 22 #[treeV z, .int .i64 N] W fun e W' => e = .returned (.int .i64 (k : Int)) ∧ Ext W W' := fun W z hz h => by
    have := rGet (N := N) h
    rwa [idx_bare, vals_bare hz, ← idx_bare, hi] at this
  have h8 := fun W (h : TreeAt W x) (k : TreeAt W y) => tSame x y W h k
  have h9 : ∀ W (z0 z1 : MsgR), bare z0 = bare x → bare z1 = bare y → TreeAt W z0 → TreeAt W z1 → Calls Tryz.prog 25 #[treeV z0, treeV z1] W fun e W' => e = .returned (.bool (eqB (bare x = bare y))) ∧ Ext W W' := fun W z0 z1 e0 e1 h k => by
    have := rSame z0 z1 W h k
    rwa [e0, e1] at this
  have h10 : ∀ W (z0 z1 : MsgR), bare z0 = bare x → bare z1 = bare x → TreeAt W z0 → TreeAt W z1 → Calls Tryz.prog 25 #[treeV z0, treeV z1] W fun e W' => e = .returned (.bool true) ∧ Ext W W' := fun W z0 z1 e0 e1 h k => by
    have := rSame z0 z1 W h k
    rwa [e0, e1, eqB_yes rfl] at this
  have h11 := fun W (h : TreeAt W x) => tDepth x W h
  have h12 : ∀ W (z : MsgR), bare z = bare x → TreeAt W z → Calls Tryz.prog 28 #[treeV z] W fun e W' => e = .returned (.int .i64 (depthI x)) ∧ Ext W W' := fun W z hz h => by
    have := rDepth z W h
    rwa [← depth_bare, hz, depth_bare] at this
  have h13 := fun W (h : TreeAt W x) => tCopy x W h fx
  have h14 : ∀ W (z : MsgR), bare z = bare x → TreeAt W z → Calls Tryz.prog 19 #[treeV z] W fun e W' => ∃ m, e = .returned (treeV m) ∧ bare m = bare x ∧ TreeAt W' m ∧ (∀ b, UsesT m b → UsesT z b ∨ W.heap.size ≤ b) ∧ Ext W W' := fun W z hz h => by
    have := tOf z W h (FitT.of_bare z (by rw [hz]; exact fx.to_bare))
    rwa [hz] at this
  have h15 := fun W (h : TreeAt W y) => tOf y W h fy
  have h16 : ∀ W (u : ValR), (bareV u = bareV v) → ValAt W u → Calls Tryz.prog 17 #[tvalV u] W fun e W' => ∃ m, e = .returned (tvalV m) ∧ bareV m = bareV v ∧ ValAt W' m ∧ Ext W W' := fun W u hu h => by
    have hsl : u.subs.map bare = v.subs.map bare := congrArg (fun v : ValT => v.subs) hu
    have l1 := congrArg List.length hsl
    rw [List.length_map, List.length_map] at l1
    have l2 := (fx.each v (List.mem_of_getElem? hv)).2.2
    have := tOfV (v := u) (fun y _ => tOf y) W h (by omega) (fun y hy => by
      obtain ⟨z, hz, hzy⟩ := List.mem_map.1 (show bare y ∈ v.subs.map bare by rw [← hsl]; exact List.mem_map_of_mem hy)
      exact FitT.of_bare y (by rw [← hzy]; exact (fx.sub v (List.mem_of_getElem? hv) z hz).to_bare))
    refine this.mono ?_
    rintro e w' ⟨m, rfl, q1, q2, _, q4⟩
    exact ⟨m, rfl, q1.trans hu, q2, q4⟩
  have h17 : ∀ W (u t : ValR), bareV u = bareV t → ValAt W u → ValAt W t → Calls Tryz.prog 26 #[tvalV u, tvalV t] W fun e W' => e = .returned (.bool true) ∧ Ext W W' := fun W u t e h k => by
    have := rsameV h k (fun y hy z hz W2 hW2 => rSame y z W2 ((h.sub y hy).up hW2) ((k.sub z hz).up hW2))
    rwa [e, eqB_yes rfl] at this
  generalize eqB (RI (S.map MsgV.d) root (bare x)) = R at *
  generalize eqB (bare x = bare y) = sq at *
  generalize depthI x = dI at *
  unfold treeV tvalV at *
  have H1 := Lib.hid h1
  have H2 := Lib.hid h2
  have H3 := Lib.hid h3
  have H4 := Lib.hid h4
  have H5 := Lib.hid h5
  have H6 := Lib.hid h6
  have H7 := Lib.hid h7
  have H8 := Lib.hid h8
  have H9 := Lib.hid h9
  have H10 := Lib.hid h10
  have H11 := Lib.hid h11
  have H12 := Lib.hid h12
  have H13 := Lib.hid h13
  have H14 := Lib.hid h14
  have H15 := Lib.hid h15
  have H16 := Lib.hid h16
  have H17 := Lib.hid h17
  clear h1 h2 h3 h4 h5 h6 h7 h8 h9 h10 h11 h12 h13 h14 h15 h16 h17 hR hi fx gx fy gy hxl
  have Hv := Lib.hid hv
  clear hv
  go_enter Tryz.func4, Tryz.ntmps4
  go_wp2_with fail
  have BX := (BlkT.new w 43 #[.slice x.a.1 x.vals.length x.a.2, .slice x.b.1 x.unk.length x.b.2] rfl).alloc (.cells #[.slice y.a.1 y.vals.length y.a.2, .slice y.b.1 y.unk.length y.b.2] 43)
  have BY := BlkT.new (w.alloc (.cells #[.slice x.a.1 x.vals.length x.a.2, .slice x.b.1 x.unk.length x.b.2] 43)) 43 #[.slice y.a.1 y.vals.length y.a.2, .slice y.b.1 y.unk.length y.b.2] (show w.heap.size + 1 = _ by simp)
  have X0 : Ext w ((w.alloc (.cells #[.slice x.a.1 x.vals.length x.a.2, .slice x.b.1 x.unk.length x.b.2] 43)).alloc (.cells #[.slice y.a.1 y.vals.length y.a.2, .slice y.b.1 y.unk.length y.b.2] 43)) := ((Ext.refl w).alloc _).alloc _
  generalize (w.alloc (.cells #[.slice x.a.1 x.vals.length x.a.2, .slice x.b.1 x.unk.length x.b.2] 43)).alloc (.cells #[.slice y.a.1 y.vals.length y.a.2, .slice y.b.1 y.unk.length y.b.2] 43) = wx at *
  replace hs := hs.up X0
  replace hx := hx.up X0
  replace hy := hy.up X0
  have x0 : wx.cell? ⟨w.heap.size, 0, none⟩ = some (.slice x.a.1 x.vals.length x.a.2) := BX.cell 0
  have x1 : wx.cell? ⟨w.heap.size, 1, none⟩ = some (.slice x.b.1 x.unk.length x.b.2) := BX.cell 1
  have y0 : wx.cell? ⟨w.heap.size + 1, 0, none⟩ = some (.slice y.a.1 y.vals.length y.a.2) := BY.cell 0
  have y1 : wx.cell? ⟨w.heap.size + 1, 1, none⟩ = some (.slice y.b.1 y.unk.length y.b.2) := BY.cell 1
  have lx := BX.lt
  have ly := BY.lt
  have hX := Ext.refl wx
  clear BX BY
  go_wp2_with (first
    | (go_at_call 11; refine (alive14 _).mono ?_; rintro e w1 ⟨rfl, E1⟩; have X_ : Ext wx w1 := Ext.trans (by repeat with_reducible (first | exact Ext.refl _ | refine Ext.alloc ?_ _ | refine Ext.drew ?_ | refine Ext.drewN ?_ _ | refine Ext.setCell ?_ (by first | exact Nat.le_refl _ | omega | (simp; done) | (simp; omega)) _)) E1; replace hX := hX.up X_; replace hs := hs.up X_; replace hx := hx.up X_; replace hy := hy.up X_; replace x0 := X_.of_cell x0; replace x1 := X_.of_cell x1; replace y0 := X_.of_cell y0; replace y1 := X_.of_cell y1; clear X_)
    | (go_at_call 12; refine (few07 hs).mono ?_; rintro e w2 ⟨q, rfl, E2⟩; have X_ : Ext w1 w2 := Ext.trans (by repeat with_reducible (first | exact Ext.refl _ | refine Ext.alloc ?_ _ | refine Ext.drew ?_ | refine Ext.drewN ?_ _ | refine Ext.setCell ?_ (by first | exact Nat.le_refl _ | omega | (simp; done) | (simp; omega)) _)) E2; replace hX := hX.up X_; replace hs := hs.up X_; replace hx := hx.up X_; replace hy := hy.up X_; replace x0 := X_.of_cell x0; replace x1 := X_.of_cell x1; replace y0 := X_.of_cell y0; replace y1 := X_.of_cell y1; clear X_)
    | (go_at_call 18; (with_reducible refine (H1.out w2 hx).mono ?_); rintro e w3 ⟨n1, rfl, E3⟩; have X_ : Ext w2 w3 := Ext.trans (by repeat with_reducible (first | exact Ext.refl _ | refine Ext.alloc ?_ _ | refine Ext.drew ?_ | refine Ext.drewN ?_ _ | refine Ext.setCell ?_ (by first | exact Nat.le_refl _ | omega | (simp; done) | (simp; omega)) _)) E3; replace hX := hX.up X_; replace hs := hs.up X_; replace hx := hx.up X_; replace hy := hy.up X_; replace x0 := X_.of_cell x0; replace x1 := X_.of_cell x1; replace y0 := X_.of_cell y0; replace y1 := X_.of_cell y1; clear X_)
    | (go_at_call 18; (with_reducible refine (H2.out w3 hy).mono ?_); rintro e w4 ⟨n2, rfl, E4⟩; have X_ : Ext w3 w4 := Ext.trans (by repeat with_reducible (first | exact Ext.refl _ | refine Ext.alloc ?_ _ | refine Ext.drew ?_ | refine Ext.drewN ?_ _ | refine Ext.setCell ?_ (by first | exact Nat.le_refl _ | omega | (simp; done) | (simp; omega)) _)) E4; replace hX := hX.up X_; replace hs := hs.up X_; replace hx := hx.up X_; replace hy := hy.up X_; replace x0 := X_.of_cell x0; replace x1 := X_.of_cell x1; replace y0 := X_.of_cell y0; replace y1 := X_.of_cell y1; clear X_))
  all_goals try (go_ret; exact ⟨rfl, X0.trans hX⟩)
  replace lx := Nat.lt_of_lt_of_le lx hX.size
  replace ly := Nat.lt_of_lt_of_le ly hX.size
  have Hof0 : Hid (∀ W, Ext w4 W → Calls Tryz.prog 19 #[.agg #[.slice x.a.1 x.vals.length x.a.2, .slice x.b.1 x.unk.length x.b.2]] W fun e W' => ∃ z, e = .returned (treeV z) ∧ bare z = bare x ∧ TreeAt W' z ∧ (∀ b, UsesT z b → b < w4.heap.size ∨ W.heap.size ≤ b) ∧ Ext W W') := fun W h => by
    refine (H14.out W x rfl (hx.up h)).mono ?_
    rintro e w' ⟨m, rfl, q1, q2, q3, q4⟩
    exact ⟨m, rfl, q1, q2, fun b hb => (q3 b hb).imp (fun h => hx.lt h) id, q4⟩
  have Hof1 : Hid (∀ W, Ext w4 W → Calls Tryz.prog 19 #[.agg #[.slice y.a.1 y.vals.length y.a.2, .slice y.b.1 y.unk.length y.b.2]] W fun e W' => ∃ z, e = .returned (treeV z) ∧ bare z = bare y ∧ TreeAt W' z ∧ (∀ b, UsesT z b → b < w4.heap.size ∨ W.heap.size ≤ b) ∧ Ext W W') := fun W h => by
    refine (H15.out W (hy.up h)).mono ?_
    rintro e w' ⟨m, rfl, q1, q2, q3, q4⟩
    exact ⟨m, rfl, q1, q2, fun b hb => (q3 b hb).imp (fun h => hy.lt h) id, q4⟩
  refine calm (fun _ _ _ hd h => ⟨hd, h.2⟩) (treg5 (P0 := fun z => bare z = bare x) (P1 := fun z => bare z = bare y) x0 x1 y0 y1 Hof0 Hof1 ?_)
  intro v33 v34 v35 v36 z0 z1 k0 k1 w5 X5 p0 a0 g0 _ _ p1 a1 g1 _ _ _ _ _ _
  have P0 := Lib.hid p0
  have P1 := Lib.hid p1
  clear p0 p1 Hof0 Hof1 H1 H2
  replace hX := hX.trans X5
  replace hs := hs.up X5
  replace hx := hx.up X5
  replace hy := hy.up X5
  replace x0 := X5.of_cell x0
  replace x1 := X5.of_cell x1
  replace y0 := X5.of_cell y0
  replace y1 := X5.of_cell y1
  replace lx := Nat.lt_of_lt_of_le lx X5.size
  replace ly := Nat.lt_of_lt_of_le ly X5.size
  have c0 : w5.cell? ⟨k0, 0, none⟩ = some (.slice z0.a.1 z0.vals.length z0.a.2) := g0.cell 0
  have c1 : w5.cell? ⟨k0, 1, none⟩ = some (.slice z0.b.1 z0.unk.length z0.b.2) := g0.cell 1
  have d0 : w5.cell? ⟨k1, 0, none⟩ = some (.slice z1.a.1 z1.vals.length z1.a.2) := g1.cell 0
  have d1 : w5.cell? ⟨k1, 1, none⟩ = some (.slice z1.b.1 z1.unk.length z1.b.2) := g1.cell 1
  have lc := g0.lt
  have ld := g1.lt
  clear g0 g1 X5
  unfold treeV at *
  have G5 := Ext.refl w5
  go_wp2_with (first
    | (go_at_call 13; refine (H3.out _ hs).mono ?_; rintro e w6 ⟨rfl, E6⟩; have X_ : Ext w5 w6 := Ext.trans (by repeat with_reducible (first | exact Ext.refl _ | refine Ext.alloc ?_ _ | refine Ext.drew ?_ | refine Ext.drewN ?_ _ | refine Ext.setCell ?_ (by first | exact Nat.le_refl _ | omega | (simp; done) | (simp; omega)) _)) E6; replace hX := hX.up X_; replace hs := hs.up X_; replace hx := hx.up X_; replace hy := hy.up X_; replace a0 := a0.up X_; replace a1 := a1.up X_; replace G5 := G5.up X_; replace x0 := X_.of_cell x0; replace x1 := X_.of_cell x1; replace y0 := X_.of_cell y0; replace y1 := X_.of_cell y1; replace c0 := X_.of_cell c0; replace c1 := X_.of_cell c1; replace d0 := X_.of_cell d0; replace d1 := X_.of_cell d1; clear X_)
    | (go_at_call 20; refine (H4.out _ z0 P0.out hs a0).mono ?_; rintro e w7 ⟨rfl, E7⟩; have X_ : Ext w6 w7 := Ext.trans (by repeat with_reducible (first | exact Ext.refl _ | refine Ext.alloc ?_ _ | refine Ext.drew ?_ | refine Ext.drewN ?_ _ | refine Ext.setCell ?_ (by first | exact Nat.le_refl _ | omega | (simp; done) | (simp; omega)) _)) E7; replace hX := hX.up X_; replace hs := hs.up X_; replace hx := hx.up X_; replace hy := hy.up X_; replace a0 := a0.up X_; replace a1 := a1.up X_; replace G5 := G5.up X_; replace x0 := X_.of_cell x0; replace x1 := X_.of_cell x1; replace y0 := X_.of_cell y0; replace y1 := X_.of_cell y1; replace c0 := X_.of_cell c0; replace c1 := X_.of_cell c1; replace d0 := X_.of_cell d0; replace d1 := X_.of_cell d1; clear X_)
    | (go_at_call 21; refine (H6.out _ hx).mono ?_; rintro e w8 ⟨u, rfl, u1, u2, _, E8⟩; have X_ : Ext w7 w8 := Ext.trans (by repeat with_reducible (first | exact Ext.refl _ | refine Ext.alloc ?_ _ | refine Ext.drew ?_ | refine Ext.drewN ?_ _ | refine Ext.setCell ?_ (by first | exact Nat.le_refl _ | omega | (simp; done) | (simp; omega)) _)) E8; replace hX := hX.up X_; replace hs := hs.up X_; replace hx := hx.up X_; replace hy := hy.up X_; replace a0 := a0.up X_; replace a1 := a1.up X_; replace G5 := G5.up X_; replace x0 := X_.of_cell x0; replace x1 := X_.of_cell x1; replace y0 := X_.of_cell y0; replace y1 := X_.of_cell y1; replace c0 := X_.of_cell c0; replace c1 := X_.of_cell c1; replace d0 := X_.of_cell d0; replace d1 := X_.of_cell d1; clear X_; replace u1 := Lib.hid u1;  replace lx := Nat.lt_of_lt_of_le lx G5.size;  replace ly := Nat.lt_of_lt_of_le ly G5.size;  replace lc := Nat.lt_of_lt_of_le lc G5.size;  replace ld := Nat.lt_of_lt_of_le ld G5.size))
  have B14 := BlkT.new w8 30 #[.int .i64 u.number, .slice u.a.1 u.words.length u.a.2, .slice u.b.1 u.texts.length u.b.2, .slice u.c.1 u.subs.length u.c.2] rfl
  have X9 : Ext w8 (w8.alloc (.cells #[.int .i64 u.number, .slice u.a.1 u.words.length u.a.2, .slice u.b.1 u.texts.length u.b.2, .slice u.c.1 u.subs.length u.c.2] 30)) := (Ext.refl w8).alloc _
  generalize w8.alloc (.cells #[.int .i64 u.number, .slice u.a.1 u.words.length u.a.2, .slice u.b.1 u.texts.length u.b.2, .slice u.c.1 u.subs.length u.c.2] 30) = w9 at *
  refine (H7.out _ z0 P0.out (a0.up X9)).mono ?_
  rintro e w10 ⟨rfl, E10⟩
  have Y := X9.trans E10
  replace x0 := Y.of_cell x0
  replace x1 := Y.of_cell x1
  replace y0 := Y.of_cell y0
  replace y1 := Y.of_cell y1
  replace c0 := Y.of_cell c0
  replace c1 := Y.of_cell c1
  replace d0 := Y.of_cell d0
  replace d1 := Y.of_cell d1
  replace lx := Nat.lt_of_lt_of_le lx Y.size
  replace ly := Nat.lt_of_lt_of_le ly Y.size
  replace lc := Nat.lt_of_lt_of_le lc Y.size
  replace ld := Nat.lt_of_lt_of_le ld Y.size
  replace hX := hX.trans Y
  replace hs := hs.up Y
  replace hx := hx.up Y
  replace hy := hy.up Y
  replace a0 := a0.up Y
  replace a1 := a1.up Y
  replace u2 := u2.up Y
  generalize w8.heap.size = kv at *
  replace B14 := B14.up E10
  have r0 : w10.cell? ⟨kv, 0, none⟩ = some (.int .i64 u.number) := B14.cell 0
  have r1 : w10.cell? ⟨kv, 1, none⟩ = some (.slice u.a.1 u.words.length u.a.2) := B14.cell 1
  have r2 : w10.cell? ⟨kv, 2, none⟩ = some (.slice u.b.1 u.texts.length u.b.2) := B14.cell 2
  have r3 : w10.cell? ⟨kv, 3, none⟩ = some (.slice u.c.1 u.subs.length u.c.2) := B14.cell 3
  have lv := B14.lt
  have hkz : k < z0.vals.length := by
    have := congrArg List.length (vals_bare P0.out)
    simp only [List.length_map] at this
    omega
  obtain ⟨b6, off6, t, hA6, ht, hb6, e0, e1, e2, e3⟩ := valCells a0.vals hkz
  have ht2 : bareV t = bareV v := by
    have h1 := congrArg (·[k]?) (vals_bare P0.out)
    simp only [List.getElem?_map, ht, Hv.out, Option.map_some] at h1
    injection h1
  have at_ := a0.val (List.mem_of_getElem? ht)
  have c0k := c0
  rw [hA6] at c0
  have HA6 := Lib.hid hA6
  have Ht := Lib.hid ht
  have Ht2 := Lib.hid ht2
  have Hc0 := Lib.hid c0k
  have kI : (k : Int) < z0.vals.length := by omega
  have k0I : ¬ ((k : Int) < 0) := by omega
  have k0J : (0 : Int) ≤ (k : Int) := by omega
  clear hA6 ht ht2 c0k
  clear B14 X9 E10 Y G5
  go_wp2
  have B17 := BlkT.new w10 38 #[.int .i64 t.number, .slice t.a.1 t.words.length t.a.2, .slice t.b.1 t.texts.length t.b.2, .slice t.c.1 t.subs.length t.c.2] rfl
  have Z := (Ext.refl w10).alloc (.cells #[.int .i64 t.number, .slice t.a.1 t.words.length t.a.2, .slice t.b.1 t.texts.length t.b.2, .slice t.c.1 t.subs.length t.c.2] 38)
  generalize w10.alloc (.cells #[.int .i64 t.number, .slice t.a.1 t.words.length t.a.2, .slice t.b.1 t.texts.length t.b.2, .slice t.c.1 t.subs.length t.c.2] 38) = w11 at *
  replace c0 := Hc0.out
  replace x0 := Z.of_cell x0
  replace x1 := Z.of_cell x1
  replace y0 := Z.of_cell y0
  replace y1 := Z.of_cell y1
  replace c0 := Z.of_cell c0
  replace c1 := Z.of_cell c1
  replace d0 := Z.of_cell d0
  replace d1 := Z.of_cell d1
  replace r0 := Z.of_cell r0
  replace r1 := Z.of_cell r1
  replace r2 := Z.of_cell r2
  replace r3 := Z.of_cell r3
  replace lx := Nat.lt_of_lt_of_le lx Z.size
  replace ly := Nat.lt_of_lt_of_le ly Z.size
  replace lc := Nat.lt_of_lt_of_le lc Z.size
  replace ld := Nat.lt_of_lt_of_le ld Z.size
  replace lv := Nat.lt_of_lt_of_le lv Z.size
  replace hs := hs.up Z
  replace hx := hx.up Z
  replace hy := hy.up Z
  replace a0 := a0.up Z
  replace a1 := a1.up Z
  replace hX := hX.trans Z
  replace u2 := u2.up Z
  replace at_ := at_.up Z
  have t0 : w11.cell? ⟨w10.heap.size, 0, none⟩ = some (.int .i64 t.number) := B17.cell 0
  have t1 : w11.cell? ⟨w10.heap.size, 1, none⟩ = some (.slice t.a.1 t.words.length t.a.2) := B17.cell 1
  have t2 : w11.cell? ⟨w10.heap.size, 2, none⟩ = some (.slice t.b.1 t.texts.length t.b.2) := B17.cell 2
  have t3 : w11.cell? ⟨w10.heap.size, 3, none⟩ = some (.slice t.c.1 t.subs.length t.c.2) := B17.cell 3
  have lt := B17.lt
  refine calm (fun _ _ _ hd h => ⟨hd, h.2⟩) (treg12 (x := x) (y := y) (z0 := z0) (z1 := z1) (u := u) (t := t) (rq := R) (sq := sq) (dI := dI) (ok := true) (P4 := fun m => bareV m = bareV v) (P8 := fun m => bare m = bare x) (P9 := fun m => bare m = bare x) x0 x1 y0 y1 c0 c1 d0 d1 r0 r1 r2 r3 t0 t1 t2 t3 lx ly lc ld lv lt (decide_eq_true k0J)
    (Lib.hid fun W h => H5.out W (hs.up h) (hx.up h)) (Lib.hid fun W h => H8.out W (hx.up h) (hy.up h)) (Lib.hid fun W h => H9.out W z0 z1 P0.out P1.out (a0.up h) (a1.up h))
    (Lib.hid fun W h => H16.out W u u1.out (u2.up h)) (Lib.hid fun W m h p k => H17.out W m t (p.trans Ht2.out.symm) k (at_.up h))
    (Lib.hid fun W h => H11.out W (hx.up h)) (Lib.hid fun W h => H12.out W z0 P0.out (a0.up h))
    (Lib.hid fun W h => (H13.out W (hx.up h)).mono (fun e w' ⟨m, q0, q1, q2, _, q4⟩ => ⟨m, q0, q1, q2, q4⟩))
    (Lib.hid fun W m h p k => (H14.out W m p k).mono (fun e w' ⟨m, q0, q1, q2, _, q4⟩ => ⟨m, q0, q1, q2, q4⟩))
    (Lib.hid fun W m h p k => H10.out W m z0 p P0.out k (a0.up h)) ?_)
  intro s62 s63 s64 s65 s66 s67 s68 s69 s70 s71 s72 s73 s74 s75 s76 s77 s78 s79 s80 s81 s82 s83 s84 s85 s86 s87 s88 s89 s90 s91 s92 s93 s94 s95 s96 s97 s98 s99 s100 s101 s102 wz Xz
  go_wp2
  go_ret
  exact ⟨rfl, X0.trans (hX.trans (Ext.trans Xz (by repeat with_reducible (first | exact Ext.refl _ | refine Ext.alloc ?_ _ | refine Ext.drew ?_ | refine Ext.drewN ?_ _ | refine Ext.setCell ?_ (by first | exact Nat.le_refl _ | omega | (simp; done) | (simp; omega)) _))))⟩

theorem treeRight_walk {A : Option Addr} {n c : Nat} {S : List MsgV} {root N : Int} {x y : MsgR} {w : World} (hs : SchemaAt w A n c S) (hroot : -9223372036854775808 ≤ root ∧ root < 9223372036854775808) (hx : TreeAt w x) (fx : FitT 1048576 x) (gx : LongT 1048576 x) (hy : TreeAt w y) (fy : FitT 1048576 y) (gy : LongT 1048576 y) (hN : -9223372036854775808 ≤ N ∧ N < 9223372036854775808) :
    Calls Tryz.prog 4 #[.slice A n c, .int .i64 root, treeV x, treeV y, .int .i64 N] w fun e w' => e = .returned (.bool true) ∧ Ext w w' := by
  have f1 : FitT 1000000000000 x := fx.le (by decide)
  have g1 : LongT 1000000000 x := gx.le (by decide)
  have f2 : FitT 1000000000000 y := fy.le (by decide)
  have g2 : LongT 1000000000 y := gy.le (by decide)
  rcases hR : rightS (S.map MsgV.d) with _ | _
  · rcases idxB_cases (fun v : ValR => v.number == N) x.vals with ⟨hi, _⟩ | ⟨k, v, hi, hv, _⟩
    · exact treeRight_00 hs hx hy f1 g1 f2 g2 hR hi
    · exact treeRight_01 hs hx hy f1 g1 f2 g2 hR hi hv
  · rcases idxB_cases (fun v : ValR => v.number == N) x.vals with ⟨hi, _⟩ | ⟨k, v, hi, hv, _⟩
    · exact treeRight_10 hs hx hy f1 g1 f2 g2 hR hi
    · exact treeRight_11 hs hx hy f1 g1 f2 g2 hR hi hv

end Go.Proofs.YtgjhglehghjoeaaGreat
