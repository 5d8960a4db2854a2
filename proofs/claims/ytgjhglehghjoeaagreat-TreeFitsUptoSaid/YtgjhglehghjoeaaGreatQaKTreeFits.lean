/- The walk of the law TreeFits, out of its callees' contracts. -/
import Derived.Test.YtgjhglehghjoeaaGreatQaW20s
import Derived.Test.YtgjhglehghjoeaaGreatQaW20
import Derived.Test.YtgjhglehghjoeaaGreatQaW14w
import Derived.Test.YtgjhglehghjoeaaGreatQaW14o
import Derived.Test.YtgjhglehghjoeaaGreatQaKSchemaChecks

namespace Go.Proofs.YtgjhglehghjoeaaGreat
open Go.RowKit Go.Shelf
set_option linter.unusedVariables false

set_option maxRecDepth 100000 in
set_option maxHeartbeats 4000000 in
theorem treeFits_any {A : Option Addr} {n c : Nat} {S : List MsgV} {f : FieldD} {v : ValR} {w : World} (hs : SchemaAt w A n c S) (hf : f.Ok) (hv : ValAt w v) (hF : FitV 1000000000000 1000000000 (bareV v)) :
    Calls Tryz.prog 3 #[.slice A n c, fieldV f, tvalV v] w fun e w' => e = .returned (.bool true) ∧ Ext w w' := by
  have hE := Ext.refl w
  have hcap := hs.1.cap
  have h1 := fun W (h : SchemaAt W A n c S) => sRightR h
  have h2 := fun W (h : ValAt W v) => tSizeV (v := v) (fun y _ => tSize y) 70 W (by omega) (by omega) h
  rcases hR : rightS (S.map MsgV.d) with _ | _
  · rw [hR] at h1
    have H1 := Lib.hid h1
    clear h1 h2 hR hF
    unfold fieldV tvalV
    go_enter Tryz.func3, Tryz.ntmps3
    go_wp2_with (first
      | (go_at_call 11; refine (alive14 _).mono ?_; rintro e w1 ⟨rfl, E1⟩; have X_ : Ext w w1 := Ext.trans (by repeat with_reducible (first | exact Ext.refl _ | refine Ext.alloc ?_ _ | refine Ext.drew ?_ | refine Ext.drewN ?_ _ | refine Ext.setCell ?_ (by first | exact Nat.le_refl _ | omega | (simp; done) | (simp; omega)) _)) E1; replace hE := hE.up X_; replace hs := hs.up X_; clear X_)
      | (go_at_call 12; refine (few07 hs).mono ?_; rintro e w2 ⟨x, rfl, E2⟩; have X_ : Ext w1 w2 := Ext.trans (by repeat with_reducible (first | exact Ext.refl _ | refine Ext.alloc ?_ _ | refine Ext.drew ?_ | refine Ext.drewN ?_ _ | refine Ext.setCell ?_ (by first | exact Nat.le_refl _ | omega | (simp; done) | (simp; omega)) _)) E2; replace hE := hE.up X_; replace hs := hs.up X_; clear X_)
      | (go_at_call 13; refine (H1.out _ hs).mono ?_; rintro e w3 ⟨rfl, E3⟩; have X_ : Ext w2 w3 := Ext.trans (by repeat with_reducible (first | exact Ext.refl _ | refine Ext.alloc ?_ _ | refine Ext.drew ?_ | refine Ext.drewN ?_ _ | refine Ext.setCell ?_ (by first | exact Nat.le_refl _ | omega | (simp; done) | (simp; omega)) _)) E3; replace hE := hE.up X_; clear X_))
    all_goals
      go_ret
      exact ⟨rfl, hE⟩
  · rw [hR] at h1
    have h3 := fun W (h : SchemaAt W A n c S) (k : ValAt W v) => tFitsT (f := f) hR h k hF
    have h4 := fun W (k : ValAt W v) => tOfV (v := v) (fun y _ => tOf y) W k hF.lens.2.2 (fun y hy => (hF.subs y hy).1)
    have h5 := fun W (u : ValR) (hu : bareV u = bareV v) (h : SchemaAt W A n c S) (k : ValAt W u) => rFitsT (f := f) hR h k (by rw [hu]; exact hF)
    have h5 : ∀ W (u : ValR), bareV u = bareV v → SchemaAt W A n c S → ValAt W u → Calls Tryz.prog 16 #[.slice A n c, fieldV f, tvalV u] W fun e w' => e = .returned (.bool (eqB (FitP (S.map MsgV.d) f (bareV v)))) ∧ Ext W w' := fun W u hu h k => by
      have := h5 W u hu h k
      rwa [hu] at this
    generalize eqB (FitP (S.map MsgV.d) f (bareV v)) = R at *
    unfold fieldV tvalV at *
    have H1 := Lib.hid h1
    have H2 := Lib.hid h2
    have H3 := Lib.hid h3
    have H4 := Lib.hid h4
    have H5 := Lib.hid h5
    clear h1 h2 h3 h4 h5 hR hF
    go_enter Tryz.func3, Tryz.ntmps3
    go_wp2_with fail
    have BF := (BlkT.new w 25 #[.string f.name, .int .i64 f.number, .int .i64 f.kind, .bool f.rep, .bool f.packed, .int .i64 f.of_] rfl).alloc (.cells #[.int .i64 v.number, .slice v.a.1 v.words.length v.a.2, .slice v.b.1 v.texts.length v.b.2, .slice v.c.1 v.subs.length v.c.2] 30)
    have BV := BlkT.new (w.alloc (.cells #[.string f.name, .int .i64 f.number, .int .i64 f.kind, .bool f.rep, .bool f.packed, .int .i64 f.of_] 25)) 30 #[.int .i64 v.number, .slice v.a.1 v.words.length v.a.2, .slice v.b.1 v.texts.length v.b.2, .slice v.c.1 v.subs.length v.c.2] (show w.heap.size + 1 = _ by simp)
    have X0 : Ext w ((w.alloc (.cells #[.string f.name, .int .i64 f.number, .int .i64 f.kind, .bool f.rep, .bool f.packed, .int .i64 f.of_] 25)).alloc (.cells #[.int .i64 v.number, .slice v.a.1 v.words.length v.a.2, .slice v.b.1 v.texts.length v.b.2, .slice v.c.1 v.subs.length v.c.2] 30)) := ((Ext.refl w).alloc _).alloc _
    generalize (w.alloc (.cells #[.string f.name, .int .i64 f.number, .int .i64 f.kind, .bool f.rep, .bool f.packed, .int .i64 f.of_] 25)).alloc (.cells #[.int .i64 v.number, .slice v.a.1 v.words.length v.a.2, .slice v.b.1 v.texts.length v.b.2, .slice v.c.1 v.subs.length v.c.2] 30) = wx at *
    replace hs := hs.up X0
    replace hv := hv.up X0
    have z0 : wx.cell? ⟨w.heap.size, 0, none⟩ = some (.string f.name) := BF.cell 0
    have z1 : wx.cell? ⟨w.heap.size, 1, none⟩ = some (.int .i64 f.number) := BF.cell 1
    have z2 : wx.cell? ⟨w.heap.size, 2, none⟩ = some (.int .i64 f.kind) := BF.cell 2
    have z3 : wx.cell? ⟨w.heap.size, 3, none⟩ = some (.bool f.rep) := BF.cell 3
    have z4 : wx.cell? ⟨w.heap.size, 4, none⟩ = some (.bool f.packed) := BF.cell 4
    have z5 : wx.cell? ⟨w.heap.size, 5, none⟩ = some (.int .i64 f.of_) := BF.cell 5
    have v0 : wx.cell? ⟨w.heap.size + 1, 0, none⟩ = some (.int .i64 v.number) := BV.cell 0
    have v1 : wx.cell? ⟨w.heap.size + 1, 1, none⟩ = some (.slice v.a.1 v.words.length v.a.2) := BV.cell 1
    have v2 : wx.cell? ⟨w.heap.size + 1, 2, none⟩ = some (.slice v.b.1 v.texts.length v.b.2) := BV.cell 2
    have v3 : wx.cell? ⟨w.heap.size + 1, 3, none⟩ = some (.slice v.c.1 v.subs.length v.c.2) := BV.cell 3
    have lf := BF.lt
    have lv := BV.lt
    have hX := Ext.refl wx
    clear BF BV hE
    go_wp2_with (first
      | (go_at_call 11; refine (alive14 _).mono ?_; rintro e w1 ⟨rfl, E1⟩; have X_ : Ext wx w1 := Ext.trans (by repeat with_reducible (first | exact Ext.refl _ | refine Ext.alloc ?_ _ | refine Ext.drew ?_ | refine Ext.drewN ?_ _ | refine Ext.setCell ?_ (by first | exact Nat.le_refl _ | omega | (simp; done) | (simp; omega)) _)) E1; replace hX := hX.up X_; replace hs := hs.up X_; replace hv := hv.up X_; replace z0 := X_.of_cell z0; replace z1 := X_.of_cell z1; replace z2 := X_.of_cell z2; replace z3 := X_.of_cell z3; replace z4 := X_.of_cell z4; replace z5 := X_.of_cell z5; replace v0 := X_.of_cell v0; replace v1 := X_.of_cell v1; replace v2 := X_.of_cell v2; replace v3 := X_.of_cell v3; clear X_)
      | (go_at_call 12; refine (few07 hs).mono ?_; rintro e w2 ⟨x, rfl, E2⟩; have X_ : Ext w1 w2 := Ext.trans (by repeat with_reducible (first | exact Ext.refl _ | refine Ext.alloc ?_ _ | refine Ext.drew ?_ | refine Ext.drewN ?_ _ | refine Ext.setCell ?_ (by first | exact Nat.le_refl _ | omega | (simp; done) | (simp; omega)) _)) E2; replace hX := hX.up X_; replace hs := hs.up X_; replace hv := hv.up X_; replace z0 := X_.of_cell z0; replace z1 := X_.of_cell z1; replace z2 := X_.of_cell z2; replace z3 := X_.of_cell z3; replace z4 := X_.of_cell z4; replace z5 := X_.of_cell z5; replace v0 := X_.of_cell v0; replace v1 := X_.of_cell v1; replace v2 := X_.of_cell v2; replace v3 := X_.of_cell v3; clear X_)
      | (go_at_call 13; refine (H1.out _ hs).mono ?_; rintro e w3 ⟨rfl, E3⟩; have X_ : Ext w2 w3 := Ext.trans (by repeat with_reducible (first | exact Ext.refl _ | refine Ext.alloc ?_ _ | refine Ext.drew ?_ | refine Ext.drewN ?_ _ | refine Ext.setCell ?_ (by first | exact Nat.le_refl _ | omega | (simp; done) | (simp; omega)) _)) E3; replace hX := hX.up X_; replace hs := hs.up X_; replace hv := hv.up X_; replace z0 := X_.of_cell z0; replace z1 := X_.of_cell z1; replace z2 := X_.of_cell z2; replace z3 := X_.of_cell z3; replace z4 := X_.of_cell z4; replace z5 := X_.of_cell z5; replace v0 := X_.of_cell v0; replace v1 := X_.of_cell v1; replace v2 := X_.of_cell v2; replace v3 := X_.of_cell v3; clear X_)
      | (go_at_call 14; refine (H2.out _ hv).mono ?_; rintro e w4 ⟨y, rfl, E4⟩; have X_ : Ext w3 w4 := Ext.trans (by repeat with_reducible (first | exact Ext.refl _ | refine Ext.alloc ?_ _ | refine Ext.drew ?_ | refine Ext.drewN ?_ _ | refine Ext.setCell ?_ (by first | exact Nat.le_refl _ | omega | (simp; done) | (simp; omega)) _)) E4; replace hX := hX.up X_; replace hs := hs.up X_; replace hv := hv.up X_; replace z0 := X_.of_cell z0; replace z1 := X_.of_cell z1; replace z2 := X_.of_cell z2; replace z3 := X_.of_cell z3; replace z4 := X_.of_cell z4; replace z5 := X_.of_cell z5; replace v0 := X_.of_cell v0; replace v1 := X_.of_cell v1; replace v2 := X_.of_cell v2; replace v3 := X_.of_cell v3; clear X_))
    · go_ret
      exact ⟨rfl, X0.trans hX⟩
    · replace lf := Nat.lt_of_lt_of_le lf hX.size
      replace lv := Nat.lt_of_lt_of_le lv hX.size
      have Q4 : Ext w4 w4 := Ext.refl w4
      go_region_held3 (fun W => Ext w4 W ∧ ∀ b o, b < w4.heap.size → W.cell? ⟨b, o, none⟩ = w4.cell? ⟨b, o, none⟩) ((refine Ext.keep ?_; repeat with_reducible (first | assumption | exact Ext.refl _ | refine Ext.alloc ?_ _ | refine Ext.drew ?_ | refine Ext.drewN ?_ _ | refine Ext.setCell ?_ (by first | exact Nat.le_refl _ | omega | (simp; done) | (simp; omega)) _))) (first
        | (go_split_ands; go_at_call 15; refine (H3.out _ (hs.up (by with_reducible assumption)) (hv.up (by with_reducible assumption))).mono ?_; rintro e w5 ⟨rfl, E5⟩; have q5 : Ext w4 w5 := Ext.trans (by with_reducible assumption) E5)
        | (go_split_ands; go_at_call 17; refine (H4.out _ (hv.up (by with_reducible assumption))).mono ?_; rintro e w6 ⟨u, rfl, q1, q2, _, E6⟩; have q6 : Ext w4 w6 := Ext.trans (by with_reducible assumption) E6; have Hq1 := Lib.hid q1; clear q1)
        | (go_split_ands; go_at_call 16; refine (H5.out _ u Hq1.out (hs.up (by with_reducible assumption)) (q2.up (by repeat with_reducible (first | exact Ext.refl _ | refine Ext.alloc ?_ _ | refine Ext.drew ?_ | refine Ext.drewN ?_ _ | refine Ext.setCell ?_ (by first | exact Nat.le_refl _ | omega | (simp; done) | (simp; omega)) _)))).mono ?_; rintro e w7 ⟨rfl, E7⟩; have q7 : Ext w4 w7 := Ext.trans (by with_reducible assumption) E7))
      go_wp2
      go_ret
      exact ⟨ret_bool (by simp), X0.trans (hX.trans (Ext.trans q7 (by repeat with_reducible (first | exact Ext.refl _ | refine Ext.alloc ?_ _ | refine Ext.drew ?_ | refine Ext.drewN ?_ _ | refine Ext.setCell ?_ (by first | exact Nat.le_refl _ | omega | (simp; done) | (simp; omega)) _))))⟩
    · go_ret
      exact ⟨rfl, X0.trans hX⟩

theorem FitV.of_bulk {v : ValR} (h1 : v.words.length ≤ 1048576 ∧ v.texts.length ≤ 1048576 ∧ v.subs.length ≤ 1048576) (h2 : ∀ t ∈ v.texts, t.data.toList.length ≤ 1048576) (h3 : ∀ y ∈ v.subs, FitT 1048576 y ∧ LongT 1048576 y) : FitV 1000000000000 1000000000 (bareV v) :=
  FitV.mk' ⟨by omega, by omega, by omega⟩ (fun t ht => Nat.le_trans (h2 t ht) (by decide)) (fun y hy => ⟨(h3 y hy).1.le (by decide), (h3 y hy).2.le (by decide)⟩)

theorem treeFits_walk {A : Option Addr} {n c : Nat} {S : List MsgV} {f : FieldD} {v : ValR} {w : World} (hs : SchemaAt w A n c S) (hf : f.Ok) (hv : ValAt w v) (h1 : v.words.length ≤ 1048576 ∧ v.texts.length ≤ 1048576 ∧ v.subs.length ≤ 1048576) (h2 : ∀ t ∈ v.texts, t.data.toList.length ≤ 1048576) (h3 : ∀ y ∈ v.subs, FitT 1048576 y ∧ LongT 1048576 y) :
    Calls Tryz.prog 3 #[.slice A n c, fieldV f, tvalV v] w fun e w' => e = .returned (.bool true) ∧ Ext w w' :=
  treeFits_any hs hf hv (FitV.of_bulk h1 h2 h3)

end Go.Proofs.YtgjhglehghjoeaaGreat
