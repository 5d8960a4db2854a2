/- Contracts of layer 20: a load from a value. -/
import Derived.Test.YtnnphodgegcddaaGreatQfS35
import Derived.Test.YtnnphodgegcddaaGreatQfW20s
import Derived.Test.YtnnphodgegcddaaGreatQfW16
import Derived.Test.YtnnphodgegcddaaGreatQfW17
import Derived.Test.YtnnphodgegcddaaGreatQfM14p

namespace Go.Proofs.YtnnphodgegcddaaGreat
open Go.RowKit Go.Shelf
set_option linter.unusedVariables false

set_option maxRecDepth 100000 in
set_option maxHeartbeats 4000000 in
theorem lFrom_run {A : Option Addr} {n c : Nat} {S : List MsgV} {f : FieldD} {v : ValR} {w : World} (hs : SchemaAt w A n c S) (hv : ValAt w v) (hF : FitV 1000000000000 1000000000 (bareV v)) (h0 : argsL (S.map MsgV.d) f 0 = 0) (h1 : FitP (S.map MsgV.d) f (bareV v) ∨ (manyU (bareV v) = 0 ∧ f.rep = true)) (hr : f.rep = true) (hk : numberB f.kind = true) (hm : v.words.length ≤ 1000000000) :
  Calls Tryz.prog 21 #[.slice A n c, fieldV f, tvalV v] w fun e w' => ∃ A' c', e = .returned (.tuple #[.slice A' (packW f.kind v.words).length c', .int .u8 0]) ∧ Own w w' 5 1 A' (packW f.kind v.words).length c' ((packW f.kind v.words).map bv) := by
 have hl := fun W (h : SchemaAt W A n c S) => lArgs (f := f) (d := 0) h
 have BF := (BlkT.new w 48 #[.string f.name, .int .i64 f.number, .int .i64 f.kind, .bool f.rep, .bool f.packed, .int .i64 f.of_] rfl).alloc (.cells #[.int .i64 v.number, .slice v.a.1 v.words.length v.a.2, .slice v.b.1 v.texts.length v.b.2, .slice v.c.1 v.subs.length v.c.2] 52)
 have BV := BlkT.new (w.alloc (.cells #[.string f.name, .int .i64 f.number, .int .i64 f.kind, .bool f.rep, .bool f.packed, .int .i64 f.of_] 48)) 52 #[.int .i64 v.number, .slice v.a.1 v.words.length v.a.2, .slice v.b.1 v.texts.length v.b.2, .slice v.c.1 v.subs.length v.c.2] (show w.heap.size + 1 = _ by simp)
 have X0 : Ext w ((w.alloc (.cells #[.string f.name, .int .i64 f.number, .int .i64 f.kind, .bool f.rep, .bool f.packed, .int .i64 f.of_] 48)).alloc (.cells #[.int .i64 v.number, .slice v.a.1 v.words.length v.a.2, .slice v.b.1 v.texts.length v.b.2, .slice v.c.1 v.subs.length v.c.2] 52)) := ((Ext.refl w).alloc _).alloc _
 have hR : rightS (S.map MsgV.d) = true := by
  rcases hR : rightS (S.map MsgV.d) with _ | _
  · rw [argsL_ill hR] at h0
    cases h0
  · rfl
 have hf := fun W (h : SchemaAt W A n c S) (q : ValAt W v) => tFitsT (f := f) hR h q hF
 rw [h0] at hl
 have hb := hF.lens
 have hp := fun W => lPacked (f := f) (w := W)
 rw [hr, hk] at hp
 have hu := fun W (h : WordsAt W v.a.1 v.words.length v.a.2 v.words) => uPack h hv.own.small hm hk
 have hN : eqB (FitP (S.map MsgV.d) f (bareV v)) = false → (v.words.length : Int) + v.texts.length + v.subs.length = 0 := by
  intro q
  rcases h1 with h1 | ⟨h1, _⟩
  · rw [eqB_yes h1] at q
    cases q
  · have h1' : v.words.length + v.texts.length + (v.subs.map bare).length = 0 := h1
    rw [List.length_map] at h1'
    omega
 have Hl := Lib.hid hl
 have Hf := Lib.hid hf
 have Hp := Lib.hid hp
 have Hu := Lib.hid hu
 have HS := Lib.hid hs
 have HV := Lib.hid hv
 clear hl hf hs hv h0 h1 hF hR hp hu hk hm
 unfold fieldV tvalV
 unfold fieldV tvalV at Hf
 unfold fieldV at Hl Hp
 generalize packW f.kind v.words = R at *
 generalize eqB (FitP (S.map MsgV.d) f (bareV v)) = fit at *
 rw [hr] at BF BV X0 Hl Hf Hp ⊢
 clear hr
 rcases fit with _ | _
 all_goals
  try replace hN := hN rfl
  go_enter Tryz.func21, Tryz.ntmps21
  go_wp2_with fail
  generalize (w.alloc (.cells #[.string f.name, .int .i64 f.number, .int .i64 f.kind, .bool _, .bool f.packed, .int .i64 f.of_] 48)).alloc (.cells #[.int .i64 v.number, .slice v.a.1 v.words.length v.a.2, .slice v.b.1 v.texts.length v.b.2, .slice v.c.1 v.subs.length v.c.2] 52) = wx at *
  have z0 : wx.cell? ⟨w.heap.size, 0, none⟩ = some (.string f.name) := BF.cell 0
  have z1 : wx.cell? ⟨w.heap.size, 1, none⟩ = some (.int .i64 f.number) := BF.cell 1
  have z2 : wx.cell? ⟨w.heap.size, 2, none⟩ = some (.int .i64 f.kind) := BF.cell 2
  have z3 : wx.cell? ⟨w.heap.size, 3, none⟩ = some (.bool _) := BF.cell 3
  have z4 : wx.cell? ⟨w.heap.size, 4, none⟩ = some (.bool f.packed) := BF.cell 4
  have z5 : wx.cell? ⟨w.heap.size, 5, none⟩ = some (.int .i64 f.of_) := BF.cell 5
  have y0 : wx.cell? ⟨w.heap.size + 1, 0, none⟩ = some (.int .i64 v.number) := BV.cell 0
  have y1 : wx.cell? ⟨w.heap.size + 1, 1, none⟩ = some (.slice v.a.1 v.words.length v.a.2) := BV.cell 1
  have y2 : wx.cell? ⟨w.heap.size + 1, 2, none⟩ = some (.slice v.b.1 v.texts.length v.b.2) := BV.cell 2
  have y3 : wx.cell? ⟨w.heap.size + 1, 3, none⟩ = some (.slice v.c.1 v.subs.length v.c.2) := BV.cell 3
  clear BF BV
  go_wp2_with (first
   | (go_at_call 58; refine (Hl.out _ (HS.out.up X0)).mono ?_; rintro e w1 ⟨rfl, E1⟩; replace z0 := E1.of_cell z0; replace z1 := E1.of_cell z1; replace z2 := E1.of_cell z2; replace z3 := E1.of_cell z3; replace z4 := E1.of_cell z4; replace z5 := E1.of_cell z5; replace y0 := E1.of_cell y0; replace y1 := E1.of_cell y1; replace y2 := E1.of_cell y2; replace y3 := E1.of_cell y3; have X1 := X0.trans E1)
   | (go_at_call 59; refine (Hf.out _ (HS.out.up X1) (HV.out.up X1)).mono ?_; rintro e w2 ⟨rfl, E2⟩; replace z0 := E2.of_cell z0; replace z1 := E2.of_cell z1; replace z2 := E2.of_cell z2; replace z3 := E2.of_cell z3; replace z4 := E2.of_cell z4; replace z5 := E2.of_cell z5; replace y0 := E2.of_cell y0; replace y1 := E2.of_cell y1; replace y2 := E2.of_cell y2; replace y3 := E2.of_cell y3; have X2 := X1.trans E2)
   | (go_at_call 60; refine (Hp.out _).mono ?_; rintro e w3 ⟨rfl, E3⟩; replace z0 := E3.of_cell z0; replace z1 := E3.of_cell z1; replace z2 := E3.of_cell z2; replace z3 := E3.of_cell z3; replace z4 := E3.of_cell z4; replace z5 := E3.of_cell z5; replace y0 := E3.of_cell y0; replace y1 := E3.of_cell y1; replace y2 := E3.of_cell y2; replace y3 := E3.of_cell y3; have X3 := X2.trans E3)
   | (go_at_call 61; refine (Hu.out _ (HV.out.own.words.ext X3)).mono ?_; rintro e w4 ⟨A4, c4, rfl, own4⟩))
  all_goals
   go_ret2
   exact ⟨A4, c4, rfl, own4.since X3⟩

set_option maxRecDepth 100000 in
set_option maxHeartbeats 4000000 in
theorem lFrom_number {A : Option Addr} {n c : Nat} {S : List MsgV} {f : FieldD} {v : ValR} {w : World} (hs : SchemaAt w A n c S) (hv : ValAt w v) (hF : FitV 1000000000000 1000000000 (bareV v)) (h0 : argsL (S.map MsgV.d) f 0 = 0) (h1 : FitP (S.map MsgV.d) f (bareV v)) (hr : f.rep = false) (hk : numberB f.kind = true) :
  Calls Tryz.prog 21 #[.slice A n c, fieldV f, tvalV v] w fun e w' => ∃ A' c', e = .returned (.tuple #[.slice A' (packW f.kind v.words).length c', .int .u8 0]) ∧ Own w w' 5 1 A' (packW f.kind v.words).length c' ((packW f.kind v.words).map bv) := by
 have hR : rightS (S.map MsgV.d) = true := by
  rcases hR : rightS (S.map MsgV.d) with _ | _
  · rw [argsL_ill hR] at h0
    cases h0
  · rfl
 have hl := fun W (h : SchemaAt W A n c S) => lArgs (f := f) (d := 0) h
 have hf := fun W (h : SchemaAt W A n c S) (q : ValAt W v) => tFitsT (f := f) hR h q hF
 have hp := fun W => lPacked (f := f) (w := W)
 have hn := fun W => kNumber f.kind W
 rw [h0] at hl
 rw [hr, hk, Bool.false_and] at hp
 rw [hk] at hn
 rw [eqB_yes h1] at hf
 obtain ⟨hm, ht, hsb⟩ : v.words.length = 1 ∧ v.texts.length = 0 ∧ v.subs.length = 0 := by
  obtain ⟨_, q, ⟨_, b1, b2, _⟩ | ⟨b0, _⟩ | ⟨b0, _⟩⟩ := h1
  · have q := q hr
    unfold manyU at q
    rw [b1, b2] at q
    have b1' : v.texts = [] := b1
    have b2' : v.subs.map bare = [] := b2
    refine ⟨?_, by rw [b1']; rfl, ?_⟩
    · have : v.words.length + 0 + 0 = 1 := q
      omega
    · have := congrArg List.length b2'
      rw [List.length_map] at this
      exact this
  · rw [b0] at hk
    cases hk
  · rw [b0] at hk
    exact absurd hk (by decide)
 obtain ⟨x, hx, hpk⟩ := packW_one (k := f.kind) hm
 rw [hpk]
 have hx64 := hv.own.small x (by rw [hx]; exact List.mem_cons_self)
 obtain ⟨b, off, y, hA, hy, c0⟩ := WordsAt.word (k := 0) hv.own.words (by omega)
 obtain rfl : x = y := by rw [hx] at hy; simpa using hy
 rw [Nat.add_zero] at c0
 have hu := fun W => sPut (w := W) hx64 hk (y := (x : Int)) rfl
 have hbl := World.block_lt_of_cell? w _ c0
 have Hl := Lib.hid hl
 have Hf := Lib.hid hf
 have Hp := Lib.hid hp
 have Hn := Lib.hid hn
 have Hu := Lib.hid hu
 clear hl hf hp hn hu h0 h1 hF hR hk hy hx64 hpk hx
 unfold fieldV tvalV
 unfold fieldV tvalV at Hf
 unfold fieldV at Hl Hp
 generalize putS f.kind x = R at *
 rw [hr] at Hl Hf Hp ⊢
 rw [hm, ht, hsb, hA] at Hf ⊢
 clear hr
 have BF := (BlkT.new w 48 #[.string f.name, .int .i64 f.number, .int .i64 f.kind, .bool false, .bool f.packed, .int .i64 f.of_] rfl).alloc (.cells #[.int .i64 v.number, .slice (some ⟨b, off, none⟩) (1 : Nat) v.a.2, .slice v.b.1 (0 : Nat) v.b.2, .slice v.c.1 (0 : Nat) v.c.2] 52)
 have BV := BlkT.new (w.alloc (.cells #[.string f.name, .int .i64 f.number, .int .i64 f.kind, .bool false, .bool f.packed, .int .i64 f.of_] 48)) 52 #[.int .i64 v.number, .slice (some ⟨b, off, none⟩) (1 : Nat) v.a.2, .slice v.b.1 (0 : Nat) v.b.2, .slice v.c.1 (0 : Nat) v.c.2] (show w.heap.size + 1 = _ by simp)
 have X0 : Ext w ((w.alloc (.cells #[.string f.name, .int .i64 f.number, .int .i64 f.kind, .bool false, .bool f.packed, .int .i64 f.of_] 48)).alloc (.cells #[.int .i64 v.number, .slice (some ⟨b, off, none⟩) (1 : Nat) v.a.2, .slice v.b.1 (0 : Nat) v.b.2, .slice v.c.1 (0 : Nat) v.c.2] 52)) := ((Ext.refl w).alloc _).alloc _
 go_enter Tryz.func21, Tryz.ntmps21
 go_wp2_with fail
 generalize (w.alloc (.cells #[.string f.name, .int .i64 f.number, .int .i64 f.kind, .bool false, .bool f.packed, .int .i64 f.of_] 48)).alloc (.cells #[.int .i64 v.number, .slice (some ⟨b, off, none⟩) _ v.a.2, .slice v.b.1 _ v.b.2, .slice v.c.1 _ v.c.2] 52) = wx at *
 have z0 : wx.cell? ⟨w.heap.size, 0, none⟩ = some (.string f.name) := BF.cell 0
 have z1 : wx.cell? ⟨w.heap.size, 1, none⟩ = some (.int .i64 f.number) := BF.cell 1
 have z2 : wx.cell? ⟨w.heap.size, 2, none⟩ = some (.int .i64 f.kind) := BF.cell 2
 have z3 : wx.cell? ⟨w.heap.size, 3, none⟩ = some (.bool false) := BF.cell 3
 have z4 : wx.cell? ⟨w.heap.size, 4, none⟩ = some (.bool f.packed) := BF.cell 4
 have z5 : wx.cell? ⟨w.heap.size, 5, none⟩ = some (.int .i64 f.of_) := BF.cell 5
 have y0 : wx.cell? ⟨w.heap.size + 1, 0, none⟩ = some (.int .i64 v.number) := BV.cell 0
 have y1 : wx.cell? ⟨w.heap.size + 1, 1, none⟩ = some (.slice (some ⟨b, off, none⟩) (1 : Nat) v.a.2) := BV.cell 1
 have y2 : wx.cell? ⟨w.heap.size + 1, 2, none⟩ = some (.slice v.b.1 (0 : Nat) v.b.2) := BV.cell 2
 have y3 : wx.cell? ⟨w.heap.size + 1, 3, none⟩ = some (.slice v.c.1 (0 : Nat) v.c.2) := BV.cell 3
 have lf := BF.lt
 have lv := BV.lt
 have hX := Ext.refl wx
 replace hs := hs.up X0
 replace hv := hv.up X0
 replace c0 := X0.of_cell c0
 replace hbl := Nat.lt_of_lt_of_le hbl X0.size
 clear BF BV
 go_wp2_with (first
  | (go_at_call 58; refine (Hl.out _ hs).mono ?_; rintro e w1 ⟨rfl, E1⟩; have X_ : Ext wx w1 := Ext.trans (by repeat with_reducible (first | exact Ext.refl _ | refine Ext.alloc ?_ _ | refine Ext.drew ?_ | refine Ext.drewN ?_ _ | refine Ext.setCell ?_ (by first | omega | (simp <;> omega)) _)) E1; replace hX := hX.up X_; replace hs := hs.up X_; replace hv := hv.up X_; replace z0 := X_.of_cell z0; replace z1 := X_.of_cell z1; replace z2 := X_.of_cell z2; replace z3 := X_.of_cell z3; replace z4 := X_.of_cell z4; replace z5 := X_.of_cell z5; replace y0 := X_.of_cell y0; replace y1 := X_.of_cell y1; replace y2 := X_.of_cell y2; replace y3 := X_.of_cell y3; replace c0 := X_.of_cell c0; clear X_)
  | (go_at_call 59; refine (Hf.out _ hs hv).mono ?_; rintro e w2 ⟨rfl, E2⟩; have X_ : Ext w1 w2 := Ext.trans (by repeat with_reducible (first | exact Ext.refl _ | refine Ext.alloc ?_ _ | refine Ext.drew ?_ | refine Ext.drewN ?_ _ | refine Ext.setCell ?_ (by first | omega | (simp <;> omega)) _)) E2; replace hX := hX.up X_; replace z0 := X_.of_cell z0; replace z1 := X_.of_cell z1; replace z2 := X_.of_cell z2; replace z3 := X_.of_cell z3; replace z4 := X_.of_cell z4; replace z5 := X_.of_cell z5; replace y0 := X_.of_cell y0; replace y1 := X_.of_cell y1; replace y2 := X_.of_cell y2; replace y3 := X_.of_cell y3; replace c0 := X_.of_cell c0; clear X_)
  | (go_at_call 60; refine (Hp.out _).mono ?_; rintro e w3 ⟨rfl, E3⟩; have X_ : Ext w2 w3 := Ext.trans (by repeat with_reducible (first | exact Ext.refl _ | refine Ext.alloc ?_ _ | refine Ext.drew ?_ | refine Ext.drewN ?_ _ | refine Ext.setCell ?_ (by first | omega | (simp <;> omega)) _)) E3; replace hX := hX.up X_; replace z1 := X_.of_cell z1; replace z2 := X_.of_cell z2; replace z3 := X_.of_cell z3; replace y1 := X_.of_cell y1; replace y2 := X_.of_cell y2; replace y3 := X_.of_cell y3; replace c0 := X_.of_cell c0; clear X_)
  | (go_at_call 62; refine (Hn.out _).mono ?_; rintro e w4 ⟨rfl, E4⟩; have X_ : Ext w3 w4 := Ext.trans (by repeat with_reducible (first | exact Ext.refl _ | refine Ext.alloc ?_ _ | refine Ext.drew ?_ | refine Ext.drewN ?_ _ | refine Ext.setCell ?_ (by first | omega | (simp <;> omega)) _)) E4; replace hX := hX.up X_; replace z2 := X_.of_cell z2; replace y1 := X_.of_cell y1; replace c0 := X_.of_cell c0; clear X_))
 replace lf := Nat.lt_of_lt_of_le lf hX.size
 replace lv := Nat.lt_of_lt_of_le lv hX.size
 replace hbl := Nat.lt_of_lt_of_le hbl hX.size
 have Q4 : Ext w4 w4 := Ext.refl w4
 go_region_held3 (fun W => Ext w4 W ∧ ∀ b o, b < w4.heap.size → W.cell? ⟨b, o, none⟩ = w4.cell? ⟨b, o, none⟩) ((refine Ext.keep ?_; repeat with_reducible (first | assumption | exact Ext.refl _ | refine Ext.alloc ?_ _ | refine Ext.drew ?_ | refine Ext.drewN ?_ _ | refine Ext.setCell ?_ (by first | omega | (simp <;> omega)) _))) (first
  | (go_split_ands; go_at_call 63; refine (Hu.out _).mono ?_; rintro e w5 ⟨A5, c5, rfl, own5⟩; have q5 : Ext w4 w5 := Ext.trans (by with_reducible assumption) own5.ext))
 go_wp2
 go_ret2
 exact ⟨A5, c5, rfl, own5.since (X0.trans (hX.trans (by repeat with_reducible (first | exact Ext.refl _ | refine Ext.alloc ?_ _ | refine Ext.drew ?_ | refine Ext.drewN ?_ _ | refine Ext.setCell ?_ (by first | omega | (simp <;> omega)) _))))⟩

end Go.Proofs.YtnnphodgegcddaaGreat

/- Words of my own for memory: slices of bytes that a call makes one by one. -/



namespace Go.Proofs.YtnnphodgegcddaaGreat
open Go.RowKit Go.Shelf
set_option linter.unusedVariables false

structure PartsB (w0 w : World) (A : Option Addr) (n c : Nat) (l : List BRow) : Prop where
 own : Own w0 w 24 1 A n c (l.map browV)
 each : ∀ r ∈ l, BytesAt w r.A r.n r.c r.bs
 apart : ∀ r ∈ l, ∀ b, UsesA r.A r.n b → (Value.slice A 0 0).ownBlock ≠ some b

theorem PartsB.nil (w : World) : PartsB w w none 0 0 [] := ⟨Own.nil (Ext.refl _) _ _, fun r h => (by cases h), fun r h => (by cases h)⟩

theorem PartsB.rows {w0 w : World} {A : Option Addr} {n c : Nat} {l : List BRow} (h : PartsB w0 w A n c l) : BRowsAt w A n c l := ⟨h.own.reads, h.each⟩

theorem uses_lt {w : World} {A : Option Addr} {n c : Nat} {bs : List UInt8} (h : BytesAt w A n c bs) {b : Nat} (hu : UsesA A n b) : b < w.heap.size := by
 obtain ⟨h0, p, rfl, rfl⟩ := hu
 obtain ⟨b, off, e, hb, _⟩ := h.at_ h0
 cases e
 exact hb

theorem own_new {w0 w : World} {A : Option Addr} {n c : Nat} {xs : List Value} {e : TypeId} {size : Nat} (h : Own w0 w e size A n c xs) : ∀ b, UsesA A n b → w0.heap.size ≤ b := by
 rintro b ⟨h0, p, rfl, rfl⟩
 have := (h.row.lt p.block (Reads.row_uses (b := p.block) ⟨h0, p, rfl, rfl⟩ h |> fun q => by rw [ownBlock_any _ n c 0 0]; exact q)).1
 exact this

theorem PartsB.more {w0 w w1 w' : World} {A A' : Option Addr} {n c c' : Nat} {l : List BRow} {r : BRow} (h : PartsB w0 w A n c l) (X : Ext w w1) (hr : BytesAt w1 r.A r.n r.c r.bs) (hu : ∀ b, UsesA r.A r.n b → w.heap.size ≤ b)
  (own' : Own w0 w' 24 1 A' (n + 1) c' (l.map browV ++ [browV r])) (g : w1.grownBy w' (Value.slice A n c).ownBlock) (m : Moved w1 A A') : PartsB w0 w' A' (n + 1) c' (l ++ [r]) := by
 have st : Stays (fun b => (Value.slice A 0 0).ownBlock ≠ some b) w1 w' := Stays.grown g (fun k hk q => q (by rw [ownBlock_any A 0 0 n c]; exact hk))
 have hl : ∀ b, (Value.slice A 0 0).ownBlock = some b → b < w.heap.size := fun b hb => by
  have := (h.own.row.lt b (by rw [ownBlock_any A n c 0 0]; exact hb)).2
  exact this
 have ap : ∀ q ∈ l ++ [r], ∀ b, UsesA q.A q.n b → (Value.slice A 0 0).ownBlock ≠ some b ∧ b < w1.heap.size := fun q hq b hb => by
  rcases List.mem_append.1 hq with hq | hq
  · exact ⟨h.apart q hq b hb, Nat.lt_of_lt_of_le (uses_lt (h.each q hq) hb) X.size⟩
  · simp only [List.mem_singleton] at hq
    subst hq
    refine ⟨fun e => ?_, uses_lt hr hb⟩
    have h1 := hl b e
    have h2 := hu b hb
    omega
 have at1 : ∀ q ∈ l ++ [r], BytesAt w1 q.A q.n q.c q.bs := fun q hq => by
  rcases List.mem_append.1 hq with hq | hq
  · exact (h.each q hq).up X
  · simp only [List.mem_singleton] at hq
    subst hq
    exact hr
 refine ⟨by rw [List.map_append]; exact own', fun q hq => Reads.stays (at1 q hq) st (fun b hb => (ap q hq b hb).1), fun q hq b hb e => ?_⟩
 obtain ⟨a1, a2⟩ := ap q hq b hb
 rcases m with m | m
 · rw [m] at e
   exact a1 e
 · rw [m] at e
   injection e with e
   omega

theorem conv_textN (w : World) (t : ByteArray) (ht : t.data.toList.length ≤ maxLen) : ∃ (A : Option Addr) (c : Nat) (W2 : World), (convert 9 24 (.string t)).run Tryz.prog w = .ok (.slice A t.data.toList.length c) W2 ∧ Ext w W2 ∧ BytesAt W2 A t.data.toList.length c t.data.toList ∧ ∀ b, UsesA A t.data.toList.length b → w.heap.size ≤ b := by
 obtain ⟨A, c, W2, h1, h2, h3⟩ := conv_text w t ht
 refine ⟨A, c, W2, h1, h2, h3, ?_⟩
 have hsz : t.size = t.data.toList.length := rfl
 have hr := Go.Lib.run_convert_string_bytes (P := Tryz.prog) w 9 24 5 t Tryz.underlying9 Tryz.underlying24 Tryz.underlying5
 have e := h1.symm.trans hr
 injection e with e _
 injection e with e _ _
 rintro b ⟨_, p, hp, rfl⟩
 rw [e] at hp
 injection hp with hp
 rw [← hp]
 exact Nat.le_refl _

end Go.Proofs.YtnnphodgegcddaaGreat
