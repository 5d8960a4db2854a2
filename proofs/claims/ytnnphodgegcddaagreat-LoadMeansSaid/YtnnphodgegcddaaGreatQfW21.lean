/- Contracts of layer 16: what a writer writes. -/
import Derived.Test.YtnnphodgegcddaaGreatQfW16
import Derived.Test.YtnnphodgegcddaaGreatQfM14p
import Derived.Test.YtnnphodgegcddaaGreatQfW10
import Derived.Test.YtnnphodgegcddaaGreatQfW9
import Derived.Test.YtnnphodgegcddaaGreatQfW18
import Derived.Test.YtnnphodgegcddaaGreatQfW20g

namespace Go.Proofs.YtnnphodgegcddaaGreat
open Go.RowKit Go.Shelf
set_option linter.unusedVariables false

structure WrS (w0 wr : World) (bw : Nat) (SA : Option Addr) (sn sc : Nat) (xs : List UInt8) (A : Option Addr) (n c : Nat) : Prop where
 o : BlkT wr bw 194 #[.slice SA sn sc, .slice A n c]
 own : Own w0 wr 5 1 A n c (xs.map bv)
 nL : n = xs.length
 base : w0.heap.size ≤ bw

def Else (bw : Nat) (A : Option Addr) (b : Nat) : Prop := b ≠ bw ∧ (Value.slice A 0 0).ownBlock ≠ some b

def Writes (w0 : World) (bw : Nat) (SA : Option Addr) (sn sc : Nat) (xs : List UInt8) (A : Option Addr) (wr : World) (bs : List UInt8) (e : Ending) (w' : World) : Prop := e = .returned (.tuple #[]) ∧ ∃ A' n' c', WrS w0 w' bw SA sn sc (xs ++ bs) A' n' c' ∧ Stays (Else bw A) wr w' ∧ ∀ b, (Value.slice A' 0 0).ownBlock = some b → (Value.slice A 0 0).ownBlock = some b ∨ wr.heap.size ≤ b

section
variable {w0 wr w' : World} {bw : Nat} {SA A : Option Addr} {sn sc n c : Nat} {xs : List UInt8}

theorem WrS.up (h : WrS w0 wr bw SA sn sc xs A n c) (X : Ext wr w') : WrS w0 w' bw SA sn sc xs A n c := ⟨h.o.up X, h.own.up X, h.nL, h.base⟩

theorem WrS.lt (h : WrS w0 wr bw SA sn sc xs A n c) {b : Nat} (hb : wr.heap.size ≤ b) : Else bw A b := by
 refine ⟨fun e => ?_, fun e => ?_⟩
 · have := h.o.lt
   omega
 · have := (h.own.new_lt e).2
   omega

theorem wPut {B : Option Addr} {m d : Nat} {number wire : Int} {vs : List UInt8} (h : WrS w0 wr bw SA sn sc xs A n c) (hn : n ≤ 1000000000) (hv : BytesAt wr B m d vs) (hm : m ≤ 1000000000) (hr : (rightB number wire && fitsV wire vs) = true) :
  Calls Tryz.prog 200 #[.pointer (some ⟨bw, 0, none⟩), .int .i64 number, .int .i64 wire, .slice B m d] wr (Writes w0 bw SA sn sc xs A wr (putB number wire vs)) := by
 have o1 : wr.cell? ⟨bw, 1, none⟩ = some (.slice A n c) := h.o.cell 1
 have ol := h.o.lt
 have Hp := Lib.hid (fun W (E : Ext wr W) => rPut (h.own.bytes.up E) hn (hv.up E) hm hr)
 have Hh := Lib.hid h
 clear h hr hv
 go_enter Tryz.func200, Tryz.ntmps200
 go_wp2_with (go_at_call 91; refine (Hp.out _ (by repeat with_reducible (first | exact Ext.refl _ | refine Ext.alloc ?_ _ | refine Ext.drew ?_ | refine Ext.drewN ?_ _ | refine Ext.setCell ?_ (by first | omega | (simp <;> omega)) _))).mono ?_; rintro e w1 ⟨A1, c1, rfl, own1⟩; have E1 : Ext wr w1 := Ext.trans (by repeat with_reducible (first | exact Ext.refl _ | refine Ext.alloc ?_ _ | refine Ext.drew ?_ | refine Ext.drewN ?_ _ | refine Ext.setCell ?_ (by first | omega | (simp <;> omega)) _)) own1.ext; have z1 := E1.of_cell o1; have zf := (Hh.out.o.up E1).free 1; have zl := Nat.lt_of_lt_of_le ol E1.size)
 go_end0
 have h := Hh.out
 have B1 := h.o.up E1
 have own2 := own1.since h.own.ext
 have hfar := own2.far B1 (by decide) h.base 1 (.slice A1 (n + (putB number wire vs).length) c1)
 refine ⟨rfl, A1, n + (putB number wire vs).length, c1, ⟨B1.set_ 1 _, hfar, by rw [List.length_append, ← h.nL], h.base⟩, ((Stays.of_ext E1).less (fun b hb => hb)).set (fun q => q.1 rfl) _, fun b hb => .inr (own1.new_lt hb).1⟩
end

theorem Stays.cellE {bw : Nat} {A : Option Addr} {w5 w6 : World} {b o : Nat} {u : Value} (h : Stays (Else bw A) w5 w6) (hb : Else bw A b) (hc : w5.cell? ⟨b, o, none⟩ = some u) : w6.cell? ⟨b, o, none⟩ = some u := h.cell (p := ⟨b, o, none⟩) hb hc

set_option maxRecDepth 100000 in
set_option maxHeartbeats 4000000 in
theorem wValueRun {w0 wr : World} {bw : Nat} {SA A : Option Addr} {sn sc n c : Nat} {xs : List UInt8} {f : FieldD} {v : ValR} (h : WrS w0 wr bw SA sn sc xs A n c) (hn : n ≤ 1000000) (hv : ValAt w0 v) (hk : numberB f.kind = true) (hkb : kindB f.kind = true) (hr : f.rep = true) (ht : v.texts.length = 0) (hs : v.subs.length = 0) (hwl : v.words.length ≤ 1000000) (r2 : rightB f.number 2 = true) :
  Calls Tryz.prog 169 #[.pointer (some ⟨bw, 0, none⟩), fieldV f, tvalV v] wr (Writes w0 bw SA sn sc xs A wr (putB f.number 2 (packW f.kind v.words))) := by
 have hpl := packW_le f.kind _ hv.own.small
 have hN := fun W => kNumber f.kind W
 rw [hk] at hN
 have hW := fun W => kWire f.kind W
 rw [wireOr_kind hkb, if_pos hkb] at hW
 have hp := fun W (E : Ext wr W) => uPack (k := f.kind) (w := W) (hv.own.words.ext (h.own.ext.trans E)) hv.own.small (by omega) hk
 have wcap := hv.own.words.cap
 have wmax := hv.own.words.max
 unfold maxLen at wmax
 have hfit : (rightB f.number 2 && fitsV 2 (packW f.kind v.words)) = true := by
  rw [r2]
  simp [fitsV]
 have hpu := fun (W : World) (A9 : Option Addr) (c9 : Nat) (E : Ext wr W) (q : BytesAt W A9 (packW f.kind v.words).length c9 (packW f.kind v.words)) => wPut (h.up E) (by omega) q (by omega) hfit
 have hlt := fun (b : Nat) (hb : wr.heap.size ≤ b) => h.lt hb
 have HN := Lib.hid hN
 have HW := Lib.hid hW
 have Hp := Lib.hid hp
 have Hpu := Lib.hid hpu
 have Hlt := Lib.hid hlt
 generalize packW f.kind v.words = P at *
 have tokA : True := trivial
 clear hN hW hp hpu hlt hfit hk hkb h hv
 unfold fieldV tvalV
 rw [hr, ht, hs]
 clear hr ht hs
 go_enter Tryz.func169, Tryz.ntmps169
 go_wp2_with fail
 have BF := (BlkT.new wr 48 #[.string f.name, .int .i64 f.number, .int .i64 f.kind, .bool true, .bool f.packed, .int .i64 f.of_] rfl).alloc (.cells #[.int .i64 v.number, .slice v.a.1 v.words.length v.a.2, .slice v.b.1 0 v.b.2, .slice v.c.1 0 v.c.2] 52)
 have BV := BlkT.new (wr.alloc (.cells #[.string f.name, .int .i64 f.number, .int .i64 f.kind, .bool true, .bool f.packed, .int .i64 f.of_] 48)) 52 #[.int .i64 v.number, .slice v.a.1 v.words.length v.a.2, .slice v.b.1 0 v.b.2, .slice v.c.1 0 v.c.2] (show wr.heap.size + 1 = _ by simp)
 have X0 : Ext wr ((wr.alloc (.cells #[.string f.name, .int .i64 f.number, .int .i64 f.kind, .bool true, .bool f.packed, .int .i64 f.of_] 48)).alloc (.cells #[.int .i64 v.number, .slice v.a.1 v.words.length v.a.2, .slice v.b.1 0 v.b.2, .slice v.c.1 0 v.c.2] 52)) := ((Ext.refl wr).alloc _).alloc _
 generalize (wr.alloc (.cells #[.string f.name, .int .i64 f.number, .int .i64 f.kind, .bool true, .bool f.packed, .int .i64 f.of_] 48)).alloc (.cells #[.int .i64 v.number, .slice v.a.1 v.words.length v.a.2, .slice v.b.1 0 v.b.2, .slice v.c.1 0 v.c.2] 52) = wx at *
 have z1 : wx.cell? ⟨wr.heap.size, 1, none⟩ = some (.int .i64 f.number) := BF.cell 1
 have z2 : wx.cell? ⟨wr.heap.size, 2, none⟩ = some (.int .i64 f.kind) := BF.cell 2
 have z3 : wx.cell? ⟨wr.heap.size, 3, none⟩ = some (.bool true) := BF.cell 3
 have z5 : wx.cell? ⟨wr.heap.size, 5, none⟩ = some (.int .i64 f.of_) := BF.cell 5
 have v1 : wx.cell? ⟨wr.heap.size + 1, 1, none⟩ = some (.slice v.a.1 v.words.length v.a.2) := BV.cell 1
 have v2 : wx.cell? ⟨wr.heap.size + 1, 2, none⟩ = some (.slice v.b.1 0 v.b.2) := BV.cell 2
 have v3 : wx.cell? ⟨wr.heap.size + 1, 3, none⟩ = some (.slice v.c.1 0 v.c.2) := BV.cell 3
 have l1 := BF.lt
 have l2 := BV.lt
 clear BF BV
 go_wp2_with (first
  | (go_at_call 90; refine (HW.out _).mono ?_; rintro e w2 ⟨rfl, E2⟩; have X2 : Ext wx w2 := Ext.trans (by repeat with_reducible (first | exact Ext.refl _ | refine Ext.alloc ?_ _ | refine Ext.drew ?_ | refine Ext.drewN ?_ _ | refine Ext.setCell ?_ (by first | omega | (simp <;> omega)) _)) E2; replace z1 := X2.of_cell z1; replace z2 := X2.of_cell z2; replace z3 := X2.of_cell z3; replace z5 := X2.of_cell z5; replace v1 := X2.of_cell v1; replace v2 := X2.of_cell v2; replace v3 := X2.of_cell v3)
  | (go_at_call 62; have _t := tokA; refine (HN.out _).mono ?_; rintro e w3 ⟨rfl, E3⟩; have X3 : Ext w2 w3 := Ext.trans (by repeat with_reducible (first | exact Ext.refl _ | refine Ext.alloc ?_ _ | refine Ext.drew ?_ | refine Ext.drewN ?_ _ | refine Ext.setCell ?_ (by first | omega | (simp <;> omega)) _)) E3; replace z1 := X3.of_cell z1; replace z2 := X3.of_cell z2; replace z3 := X3.of_cell z3; replace z5 := X3.of_cell z5; replace v1 := X3.of_cell v1; replace v2 := X3.of_cell v2; replace v3 := X3.of_cell v3; clear tokA)
  | (go_at_call 61; refine (Hp.out _ (X0.trans (X2.trans (X3.trans (by repeat with_reducible (first | exact Ext.refl _ | refine Ext.alloc ?_ _ | refine Ext.drew ?_ | refine Ext.drewN ?_ _ | refine Ext.setCell ?_ (by first | omega | (simp <;> omega)) _)))))).mono ?_; rintro e w5 ⟨A5, c5, rfl, own5⟩; have X5 : Ext w3 w5 := Ext.trans (by repeat with_reducible (first | exact Ext.refl _ | refine Ext.alloc ?_ _ | refine Ext.drew ?_ | refine Ext.drewN ?_ _ | refine Ext.setCell ?_ (by first | omega | (simp <;> omega)) _)) own5.ext; replace z1 := X5.of_cell z1; replace v2 := X5.of_cell v2; replace v3 := X5.of_cell v3)
  | (go_at_call 200; refine (Hpu.out _ _ _ (X0.trans (X2.trans (X3.trans X5))) own5.bytes).mono ?_; rintro e w6 ⟨rfl, A6, n6, c6, W6, S6, N6⟩; replace v2 := S6.cellE (Hlt.out _ (by omega)) v2; replace v3 := S6.cellE (Hlt.out _ (by omega)) v3))
 go_loopw [13, 67] (fun _ i wq => i = .int .i64 0 ∧ wq = w6) (fun _ i _ => 0)
 case atStart => exact ⟨rfl, rfl⟩
 case round =>
  rename World => wq
  obtain ⟨rfl, rfl⟩ := hrel
  go_wp2
  go_loopw [15, 16, 82] (fun _ _ i wp => i = .int .i64 0 ∧ wp = wq) (fun _ _ i _ => 0)
  case atStart => exact ⟨rfl, rfl⟩
  case round =>
   rename World => wp
   obtain ⟨rfl, rfl⟩ := hrel
   go_wp2
   go_end0
   have XX : Ext wr w5 := X0.trans (X2.trans (X3.trans X5))
   exact ⟨rfl, A6, n6, c6, W6, (Stays.of_ext XX).trans S6, fun b hb => (N6 b hb).imp id (fun q => Nat.le_trans XX.size q)⟩

set_option maxRecDepth 100000 in
set_option maxHeartbeats 4000000 in
theorem wValueWord {w0 wr : World} {bw : Nat} {SA A : Option Addr} {sn sc n c : Nat} {xs : List UInt8} {f : FieldD} {v : ValR} (h : WrS w0 wr bw SA sn sc xs A n c) (hn : n ≤ 1000000) (hv : ValAt w0 v) (hk : numberB f.kind = true) (hkb : kindB f.kind = true) (hr : f.rep = false) (ht : v.texts.length = 0) (hs : v.subs.length = 0) {x : Nat} (hw : v.words = [x]) (r2 : rightB f.number (wireI f.kind) = true) :
  Calls Tryz.prog 169 #[.pointer (some ⟨bw, 0, none⟩), fieldV f, tvalV v] wr (Writes w0 bw SA sn sc xs A wr (putB f.number (wireI f.kind) (putS f.kind x))) := by
 have hx64 : x < 18446744073709551616 := hv.own.small x (by rw [hw]; simp)
 have hpl := (putS_length (k := f.kind) hx64).2
 have hN := fun W => kNumber f.kind W
 rw [hk] at hN
 have hW := fun W => kWire f.kind W
 rw [wireOr_kind hkb, if_pos hkb] at hW
 have hp := fun W => sPut (k := f.kind) (x := x) (w := W) hx64 hk rfl
 have hwd := hv.own.words
 rw [hw] at hwd
 obtain ⟨b5, off5, hA, hb5, hc5⟩ := Reads.at_ hwd (by simp)
 have e0 : wr.cell? ⟨b5, off5, none⟩ = some (.int .u64 (x : Int)) := h.own.ext.of_cell (hc5 0 _ rfl)
 have hb5r := Nat.lt_of_lt_of_le hb5 h.own.ext.size
 have hw1 : v.words.length = 1 := by rw [hw]; rfl
 have hfit : (rightB f.number (wireI f.kind) && fitsV (wireI f.kind) (putS f.kind x)) = true := by
  obtain ⟨Vw, q1, _, q3⟩ := wire_fits hk hx64
  rw [r2, q1, q3]
  rfl
 have hpu := fun (W : World) (A9 : Option Addr) (c9 : Nat) (E : Ext wr W) (q : BytesAt W A9 (putS f.kind x).length c9 (putS f.kind x)) => wPut (h.up E) (by omega) q (by omega) hfit
 have hlt := fun (b : Nat) (hb : wr.heap.size ≤ b) => h.lt hb
 have HN := Lib.hid hN
 have HW := Lib.hid hW
 have Hp := Lib.hid hp
 have Hpu := Lib.hid hpu
 have Hlt := Lib.hid hlt
 generalize putS f.kind x = P at *
 generalize wireI f.kind = wi at *
 have tokA : True := trivial
 have tokB : True := trivial
 clear hN hW hp hpu hlt hfit hk hkb h hv hwd hc5 hw
 unfold fieldV tvalV
 rw [hr, ht, hs, hw1, hA]
 clear hr ht hs hw1 hA
 go_enter Tryz.func169, Tryz.ntmps169
 go_wp2_with fail
 have BF := (BlkT.new wr 48 #[.string f.name, .int .i64 f.number, .int .i64 f.kind, .bool false, .bool f.packed, .int .i64 f.of_] rfl).alloc (.cells #[.int .i64 v.number, .slice (some ⟨b5, off5, none⟩) 1 v.a.2, .slice v.b.1 0 v.b.2, .slice v.c.1 0 v.c.2] 52)
 have BV := BlkT.new (wr.alloc (.cells #[.string f.name, .int .i64 f.number, .int .i64 f.kind, .bool false, .bool f.packed, .int .i64 f.of_] 48)) 52 #[.int .i64 v.number, .slice (some ⟨b5, off5, none⟩) 1 v.a.2, .slice v.b.1 0 v.b.2, .slice v.c.1 0 v.c.2] (show wr.heap.size + 1 = _ by simp)
 have X0 : Ext wr ((wr.alloc (.cells #[.string f.name, .int .i64 f.number, .int .i64 f.kind, .bool false, .bool f.packed, .int .i64 f.of_] 48)).alloc (.cells #[.int .i64 v.number, .slice (some ⟨b5, off5, none⟩) 1 v.a.2, .slice v.b.1 0 v.b.2, .slice v.c.1 0 v.c.2] 52)) := ((Ext.refl wr).alloc _).alloc _
 generalize (wr.alloc (.cells #[.string f.name, .int .i64 f.number, .int .i64 f.kind, .bool false, .bool f.packed, .int .i64 f.of_] 48)).alloc (.cells #[.int .i64 v.number, .slice (some ⟨b5, off5, none⟩) 1 v.a.2, .slice v.b.1 0 v.b.2, .slice v.c.1 0 v.c.2] 52) = wx at *
 have z1 : wx.cell? ⟨wr.heap.size, 1, none⟩ = some (.int .i64 f.number) := BF.cell 1
 have z2 : wx.cell? ⟨wr.heap.size, 2, none⟩ = some (.int .i64 f.kind) := BF.cell 2
 have z3 : wx.cell? ⟨wr.heap.size, 3, none⟩ = some (.bool false) := BF.cell 3
 have z5 : wx.cell? ⟨wr.heap.size, 5, none⟩ = some (.int .i64 f.of_) := BF.cell 5
 have v1 : wx.cell? ⟨wr.heap.size + 1, 1, none⟩ = some (.slice (some ⟨b5, off5, none⟩) 1 v.a.2) := BV.cell 1
 have v2 : wx.cell? ⟨wr.heap.size + 1, 2, none⟩ = some (.slice v.b.1 0 v.b.2) := BV.cell 2
 have v3 : wx.cell? ⟨wr.heap.size + 1, 3, none⟩ = some (.slice v.c.1 0 v.c.2) := BV.cell 3
 have l1 := BF.lt
 have l2 := BV.lt
 clear BF BV
 go_wp2_with (first
  | (go_at_call 90; refine (HW.out _).mono ?_; rintro e w2 ⟨rfl, E2⟩; have X2 : Ext wx w2 := Ext.trans (by repeat with_reducible (first | exact Ext.refl _ | refine Ext.alloc ?_ _ | refine Ext.drew ?_ | refine Ext.drewN ?_ _ | refine Ext.setCell ?_ (by first | omega | (simp <;> omega)) _)) E2; replace z1 := X2.of_cell z1; replace z2 := X2.of_cell z2; replace z3 := X2.of_cell z3; replace z5 := X2.of_cell z5; replace v1 := X2.of_cell v1; replace v2 := X2.of_cell v2; replace v3 := X2.of_cell v3)
  | (go_at_call 62; have _t := tokA; refine (HN.out _).mono ?_; rintro e w3 ⟨rfl, E3⟩; have X3 : Ext w2 w3 := Ext.trans (by repeat with_reducible (first | exact Ext.refl _ | refine Ext.alloc ?_ _ | refine Ext.drew ?_ | refine Ext.drewN ?_ _ | refine Ext.setCell ?_ (by first | omega | (simp <;> omega)) _)) E3; replace z1 := X3.of_cell z1; replace z2 := X3.of_cell z2; replace z3 := X3.of_cell z3; replace z5 := X3.of_cell z5; replace v1 := X3.of_cell v1; replace v2 := X3.of_cell v2; replace v3 := X3.of_cell v3; clear tokA)
  | (go_at_call 62; have _t := tokB; refine (HN.out _).mono ?_; rintro e w4 ⟨rfl, E4⟩; have X4 : Ext w3 w4 := Ext.trans (by repeat with_reducible (first | exact Ext.refl _ | refine Ext.alloc ?_ _ | refine Ext.drew ?_ | refine Ext.drewN ?_ _ | refine Ext.setCell ?_ (by first | omega | (simp <;> omega)) _)) E4; replace z1 := X4.of_cell z1; replace z2 := X4.of_cell z2; replace z3 := X4.of_cell z3; replace z5 := X4.of_cell z5; replace v1 := X4.of_cell v1; replace v2 := X4.of_cell v2; replace v3 := X4.of_cell v3; clear tokB))
 have e05 := (X0.trans (X2.trans (X3.trans X4))).of_cell e0
 have lb := Nat.lt_of_lt_of_le hb5r (X0.trans (X2.trans (X3.trans X4))).size
 have la := Nat.lt_of_lt_of_le l1 (X2.trans (X3.trans X4)).size
 have lc := Nat.lt_of_lt_of_le l2 (X2.trans (X3.trans X4)).size
 have Q4 : Ext w4 w4 := Ext.refl w4
 go_region_held3 (fun W => Ext w4 W ∧ ∀ b o, b < w4.heap.size → W.cell? ⟨b, o, none⟩ = w4.cell? ⟨b, o, none⟩) ((refine Ext.keep ?_; repeat with_reducible (first | assumption | exact Ext.refl _ | refine Ext.alloc ?_ _ | refine Ext.drew ?_ | refine Ext.drewN ?_ _ | refine Ext.setCell ?_ (by first | omega | (simp <;> omega)) _))) (first | (go_split_ands; go_at_call 63; refine (Hp.out _).mono ?_; rintro e w5 ⟨A5, c5, rfl, own5⟩; have q5 : Ext w4 w5 := Ext.trans (by with_reducible assumption) own5.ext))
 rename Ext w4 w5 ∧ _ => hS5
 clear hS5
 have X5 := q5
 replace z1 := X5.of_cell z1
 replace v2 := X5.of_cell v2
 replace v3 := X5.of_cell v3
 go_wp2_with (first
  | (go_at_call 200; refine (Hpu.out _ _ _ (X0.trans (X2.trans (X3.trans (X4.trans X5)))) own5.bytes).mono ?_; rintro e w6 ⟨rfl, A6, n6, c6, W6, S6, N6⟩; replace v2 := S6.cellE (Hlt.out _ (by omega)) v2; replace v3 := S6.cellE (Hlt.out _ (by omega)) v3))
 go_loopw [13, 67] (fun _ i wq => i = .int .i64 0 ∧ wq = w6) (fun _ i _ => 0)
 case atStart => exact ⟨rfl, rfl⟩
 case round =>
  rename World => wq
  obtain ⟨rfl, rfl⟩ := hrel
  go_wp2
  go_loopw [15, 16, 82] (fun _ _ i wp => i = .int .i64 0 ∧ wp = wq) (fun _ _ i _ => 0)
  case atStart => exact ⟨rfl, rfl⟩
  case round =>
   rename World => wp
   obtain ⟨rfl, rfl⟩ := hrel
   go_wp2
   go_end0
   have XX : Ext wr w5 := X0.trans (X2.trans (X3.trans (X4.trans X5)))
   exact ⟨rfl, A6, n6, c6, W6, (Stays.of_ext XX).trans S6, fun b hb => (N6 b hb).imp id (fun q => Nat.le_trans XX.size q)⟩


structure Went (w4 wq : World) (bw : Nat) (A A1 : Option Addr) : Prop where
 stays : Stays (Else bw A) w4 wq
 news : ∀ b, (Value.slice A1 0 0).ownBlock = some b → (Value.slice A 0 0).ownBlock = some b ∨ w4.heap.size ≤ b

theorem Went.refl (w4 : World) (bw : Nat) (A : Option Addr) : Went w4 w4 bw A A := ⟨Stays.refl _ _, fun _ h => .inl h⟩

theorem Went.next {w4 wq W7 w' : World} {bw : Nat} {A A1 A2 : Option Addr} (h : Went w4 wq bw A A1) (X : Ext wq W7) (S : Stays (Else bw A1) W7 w') (N : ∀ b, (Value.slice A2 0 0).ownBlock = some b → (Value.slice A1 0 0).ownBlock = some b ∨ W7.heap.size ≤ b) : Went w4 w' bw A A2 := by
 have z1 := h.stays.size
 have z2 := X.size
 have z3 := S.size
 refine ⟨⟨by omega, fun b hb hlt => ?_⟩, fun b hb => ?_⟩
 · have h1 : Else bw A1 b := ⟨hb.1, fun q => by
    rcases h.news b q with q | q
    · exact hb.2 q
    · omega⟩
   rw [S.block b h1 (by omega), X.block b (by omega), h.stays.block b hb hlt]
 · rcases N b hb with q | q
   · exact h.news b q
   · exact .inr (by omega)

theorem Went.cell {w4 wq : World} {bw : Nat} {A A1 : Option Addr} (h : Went w4 wq bw A A1) {b o : Nat} {u : Value} (hb : Else bw A b) (hc : w4.cell? ⟨b, o, none⟩ = some u) : wq.cell? ⟨b, o, none⟩ = some u := h.stays.cellE hb hc

set_option maxRecDepth 100000 in
set_option maxHeartbeats 4000000 in
theorem wValueOther {w0 wr : World} {bw : Nat} {SA A : Option Addr} {sn sc n c : Nat} {xs : List UInt8} {f : FieldD} {v : ValR} {se : MsgR → List UInt8} (h : WrS w0 wr bw SA sn sc xs A n c) (hn : n ≤ 1000000) (hv : ValAt w0 v) (hk : numberB f.kind = false) (hkb : kindB f.kind = true) (r2 : rightB f.number 2 = true)
  (hp : ∀ y ∈ v.subs, ∀ (w1 w2 : World) (bw2 : Nat) (A2 : Option Addr) (n2 c2 : Nat), Ext w0 w1 → WrS w1 w2 bw2 SA sn sc [] A2 n2 c2 → Calls Tryz.prog 123 #[.pointer (some ⟨bw2, 0, none⟩), .int .i64 f.of_, treeV y] w2 (Writes w1 bw2 SA sn sc [] A2 w2 (se y)))
  (hl : n + ((v.texts.map fun t => putB f.number 2 t.data.toList).flatten.length + (v.subs.map fun y => putB f.number 2 (se y)).flatten.length) ≤ 2000000) :
  Calls Tryz.prog 169 #[.pointer (some ⟨bw, 0, none⟩), fieldV f, tvalV v] wr (Writes w0 bw SA sn sc xs A wr ((v.texts.map fun t => putB f.number 2 t.data.toList).flatten ++ (v.subs.map fun y => putB f.number 2 (se y)).flatten)) := by
 obtain ⟨T, hT⟩ : ∃ T, T = v.texts.map fun t => putB f.number 2 t.data.toList := ⟨_, rfl⟩
 obtain ⟨U, hU⟩ : ∃ U, U = v.subs.map fun y => putB f.number 2 (se y) := ⟨_, rfl⟩
 rw [← hT, ← hU] at hl ⊢
 have hTl : T.length = v.texts.length := by rw [hT, List.length_map]
 have hUl : U.length = v.subs.length := by rw [hU, List.length_map]
 have hTs : ∀ k t, v.texts[k]? = some t → xs ++ (T.take (k + 1)).flatten = (xs ++ (T.take k).flatten) ++ putB f.number 2 t.data.toList ∧ (xs ++ (T.take k).flatten).length ≤ 2000000 ∧ t.data.toList.length ≤ 2000000 := fun k t q => by
  have hm : T[k]? = some (putB f.number 2 t.data.toList) := by rw [hT, List.getElem?_map, q]; rfl
  have h1 := mem_flatten_le (List.mem_of_getElem? hm)
  have h2 := flat_upto (T := T) k
  have h3 := putB_more f.number t.data.toList
  have h4 := h.nL
  exact ⟨by rw [take_snoc _ _ _ hm, List.flatten_append]; simp, by rw [List.length_append]; omega, by omega⟩
 have hUs : ∀ k y, v.subs[k]? = some y → xs ++ (T.flatten ++ (U.take (k + 1)).flatten) = (xs ++ (T.flatten ++ (U.take k).flatten)) ++ putB f.number 2 (se y) ∧ (xs ++ (T.flatten ++ (U.take k).flatten)).length ≤ 2000000 ∧ (se y).length ≤ 2000000 := fun k y q => by
  have hm : U[k]? = some (putB f.number 2 (se y)) := by rw [hU, List.getElem?_map, q]; rfl
  have h1 := mem_flatten_le (List.mem_of_getElem? hm)
  have h2 := flat_upto (T := U) k
  have h3 := putB_more f.number (se y)
  have h4 := h.nL
  exact ⟨by rw [take_snoc _ _ _ hm, List.flatten_append]; simp, by rw [List.length_append, List.length_append]; omega, by omega⟩
 have hfit : ∀ x : List UInt8, (rightB f.number 2 && fitsV 2 x) = true := fun x => by
  rw [r2]
  simp [fitsV]
 have hN := fun W => kNumber f.kind W
 rw [hk] at hN
 have hW := fun W => kWire f.kind W
 rw [wireOr_kind hkb, if_pos hkb, wire_other hkb hk] at hW
 have hlt := fun (b : Nat) (hb : wr.heap.size ≤ b) => h.lt hb
 have tcap := hv.own.texts.at_.cap
 have scap := hv.own.subs.cap
 have tmax := hv.own.texts.at_.max
 have smax := hv.own.subs.max
 unfold maxLen at tmax smax
 have HN := Lib.hid hN
 have HW := Lib.hid hW
 have Hlt := Lib.hid hlt
 have HTs := Lib.hid hTs
 have HUs := Lib.hid hUs
 have HTl := Lib.hid hTl
 have HUl := Lib.hid hUl
 have Hp := Lib.hid hp
 have Hv := Lib.hid hv
 have Hh := Lib.hid h
 have Hfit := Lib.hid hfit
 have tokA : True := trivial
 have tokB : True := trivial
 clear hN hW hlt hTs hUs hTl hUl hp hv h hfit hk hkb hT hU hl r2
 unfold fieldV tvalV
 go_enter Tryz.func169, Tryz.ntmps169
 go_wp2_with fail
 have BF := (BlkT.new wr 48 #[.string f.name, .int .i64 f.number, .int .i64 f.kind, .bool f.rep, .bool f.packed, .int .i64 f.of_] rfl).alloc (.cells #[.int .i64 v.number, .slice v.a.1 v.words.length v.a.2, .slice v.b.1 v.texts.length v.b.2, .slice v.c.1 v.subs.length v.c.2] 52)
 have BV := BlkT.new (wr.alloc (.cells #[.string f.name, .int .i64 f.number, .int .i64 f.kind, .bool f.rep, .bool f.packed, .int .i64 f.of_] 48)) 52 #[.int .i64 v.number, .slice v.a.1 v.words.length v.a.2, .slice v.b.1 v.texts.length v.b.2, .slice v.c.1 v.subs.length v.c.2] (show wr.heap.size + 1 = _ by simp)
 have X0 : Ext wr ((wr.alloc (.cells #[.string f.name, .int .i64 f.number, .int .i64 f.kind, .bool f.rep, .bool f.packed, .int .i64 f.of_] 48)).alloc (.cells #[.int .i64 v.number, .slice v.a.1 v.words.length v.a.2, .slice v.b.1 v.texts.length v.b.2, .slice v.c.1 v.subs.length v.c.2] 52)) := ((Ext.refl wr).alloc _).alloc _
 generalize (wr.alloc (.cells #[.string f.name, .int .i64 f.number, .int .i64 f.kind, .bool f.rep, .bool f.packed, .int .i64 f.of_] 48)).alloc (.cells #[.int .i64 v.number, .slice v.a.1 v.words.length v.a.2, .slice v.b.1 v.texts.length v.b.2, .slice v.c.1 v.subs.length v.c.2] 52) = wx at *
 have z1 : wx.cell? ⟨wr.heap.size, 1, none⟩ = some (.int .i64 f.number) := BF.cell 1
 have z2 : wx.cell? ⟨wr.heap.size, 2, none⟩ = some (.int .i64 f.kind) := BF.cell 2
 have z3 : wx.cell? ⟨wr.heap.size, 3, none⟩ = some (.bool f.rep) := BF.cell 3
 have z5 : wx.cell? ⟨wr.heap.size, 5, none⟩ = some (.int .i64 f.of_) := BF.cell 5
 have v1 : wx.cell? ⟨wr.heap.size + 1, 1, none⟩ = some (.slice v.a.1 v.words.length v.a.2) := BV.cell 1
 have v2 : wx.cell? ⟨wr.heap.size + 1, 2, none⟩ = some (.slice v.b.1 v.texts.length v.b.2) := BV.cell 2
 have v3 : wx.cell? ⟨wr.heap.size + 1, 3, none⟩ = some (.slice v.c.1 v.subs.length v.c.2) := BV.cell 3
 have l1 := BF.lt
 have l2 := BV.lt
 clear BF BV
 go_wp2_with (first
  | (go_at_call 90; refine (HW.out _).mono ?_; rintro e w2 ⟨rfl, E2⟩; have X2 : Ext wx w2 := Ext.trans (by repeat with_reducible (first | exact Ext.refl _ | refine Ext.alloc ?_ _ | refine Ext.drew ?_ | refine Ext.drewN ?_ _ | refine Ext.setCell ?_ (by first | omega | (simp <;> omega)) _)) E2; replace z1 := X2.of_cell z1; replace z2 := X2.of_cell z2; replace z3 := X2.of_cell z3; replace z5 := X2.of_cell z5; replace v1 := X2.of_cell v1; replace v2 := X2.of_cell v2; replace v3 := X2.of_cell v3)
  | (go_at_call 62; have _t := tokA; refine (HN.out _).mono ?_; rintro e w3 ⟨rfl, E3⟩; have X3 : Ext w2 w3 := Ext.trans (by repeat with_reducible (first | exact Ext.refl _ | refine Ext.alloc ?_ _ | refine Ext.drew ?_ | refine Ext.drewN ?_ _ | refine Ext.setCell ?_ (by first | omega | (simp <;> omega)) _)) E3; replace z1 := X3.of_cell z1; replace z2 := X3.of_cell z2; replace z3 := X3.of_cell z3; replace z5 := X3.of_cell z5; replace v1 := X3.of_cell v1; replace v2 := X3.of_cell v2; replace v3 := X3.of_cell v3; clear tokA)
  | (go_at_call 62; have _t := tokB; refine (HN.out _).mono ?_; rintro e w4 ⟨rfl, E4⟩; have X4 : Ext w3 w4 := Ext.trans (by repeat with_reducible (first | exact Ext.refl _ | refine Ext.alloc ?_ _ | refine Ext.drew ?_ | refine Ext.drewN ?_ _ | refine Ext.setCell ?_ (by first | omega | (simp <;> omega)) _)) E4; replace z1 := X4.of_cell z1; replace z2 := X4.of_cell z2; replace z3 := X4.of_cell z3; replace z5 := X4.of_cell z5; replace v1 := X4.of_cell v1; replace v2 := X4.of_cell v2; replace v3 := X4.of_cell v3; clear tokB))
 have XX : Ext wr w4 := X0.trans (X2.trans (X3.trans X4))
 have hW4 := Hh.out.up XX
 have Hz1 := Lib.hid z1
 have Hz5 := Lib.hid z5
 have Hv2 := Lib.hid v2
 have Hv3 := Lib.hid v3
 have HXX := Lib.hid XX
 have la : wr.heap.size < w4.heap.size := Nat.lt_of_lt_of_le l1 (X2.trans (X3.trans X4)).size
 have lc : wr.heap.size + 1 < w4.heap.size := Nat.lt_of_lt_of_le l2 (X2.trans (X3.trans X4)).size
 clear z2 z3 v1 X0 X2 X3 X4 XX
 go_loopw [13, 67] (fun _ i wq => ∃ (k : Nat) (A1 : Option Addr) (n1 c1 : Nat), k ≤ v.texts.length ∧ i = .int .i64 (k : Int) ∧ WrS w0 wq bw SA sn sc (xs ++ (T.take k).flatten) A1 n1 c1 ∧ Went w4 wq bw A A1) (fun _ i _ => v.texts.length - (intOf i).toNat)
 case atStart => exact ⟨0, A, n, c, Nat.zero_le _, rfl, by rw [List.take_zero, List.flatten_nil, List.append_nil]; exact hW4, Went.refl _ _ _⟩
 case round =>
  rename World => wq
  obtain ⟨k, A1, n1, c1, hkk, rfl, hW1, hG⟩ := hrel
  have z1q := hG.cell (Hlt.out _ (Nat.le_refl _)) Hz1.out
  have laq := Nat.lt_of_lt_of_le la hG.stays.size
  by_cases hlt : k < v.texts.length
  · have hltI : (k : Int) < v.texts.length := by omega
    obtain ⟨b5, off5, t, hA, htk, hb5, ht, e0⟩ := Hv.out.own.texts.text hlt
    have e0q := hW1.own.ext.of_cell e0
    have hb5q := Nat.lt_of_lt_of_le hb5 hW1.own.ext.size
    obtain ⟨hs1, hs2, hs3⟩ := HTs.out k t htk
    have hn1 := hW1.nL
    rw [← hn1] at hs2
    obtain ⟨A7, c7, W7, run7, X7, hb7⟩ := conv_text wq t ht
    have z1s := X7.of_cell z1q
    have hpu := wPut (hW1.up X7) (by omega) hb7 (by omega) (Hfit.out t.data.toList)
    have Hs1 := Lib.hid hs1
    have Hpu := Lib.hid hpu
    have HG := Lib.hid hG
    rw [hA]
    clear hs1 htk hpu hb7 hG hn1 hW1 e0
    go_wp2_with (go_at_call 200; refine Hpu.out.mono ?_; rintro e w6 ⟨rfl, A6, n6, c6, W6, S6, N6⟩)
    go_roundw
    case rel => exact ⟨k + 1, A6, n6, c6, by omega, by go_num, by rw [Hs1.out]; exact W6, HG.out.next X7 S6 N6⟩
    case measure => simp [intOf]; omega
  · have hge : ¬ ((k : Int) < v.texts.length) := by omega
    have hkT : (T.take k).flatten = T.flatten := by rw [List.take_of_length_le (by have := HTl.out; omega)]
    rw [hkT] at hW1
    have v3q := hG.cell (Hlt.out _ (Nat.le_succ _)) Hv3.out
    have lcq := Nat.lt_of_lt_of_le lc hG.stays.size
    clear hkT
    go_wp2
    go_loopw [15, 16, 82] (fun _ _ i wp => ∃ (j : Nat) (A1 : Option Addr) (n1 c1 : Nat), j ≤ v.subs.length ∧ i = .int .i64 (j : Int) ∧ WrS w0 wp bw SA sn sc (xs ++ (T.flatten ++ (U.take j).flatten)) A1 n1 c1 ∧ Went w4 wp bw A A1) (fun _ _ i _ => v.subs.length - (intOf i).toNat)
    case atStart => exact ⟨0, A1, n1, c1, Nat.zero_le _, rfl, by rw [List.take_zero, List.flatten_nil, List.append_nil]; exact hW1, hG⟩
    case round =>
     rename World => wp
     obtain ⟨j, A2, n2, c2, hj, rfl, hW2, hG2⟩ := hrel
     have o0 : wp.cell? ⟨bw, 0, none⟩ = some (.slice SA sn sc) := hW2.o.cell 0
     have ol := hW2.o.lt
     by_cases hltj : j < v.subs.length
     · have hltI : (j : Int) < v.subs.length := by omega
       obtain ⟨b5, off5, y, hA, hyk, hb5, e0, e1⟩ := treeCells Hv.out.own.subs hltj
       have hym := List.mem_of_getElem? hyk
       have e0p := hW2.own.ext.of_cell e0
       have e1p := hW2.own.ext.of_cell e1
       have hb5p := Nat.lt_of_lt_of_le hb5 hW2.own.ext.size
       have z1p := hG2.cell (Hlt.out _ (Nat.le_refl _)) Hz1.out
       have z5p := hG2.cell (Hlt.out _ (Nat.le_refl _)) Hz5.out
       have lap := Nat.lt_of_lt_of_le la hG2.stays.size
       obtain ⟨hs1, hs2, hs3⟩ := HUs.out j y hyk
       have hn2 := hW2.nL
       rw [← hn2] at hs2
       have hcall := Hp.out y hym wp
       unfold treeV at hcall
       have hpu := fun (w5 W : World) (A5 : Option Addr) (n5 c5 : Nat) (X : Ext wp w5) (E : Ext w5 W) (q : BytesAt w5 A5 n5 c5 (se y)) (q2 : Hid (n5 = (se y).length)) => wPut (hW2.up (X.trans E)) (by omega) (q.up E) (by rw [q2.out]; omega) (Hfit.out (se y))
       have Hs1 := Lib.hid hs1
       have Hpu := Lib.hid hpu
       have Hcall := Lib.hid hcall
       have HG := Lib.hid hG2
       have HX0 := Lib.hid hW2.own.ext
       rw [hA]
       clear hs1 hyk hpu hcall hG2 hn2 hW2 e0 e1
       go_wp2_with (go_at_call 123; refine (Hcall.out _ (wp.heap.size + 1) none 0 0 HX0.out ⟨BlkT.new (wp.alloc (.cells #[.slice y.a.1 y.vals.length y.a.2, .slice y.b.1 y.unk.length y.b.2] 35)) _ _ (by simp), Own.nil (by repeat with_reducible (first | exact Ext.refl _ | refine Ext.alloc ?_ _ | refine Ext.drew ?_ | refine Ext.drewN ?_ _ | refine Ext.setCell ?_ (by first | omega | (simp <;> omega)) _)) _ _, rfl, Nat.le_succ _⟩).mono ?_; rintro e w5 ⟨rfl, A5, n5, c5, W5, S5, N5⟩; rw [List.nil_append] at W5; have X5 := W5.own.ext; have z1s := X5.of_cell z1p; have f5 : w5.cell? ⟨wp.heap.size + 1, 1, none⟩ = some (.slice A5 n5 c5) := W5.o.cell 1; have l5 := W5.o.lt; have la5 := Nat.lt_of_lt_of_le lap X5.size)
       have HW5 := Lib.hid W5
       clear W5 S5 N5
       go_region_law (first
        | (go_simp; go_at_call 200; refine (Hpu.out _ _ _ _ _ X5 (by repeat with_reducible (first | exact Ext.refl _ | refine Ext.alloc ?_ _ | refine Ext.drew ?_ | refine Ext.drewN ?_ _ | refine Ext.setCell ?_ (by first | omega | (simp <;> omega)) _)) HW5.out.own.bytes HW5.out.nL).mono ?_; rintro e w6 ⟨rfl, A6, n6, c6, W6, S6, N6⟩; have G6 := HG.out.next (X5.trans (by repeat with_reducible (first | exact Ext.refl _ | refine Ext.alloc ?_ _ | refine Ext.drew ?_ | refine Ext.drewN ?_ _ | refine Ext.setCell ?_ (by first | omega | (simp <;> omega)) _))) S6 N6))
       all_goals
        go_simp
        go_wp2
        go_roundw
        case rel => exact ⟨j + 1, A6, n6, c6, by omega, by go_num, by rw [Hs1.out]; exact W6, G6⟩
        case measure => simp [intOf]; omega
     · have hge2 : ¬ ((j : Int) < v.subs.length) := by omega
       have hkU : (U.take j).flatten = U.flatten := by rw [List.take_of_length_le (by have := HUl.out; omega)]
       rw [hkU] at hW2
       clear hkU
       go_wp2
       go_end0
       exact ⟨rfl, A2, n2, c2, hW2, (Stays.of_ext HXX.out).trans hG2.stays, fun b hb => (hG2.news b hb).imp id (fun q => Nat.le_trans HXX.out.size q)⟩

end Go.Proofs.YtnnphodgegcddaaGreat

/- Plain words: the texts of a meaning are no longer than its bytes. -/

namespace Go.Proofs.YtnnphodgegcddaaGreat
open Go.RowKit
set_option linter.unusedVariables false

end Go.Proofs.YtnnphodgegcddaaGreat

/- Contracts of layer 16: a writer writes a meaning; canon.Encode, canon.Is. -/



namespace Go.Proofs.YtnnphodgegcddaaGreat
open Go.RowKit Go.Shelf
set_option linter.unusedVariables false

theorem run_append_textW {w0 w : World} {A : Option Addr} {n c : Nat} {xs : List UInt8} (ty : TypeId) (h : Own w0 w 5 1 A n c (xs.map bv)) (t : ByteArray) (hb : n + t.data.toList.length ≤ 140737488355328) :
  ∃ A' c' w', (Builtin.append_ #[24, 9] ty #[.slice A n c, .string t]).run Tryz.prog w = .ok (.slice A' (n + t.data.toList.length) c') w' ∧ Own w0 w' 5 1 A' (n + t.data.toList.length) c' ((xs ++ t.data.toList).map bv) ∧ w.grownBy w' (Value.slice A n c).ownBlock ∧ Moved w A A' := by
 obtain ⟨A', c', w', hrun, h2, h3⟩ := run_append_text ty h t hb
 refine ⟨A', c', w', hrun, h2, h3, ?_⟩
 obtain ⟨i, hi, hz, q1, q2⟩ := infoB
 have hsz : t.size = t.data.toList.length := rfl
 rcases h.row.2 with ⟨hv, hn0⟩ | ⟨g, cap, cur, hv, hbg, hg, hnc, hcm, hcs, htake⟩
 · cases hv
   by_cases h0 : t.size = 0
   · have hr := h2.row.2
     rcases hr with ⟨hv', _⟩ | ⟨g, cap, cur, hv', hbg, hg, hnc, hcm, hcs, htake⟩
     · injection hv' with e1 _ _
       rw [e1]
       exact .inl rfl
     · have hf := Go.Lib.run_firstCells_string (P := Tryz.prog) w 1 t
       rw [h0] at hf
       have hz0 : (Builtin.append_ #[24, 9] ty #[.slice none 0 0, .string t]).run Tryz.prog w = .ok (.slice none 0 0) w := by
        simp [Builtin.append_, run_underlying Tryz.underlying24, run_underlying Tryz.underlying9, sizeOf, typeInfo, hi, q1, Builtin.lenOf, h0, hf]
       rw [hz0] at hrun
       injection hrun with e1 _
       injection e1 with e2 _ _
       rw [← e2]
       exact .inl rfl
   · have hr := Go.run_append_nil_string (P := Tryz.prog) w 24 9 ty 5 i (.int .u8 0) Tryz.underlying24 Tryz.underlying9 hi hz t (by omega) (by omega) (by rw [q2]; omega)
     rw [hr] at hrun
     injection hrun with e1 _
     injection e1 with e2 _ _
     rw [← e2]
     exact .inr rfl
 · cases hv
   by_cases hroom : n + t.size ≤ c
   · have hcs' : cur.size = c := by simpa using hcs
     have hr := Go.Lib.run_append_room_string (P := Tryz.prog) w 24 9 ty 5 i Tryz.underlying24 Tryz.underlying9 hi q1 g n c cur hg t hroom (by omega)
     rw [hr] at hrun
     injection hrun with e1 _
     injection e1 with e2 _ _
     rw [← e2]
     exact .inl rfl
   · have holds : ∀ j u, (xs.map bv)[j]? = some u → w.cell? ((⟨g, 0, none⟩ : Addr).add j) = some u := h.row.cells (g := g) rfl
     have hxl : (xs.map bv).length = n := by have := h.row.1; simpa using this
     have hr := Go.Lib.run_append_grow_string (P := Tryz.prog) w 24 9 ty 5 i (.int .u8 0) Tryz.underlying24 Tryz.underlying9 hi hz ⟨g, 0, none⟩ n c (xs.map bv) (by rw [q1]; omega) holds t (by omega) (by omega) (by rw [q2]; exact growslice_fits (by omega) (by omega))
     rw [hr] at hrun
     injection hrun with e1 _
     injection e1 with e2 _ _
     rw [← e2]
     exact .inr rfl

theorem wpList_textW {ops : Array Oper} {rest : List Oper} {o : Oper} {a : Act} {Q : Exit → Act → World → Prop} (hgd : Region.wanted o (yielded ops a.tmps) = true) (s x : Operand)
  (ho : o.op = .call { callee := .builtin .append, args := #[s, x], argTypes := #[24, 9] })
  {w0 w : World} {A : Option Addr} {n c : Nat} {xs : List UInt8} (hs : a.eval s = .slice A n c) (h : Own w0 w 5 1 A n c (xs.map bv)) {t : ByteArray} (hx : a.eval x = .string t) (hb : n + t.data.toList.length ≤ 140737488355328)
  (k : ∀ A' c' w', Own w0 w' 5 1 A' (n + t.data.toList.length) c' ((xs ++ t.data.toList).map bv) → w.grownBy w' (Value.slice A n c).ownBlock → Moved w A A' → wpList Tryz.prog ops Q rest (a.put o.dst (.slice A' (n + t.data.toList.length) c')) w') : wpList Tryz.prog ops Q (o :: rest) a w := by
 obtain ⟨A', c', w', hrun, h2, h3, h4⟩ := run_append_textW o.type h t hb
 refine wpList_step fun _ hK => ?_
 rw [if_pos hgd]
 unfold Oper.wp execOp
 simp only [ho, resolve, invoke, builtin, Sem.run_bind, Sem.run_pure, Result.andThen_ok, List.map_toArray, List.map_cons, List.map_nil, hs, hx, hrun]
 exact hK _ _ (k A' c' w' h2 h3 h4)

theorem wValue {w0 wr : World} {bw : Nat} {SA A : Option Addr} {sn sc n c : Nat} {xs : List UInt8} {f : FieldD} {v : ValR} {se : Nat → MsgT → List UInt8} {rs : Nat → MsgT → Prop} (h : WrS w0 wr bw SA sn sc xs A n c) (hn : n ≤ 1000000) (hv : ValAt w0 v) (hF : RightF rs f (bareV v)) (hkb : kindB f.kind = true) (r2 : rightB f.number 2 = true) (rw_ : rightB f.number (wireI f.kind) = true) (hl : (valueE se f (bareV v)).flatten.length ≤ 1000000)
  (hp : f.kind = 17 → ∀ y ∈ v.subs, ∀ (w1 w2 : World) (bw2 : Nat) (A2 : Option Addr) (n2 c2 : Nat), Ext w0 w1 → WrS w1 w2 bw2 SA sn sc [] A2 n2 c2 → Calls Tryz.prog 123 #[.pointer (some ⟨bw2, 0, none⟩), .int .i64 f.of_, treeV y] w2 (Writes w1 bw2 SA sn sc [] A2 w2 (se f.of_.toNat (bare y)))) :
  Calls Tryz.prog 169 #[.pointer (some ⟨bw, 0, none⟩), fieldV f, tvalV v] wr (Writes w0 bw SA sn sc xs A wr (valueE se f (bareV v)).flatten) := by
 have h64 := hv.own.small
 obtain ⟨_, h2, h3, h4⟩ := hF
 rcases hk : numberB f.kind with _ | _
 · have hE : valueE se f (bareV v) = (v.texts.map fun t => putB f.number 2 t.data.toList) ++ v.subs.map fun y => putB f.number 2 (se f.of_.toNat (bare y)) := by
    unfold valueE
    rw [if_neg (by rw [hk]; decide)]
    unfold bareV
    simp only [List.map_map]
    rfl
   rw [hE, List.flatten_append] at hl ⊢
   rw [List.length_append] at hl
   refine wValueOther (se := fun y => se f.of_.toNat (bare y)) h hn hv hk hkb r2 (fun y hy => hp ?_ y hy) (Nat.le_trans (Nat.add_le_add hn hl) (by omega))
   rcases h4 with ⟨q, _⟩ | ⟨_, _, _, _, q, _⟩ | ⟨q, _⟩
   · rw [hk] at q
     cases q
   · have q' : v.subs.map bare = [] := q
     rw [List.map_eq_nil_iff] at q'
     rw [q'] at hy
     cases hy
   · exact q
 · have ht : v.texts = [] ∧ v.subs = [] := by
    rcases h4 with ⟨_, q1, q2, _⟩ | ⟨q, _⟩ | ⟨q, _⟩
    · exact ⟨q1, List.map_eq_nil_iff.1 q2⟩
    · rw [hk] at q
      cases q
    · rw [q] at hk
      exact absurd hk (by decide)
   rcases hr : f.rep with _ | _
   · have h1 : v.words.length = 1 := by
      have := h3 hr
      unfold manyU bareV at this
      simp only [List.length_map, ht.1, ht.2, List.length_nil] at this
      omega
     obtain ⟨x, hw⟩ := List.length_eq_one_iff.1 h1
     have hE : (valueE se f (bareV v)).flatten = putB f.number (wireI f.kind) (putS f.kind x) := by
      unfold valueE
      rw [if_pos hk, if_neg (by rw [hr]; decide)]
      unfold bareV
      simp only [hw]
      simp
     rw [hE]
     exact wValueWord h hn hv hk hkb hr (by rw [ht.1]; rfl) (by rw [ht.2]; rfl) hw rw_
   · have hE : (valueE se f (bareV v)).flatten = putB f.number 2 (packW f.kind v.words) := by
      unfold valueE
      rw [if_pos hk, if_pos hr]
      unfold bareV
      simp
     rw [hE] at hl ⊢
     have h5 := putB_more f.number (packW f.kind v.words)
     have h6 := packW_ge f.kind v.words h64
     exact wValueRun h hn hv hk hkb hr (by rw [ht.1]; rfl) (by rw [ht.2]; rfl) (by omega) r2

set_option maxRecDepth 100000 in
set_option maxHeartbeats 4000000 in
theorem wMessageM {w0 wr : World} {bw : Nat} {SA A : Option Addr} {sn sc n c : Nat} {xs : List UInt8} {S : List MsgV} {m : Nat} {x : MsgR} {se : Nat → MsgT → List UInt8} {rs : Nat → MsgT → Prop} (hR : rightS (S.map MsgV.d) = true) (hs : SchemaAt w0 SA sn sc S) (hx : TreeAt w0 x) (hr : RightJ rs (S.map MsgV.d) m (bare x)) (h : WrS w0 wr bw SA sn sc xs A n c) (hl : n + (encC se (S.map MsgV.d) m (bare x)).flatten.length ≤ 1000000)
  (hp : ∀ v ∈ x.vals, ∀ (M : MsgV) (i : Nat) (f : FieldD), S[m]? = some M → M.d.fields[i]? = some f → RightF rs f (bareV v) → (valueE se f (bareV v)).flatten.length ≤ 1000000 → ∀ (wq : World) (ys : List UInt8) (A1 : Option Addr) (n1 c1 : Nat), WrS w0 wq bw SA sn sc ys A1 n1 c1 → n1 ≤ 1000000 → Calls Tryz.prog 169 #[.pointer (some ⟨bw, 0, none⟩), fieldV f, tvalV v] wq (Writes w0 bw SA sn sc ys A1 wq (valueE se f (bareV v)).flatten)) :
  Calls Tryz.prog 123 #[.pointer (some ⟨bw, 0, none⟩), .int .i64 (m : Int), treeV x] wr (Writes w0 bw SA sn sc xs A wr (encC se (S.map MsgV.d) m (bare x)).flatten) := by
 obtain ⟨MD, hMd, hpw, hvals, hunk⟩ := hr
 have hSl := hs.length
 have hml : m < sn := by
  have := (List.getElem?_eq_some_iff.1 hMd).1
  rw [List.length_map] at this
  omega
 obtain ⟨b1, off1, M, hSA, hM, hf, hnm, hb1, s0, s1⟩ := hs.msg (k := m) hml
 subst hSA
 have hMM : MD = M.d := by rw [List.getElem?_map, hM] at hMd; exact (Option.some.inj hMd).symm
 subst hMM
 have hn1 : sn ≤ 1000000 := by have := (rightS_inv hR).2.1; rw [List.length_map] at this; omega
 have hMn : M.n ≤ 1000000 := by have := (right_msg hR hMd).2.2.1; have := hf.length; omega
 obtain ⟨E, hE⟩ : ∃ E : ValR → List UInt8, E = fun v => match M.d.fields.find? (fun f : FieldD => f.number == v.number) with | none => [] | some f => (valueE se f (bareV v)).flatten := ⟨_, rfl⟩
 obtain ⟨T, hT⟩ : ∃ T, T = x.vals.map E := ⟨_, rfl⟩
 obtain ⟨U, hU⟩ : ∃ U, U = x.unk.map fun t => t.data.toList := ⟨_, rfl⟩
 have hall : (encC se (S.map MsgV.d) m (bare x)).flatten = T.flatten ++ U.flatten := by
  unfold encC
  rw [hMd, bare_eq]
  simp only
  rw [List.flatten_append, flat_map_flatten, hT, hU, hE]
  congr 2
  show ((x.vals.map bareV).map _) = _
  rw [List.map_map]
  refine List.map_congr_left fun v _ => ?_
  simp only [Function.comp]
  show (match M.d.fields.find? (fun f : FieldD => f.number == v.number) with | none => [] | some f => valueE se f (bareV v)).flatten = _
  rcases M.d.fields.find? (fun f : FieldD => f.number == v.number) with _ | f
  · rfl
  · rfl
 rw [hall] at hl ⊢
 rw [List.length_append] at hl
 have hTl : T.length = x.vals.length := by rw [hT, List.length_map]
 have hUl : U.length = x.unk.length := by rw [hU, List.length_map]
 have hTs : ∀ k v, x.vals[k]? = some v → ∃ (i : Nat) (f : FieldD), M.d.fields[i]? = some f ∧ i < M.n ∧ idxB (fun g => g.number == v.number) M.d.fields = (i : Nat) ∧ xs ++ (T.take (k + 1)).flatten = (xs ++ (T.take k).flatten) ++ (valueE se f (bareV v)).flatten ∧ (xs ++ (T.take k).flatten).length ≤ 1000000 ∧
   ∀ (wq : World) (ys : List UInt8) (A1 : Option Addr) (n1 c1 : Nat), WrS w0 wq bw (some ⟨b1, off1, none⟩) sn sc ys A1 n1 c1 → n1 ≤ 1000000 → Calls Tryz.prog 169 #[.pointer (some ⟨bw, 0, none⟩), fieldV f, tvalV v] wq (Writes w0 bw (some ⟨b1, off1, none⟩) sn sc ys A1 wq (valueE se f (bareV v)).flatten) := fun k v q => by
  have hvm := List.mem_of_getElem? q
  have hbm : bareV v ∈ (bare x).vals := by rw [bare_eq]; exact List.mem_map_of_mem hvm
  obtain ⟨i, f, hfi, hF⟩ := hvals _ hbm
  have hnum : v.number = f.number := hF.1
  have hidx : idxB (fun g : FieldD => g.number == v.number) M.d.fields = (i : Nat) := by
   have := (right_field hR hMd hfi).2
   rw [← this, hnum]
   rfl
  have hfind : M.d.fields.find? (fun g => g.number == v.number) = some f := (find_of_idx (p := fun g : FieldD => g.number == v.number) (l := M.d.fields)).2 i f hidx hfi
  have hEv : E v = (valueE se f (bareV v)).flatten := by rw [hE]; simp only; rw [hfind]
  have hm : T[k]? = some ((valueE se f (bareV v)).flatten) := by rw [hT, List.getElem?_map, q, ← hEv]; rfl
  have h1 := mem_flatten_le (List.mem_of_getElem? hm)
  have h2 := flat_upto (T := T) k
  have hi := (List.getElem?_eq_some_iff.1 hfi).1
  have := hf.length
  have h4 := h.nL
  exact ⟨i, f, hfi, by omega, hidx, by rw [take_snoc _ _ _ hm, List.flatten_append]; simp, by rw [List.length_append]; omega, hp v hvm M i f hM hfi hF (by omega)⟩
 have hUs : ∀ k t, x.unk[k]? = some t → xs ++ (T.flatten ++ (U.take (k + 1)).flatten) = (xs ++ (T.flatten ++ (U.take k).flatten)) ++ t.data.toList ∧ (xs ++ (T.flatten ++ (U.take k).flatten)).length ≤ 1000000 ∧ t.data.toList.length ≤ 1000000 := fun k t q => by
  have hm : U[k]? = some t.data.toList := by rw [hU, List.getElem?_map, q]; rfl
  have h1 := mem_flatten_le (List.mem_of_getElem? hm)
  have h2 := flat_upto (T := U) k
  have h4 := h.nL
  exact ⟨by rw [take_snoc _ _ _ hm, List.flatten_append]; simp, by rw [List.length_append, List.length_append]; omega, by omega⟩
 have hby := fun (W : World) (y : Int) (i : Nat) (h : Ext w0 W) (hi : idxB (fun g => g.number == y) M.d.fields = (i : Nat)) => sByNumber (s := M.d.name) (x := y) (hf.up h) (show M.n ≤ 1000000000000 by omega) hi
 have hlt := fun (b : Nat) (hb : wr.heap.size ≤ b) => h.lt hb
 have HTs := Lib.hid hTs
 have HUs := Lib.hid hUs
 have HTl := Lib.hid hTl
 have HUl := Lib.hid hUl
 have Hby := Lib.hid hby
 have Hlt := Lib.hid hlt
 have Hf := Lib.hid hf
 have Hx := Lib.hid hx
 have Hh := Lib.hid h
 have tcap := hx.vals.cap
 have scap := hx.unk.at_.cap
 have tmax := hx.vals.max
 have smax := hx.unk.at_.max
 unfold maxLen at tmax smax
 have mI : (m : Int) < sn := by omega
 clear hTs hUs hTl hUl hby hlt hf hx h hall hT hU hE hl hp hvals hunk hpw hMd hM hR hs hSl
 unfold treeV
 go_enter Tryz.func123, Tryz.ntmps123
 go_wp2
 have BX := BlkT.new wr 35 #[.slice x.a.1 x.vals.length x.a.2, .slice x.b.1 x.unk.length x.b.2] rfl
 have X0 : Ext wr (wr.alloc (.cells #[.slice x.a.1 x.vals.length x.a.2, .slice x.b.1 x.unk.length x.b.2] 35)) := (Ext.refl wr).alloc _
 generalize wr.alloc (.cells #[.slice x.a.1 x.vals.length x.a.2, .slice x.b.1 x.unk.length x.b.2] 35) = wx at *
 have hx1 : wx.cell? ⟨wr.heap.size, 1, none⟩ = some (.slice x.b.1 x.unk.length x.b.2) := BX.cell 1
 have Hx1 := Lib.hid hx1
 have lx := BX.lt
 have hWx := Hh.out.up X0
 have HX0 := Lib.hid X0
 clear hx1 BX X0
 go_loopw [7, 8, 9, 15] (fun _ _ _ i wq => ∃ (k : Nat) (A1 : Option Addr) (n1 c1 : Nat), k ≤ x.vals.length ∧ i = .int .i64 (k : Int) ∧ WrS w0 wq bw (some ⟨b1, off1, none⟩) sn sc (xs ++ (T.take k).flatten) A1 n1 c1 ∧ Went wx wq bw A A1) (fun _ _ _ i _ => x.vals.length - (intOf i).toNat)
 case atStart => exact ⟨0, A, n, c, Nat.zero_le _, rfl, by rw [List.take_zero, List.flatten_nil, List.append_nil]; exact hWx, Went.refl _ _ _⟩
 case round =>
  rename World => wq
  obtain ⟨k, A1, n1, c1, hkk, rfl, hW1, hG⟩ := hrel
  by_cases hlt : k < x.vals.length
  · have hltI : (k : Int) < x.vals.length := by omega
    obtain ⟨b5, off5, v, hA, hvk, hb5, e0, e1, e2, e3⟩ := valCells Hx.out.vals hlt
    have hvm := List.mem_of_getElem? hvk
    obtain ⟨i, f, hfi, hin, hidx, hs1, hs2, hcall⟩ := HTs.out k v hvk
    obtain ⟨b8, off8, f', hA8, hff, hok8, hb8, g0, g1, g2, g3, g4, g5⟩ := Hf.out.field hin
    rw [hfi] at hff
    cases hff
    have E0 := hW1.own.ext
    have o0 : wq.cell? ⟨bw, 0, none⟩ = some (.slice (some ⟨b1, off1, none⟩) sn sc) := hW1.o.cell 0
    have ol := hW1.o.lt
    rw [← hW1.nL] at hs2
    have hby := fun (W : World) (h : Ext w0 W) => Hby.out W v.number i h hidx
    rw [show max (i : Int) 0 = i by omega, show decide ((0 : Int) ≤ (i : Int)) = true by rw [decide_eq_true_iff]; omega, hA8] at hby
    have s1x := s1
    rw [hA8] at s1x
    have iI : (i : Int) < M.n := by omega
    unfold fieldV tvalV at hcall
    have Hby2 := Lib.hid hby
    have Hcall := Lib.hid hcall
    have Hs1 := Lib.hid hs1
    have HG := Lib.hid hG
    have HW := Lib.hid hW1
    have l5 := Nat.lt_of_lt_of_le hb5 E0.size
    have l8 := Nat.lt_of_lt_of_le hb8 E0.size
    have lb := Nat.lt_of_lt_of_le hb1 E0.size
    have e0q := E0.of_cell e0
    have e1q := E0.of_cell e1
    have e2q := E0.of_cell e2
    have e3q := E0.of_cell e3
    have s0q := E0.of_cell s0
    have s1q := E0.of_cell s1x
    have Hs1x := Lib.hid s1x
    have hgs := And.intro g0 (And.intro g1 (And.intro g2 (And.intro g3 (And.intro g4 g5))))
    have Hgs := Lib.hid hgs
    rw [hA]
    clear hby hcall hs1 hG hW1 hfi hidx hA8 hvk e0 e1 e2 e3 s1x hgs g0 g1 g2 g3 g4 g5
    have BV := BlkT.new wq 52 #[.int .i64 v.number, .slice v.a.1 v.words.length v.a.2, .slice v.b.1 v.texts.length v.b.2, .slice v.c.1 v.subs.length v.c.2] rfl
    have Xv : Ext wq (wq.alloc (.cells #[.int .i64 v.number, .slice v.a.1 v.words.length v.a.2, .slice v.b.1 v.texts.length v.b.2, .slice v.c.1 v.subs.length v.c.2] 52)) := (Ext.refl wq).alloc _
    go_wp2_with fail
    generalize wq.alloc (.cells #[.int .i64 v.number, .slice v.a.1 v.words.length v.a.2, .slice v.b.1 v.texts.length v.b.2, .slice v.c.1 v.subs.length v.c.2] 52) = wv at *
    have z0 : wv.cell? ⟨wq.heap.size, 0, none⟩ = some (.int .i64 v.number) := BV.cell 0
    have z1 : wv.cell? ⟨wq.heap.size, 1, none⟩ = some (.slice v.a.1 v.words.length v.a.2) := BV.cell 1
    have z2 : wv.cell? ⟨wq.heap.size, 2, none⟩ = some (.slice v.b.1 v.texts.length v.b.2) := BV.cell 2
    have z3 : wv.cell? ⟨wq.heap.size, 3, none⟩ = some (.slice v.c.1 v.subs.length v.c.2) := BV.cell 3
    have zl := BV.lt
    have Xvv : Ext wv wv := Ext.refl wv
    have o0v := Xv.of_cell o0
    have s0v := Xv.of_cell s0q
    have s1v := Xv.of_cell s1q
    have lbv := Nat.lt_of_lt_of_le lb Xv.size
    have olv := Nat.lt_of_lt_of_le ol Xv.size
    clear BV o0 s0q s1q e0q e1q e2q e3q
    go_region_held3 (fun W => Ext wv W ∧ ∀ b o, b < wv.heap.size → W.cell? ⟨b, o, none⟩ = wv.cell? ⟨b, o, none⟩) ((refine Ext.keep ?_; repeat with_reducible (first | assumption | exact Ext.refl _ | refine Ext.alloc ?_ _ | refine Ext.drew ?_ | refine Ext.drewN ?_ _ | refine Ext.setCell ?_ (by first | omega | (simp <;> omega)) _))) (first | (go_split_ands; go_at_call 164; refine (Hby2.out _ (E0.trans (Xv.trans (by with_reducible assumption)))).mono ?_; rintro e w5 ⟨rfl, E5⟩; have q5 : Ext wv w5 := Ext.trans (by with_reducible assumption) E5))
    rename Ext wv w5 ∧ _ => hS5
    clear hS5
    have X5 : Ext wq w5 := Xv.trans q5
    have HX5 := Lib.hid X5
    have o05 := q5.of_cell o0v
    have s15 := q5.of_cell s1v
    have z05 := q5.of_cell z0
    have z15 := q5.of_cell z1
    have z25 := q5.of_cell z2
    have z35 := q5.of_cell z3
    have g05 := (E0.trans X5).of_cell Hgs.out.1
    have g15 := (E0.trans X5).of_cell Hgs.out.2.1
    have g25 := (E0.trans X5).of_cell Hgs.out.2.2.1
    have g35 := (E0.trans X5).of_cell Hgs.out.2.2.2.1
    have g45 := (E0.trans X5).of_cell Hgs.out.2.2.2.2.1
    have g55 := (E0.trans X5).of_cell Hgs.out.2.2.2.2.2
    clear z0 z1 z2 z3 o0v s0v s1v
    go_wp2
    go_region_held3 (fun W => (W.cell? ⟨bw, 0, none⟩ = some (.slice (some ⟨b1, off1, none⟩) sn sc)) ∧ (W.cell? ⟨b1, off1 + m * 2 + 1, none⟩ = some (.slice (some ⟨b8, off8, none⟩) M.n M.c)) ∧ (W.cell? ⟨b8, off8 + i * 6, none⟩ = some (.string f.name)) ∧ (W.cell? ⟨b8, off8 + i * 6 + 1, none⟩ = some (.int .i64 f.number)) ∧ (W.cell? ⟨b8, off8 + i * 6 + 2, none⟩ = some (.int .i64 f.kind)) ∧ (W.cell? ⟨b8, off8 + i * 6 + 3, none⟩ = some (.bool f.rep)) ∧ (W.cell? ⟨b8, off8 + i * 6 + 4, none⟩ = some (.bool f.packed)) ∧ (W.cell? ⟨b8, off8 + i * 6 + 5, none⟩ = some (.int .i64 f.of_)) ∧ (W.cell? ⟨wq.heap.size, 0, none⟩ = some (.int .i64 v.number)) ∧ (W.cell? ⟨wq.heap.size, 1, none⟩ = some (.slice v.a.1 v.words.length v.a.2)) ∧ (W.cell? ⟨wq.heap.size, 2, none⟩ = some (.slice v.b.1 v.texts.length v.b.2)) ∧ (W.cell? ⟨wq.heap.size, 3, none⟩ = some (.slice v.c.1 v.subs.length v.c.2)))
       (first | exact ⟨by assumption, by assumption, by assumption, by assumption, by assumption, by assumption, by assumption, by assumption, by assumption, by assumption, by assumption, by assumption⟩ | exact ⟨by assumption, by assumption, by assumption, by assumption, by assumption, by assumption, by assumption, by assumption, by assumption, by assumption, by assumption, by assumption⟩ | (go_split_ands; first | exact ⟨by assumption, by assumption, by assumption, by assumption, by assumption, by assumption, by assumption, by assumption, by assumption, by assumption, by assumption, by assumption⟩ | exact ⟨Ext.of_cell (Ext.alloc (Ext.refl _) _) (by assumption), Ext.of_cell (Ext.alloc (Ext.refl _) _) (by assumption), Ext.of_cell (Ext.alloc (Ext.refl _) _) (by assumption), Ext.of_cell (Ext.alloc (Ext.refl _) _) (by assumption), Ext.of_cell (Ext.alloc (Ext.refl _) _) (by assumption), Ext.of_cell (Ext.alloc (Ext.refl _) _) (by assumption), Ext.of_cell (Ext.alloc (Ext.refl _) _) (by assumption), Ext.of_cell (Ext.alloc (Ext.refl _) _) (by assumption), Ext.of_cell (Ext.alloc (Ext.refl _) _) (by assumption), Ext.of_cell (Ext.alloc (Ext.refl _) _) (by assumption), Ext.of_cell (Ext.alloc (Ext.refl _) _) (by assumption), Ext.of_cell (Ext.alloc (Ext.refl _) _) (by assumption)⟩)) (first
     | (go_simp; go_at_call 169; refine (Hcall.out _ _ _ _ _ (HW.out.up (HX5.out.trans (by repeat with_reducible (first | exact Ext.refl _ | refine Ext.alloc ?_ _ | refine Ext.drew ?_ | refine Ext.drewN ?_ _ | refine Ext.setCell ?_ (by first | omega | (simp <;> omega)) _)))) hs2).mono ?_; rintro e w6 ⟨rfl, A6, n6, c6, W6, S6, N6⟩; have G6 := HG.out.next (HX5.out.trans (by repeat with_reducible (first | exact Ext.refl _ | refine Ext.alloc ?_ _ | refine Ext.drew ?_ | refine Ext.drewN ?_ _ | refine Ext.setCell ?_ (by first | omega | (simp <;> omega)) _))) S6 N6; have E6 := W6.own.ext; have o06 : w6.cell? ⟨bw, 0, none⟩ = some (.slice (some ⟨b1, off1, none⟩) sn sc) := W6.o.cell 0; have s16 := E6.of_cell Hs1x.out; have g06 := E6.of_cell Hgs.out.1; have g16 := E6.of_cell Hgs.out.2.1; have g26 := E6.of_cell Hgs.out.2.2.1; have g36 := E6.of_cell Hgs.out.2.2.2.1; have g46 := E6.of_cell Hgs.out.2.2.2.2.1; have g56 := E6.of_cell Hgs.out.2.2.2.2.2; have z06 := S6.cellE (HW.out.lt (Nat.le_refl _)) z05; have z16 := S6.cellE (HW.out.lt (Nat.le_refl _)) z15; have z26 := S6.cellE (HW.out.lt (Nat.le_refl _)) z25; have z36 := S6.cellE (HW.out.lt (Nat.le_refl _)) z35))
    all_goals
     go_simp
     go_wp2
     go_roundw
     case rel => exact ⟨k + 1, A6, n6, c6, by omega, by go_num, by rw [Hs1.out]; exact W6, G6⟩
     case measure => simp [intOf]; omega
  · have hge : ¬ ((k : Int) < x.vals.length) := by omega
    have hkT : (T.take k).flatten = T.flatten := by rw [List.take_of_length_le (by have := HTl.out; omega)]
    rw [hkT] at hW1
    have x1q := hG.cell (Hlt.out _ (Nat.le_refl _)) Hx1.out
    have lxq := Nat.lt_of_lt_of_le lx hG.stays.size
    clear hkT
    go_wp2
    go_loopw [11, 50] (fun _ i wp => ∃ (j : Nat) (A1 : Option Addr) (n1 c1 : Nat), j ≤ x.unk.length ∧ i = .int .i64 (j : Int) ∧ WrS w0 wp bw (some ⟨b1, off1, none⟩) sn sc (xs ++ (T.flatten ++ (U.take j).flatten)) A1 n1 c1 ∧ Went wx wp bw A A1) (fun _ i _ => x.unk.length - (intOf i).toNat)
    case atStart => exact ⟨0, A1, n1, c1, Nat.zero_le _, rfl, by rw [List.take_zero, List.flatten_nil, List.append_nil]; exact hW1, hG⟩
    case round =>
     rename World => wp
     obtain ⟨j, A2, n2, c2, hj, rfl, hW2, hG2⟩ := hrel
     by_cases hltj : j < x.unk.length
     · have hltI : (j : Int) < x.unk.length := by omega
       obtain ⟨b5, off5, t, hA, htk, hb5, hts, e0⟩ := Hx.out.unk.text hltj
       have e0p := hW2.own.ext.of_cell e0
       have l5 := Nat.lt_of_lt_of_le hb5 hW2.own.ext.size
       have o1 : wp.cell? ⟨bw, 1, none⟩ = some (.slice A2 n2 c2) := hW2.o.cell 1
       have ol := hW2.o.lt
       obtain ⟨hs1, hs2, hs3⟩ := HUs.out j t htk
       rw [← hW2.nL] at hs2
       have Hs1 := Lib.hid hs1
       have HG := Lib.hid hG2
       have HW := Lib.hid hW2
       rw [hA]
       clear hs1 htk hG2 hW2 e0
       go_wp2_with (at_builtin; refine wpList_textW rfl (.tmp 58) (.tmp 59) rfl rfl HW.out.own rfl (by omega) ?_; intro A4 c4 w4 own4 g4 m4; have B4 := HW.out.o.beside HW.out.own (by decide) g4; have f4 := B4.free 1; have l4 := B4.lt; have c44 : w4.cell? ⟨bw, 1, none⟩ = some (.slice A2 n2 c2) := B4.cell 1)
       go_roundw
       case rel =>
        have hfar := own4.far B4 (by decide) HW.out.base 1 (.slice A4 (n2 + t.data.toList.length) c4)
        have hS : Stays (Else bw A2) wp (w4.setCell ⟨bw, 1, none⟩ (.slice A4 (n2 + t.data.toList.length) c4)) := (Stays.grown g4 (fun k hk => by rw [ownBlock_any A2 n2 c2 0 0] at hk; exact fun q => q.2 hk)).set (fun q => q.1 rfl) _
        refine ⟨j + 1, A4, n2 + t.data.toList.length, c4, by omega, by go_num, ?_, HG.out.next (Ext.refl wp) hS (fun b hb => ?_)⟩
        · rw [Hs1.out]
          exact ⟨B4.set_ 1 _, hfar, by rw [List.length_append, ← HW.out.nL], HW.out.base⟩
        · rcases m4 with q | q
          · rw [q] at hb
            exact .inl hb
          · rw [q] at hb
            injection hb with hb
            exact .inr (by omega)
       case measure => simp [intOf]; omega
     · have hge2 : ¬ ((j : Int) < x.unk.length) := by omega
       have hkU : (U.take j).flatten = U.flatten := by rw [List.take_of_length_le (by have := HUl.out; omega)]
       rw [hkU] at hW2
       clear hkU
       go_wp2
       go_end0
       exact ⟨rfl, A2, n2, c2, hW2, (Stays.of_ext HX0.out).trans hG2.stays, fun b hb => (hG2.news b hb).imp id (fun q => Nat.le_trans HX0.out.size q)⟩

theorem wMessage {S : List MsgV} (hR : rightS (S.map MsgV.d) = true) : ∀ (d m : Nat) (x : MsgR) (w0 wr : World) (bw : Nat) (SA : Option Addr) (sn sc : Nat) (xs : List UInt8) (A : Option Addr) (n c : Nat), SchemaAt w0 SA sn sc S → TreeAt w0 x → RightV (S.map MsgV.d) d m (bare x) → WrS w0 wr bw SA sn sc xs A n c → n + (encV (S.map MsgV.d) d m (bare x)).length ≤ 1000000 →
  Calls Tryz.prog 123 #[.pointer (some ⟨bw, 0, none⟩), .int .i64 (m : Int), treeV x] wr (Writes w0 bw SA sn sc xs A wr (encV (S.map MsgV.d) d m (bare x)))
 | 0, m, x, w0, wr, bw, SA, sn, sc, xs, A, n, c, hs, hx, hr, h, hl => by
   have hr' : RightJ (fun _ _ => False) (S.map MsgV.d) m (bare x) := hr
   have e : encV (S.map MsgV.d) 0 m (bare x) = (encC (fun _ _ => []) (S.map MsgV.d) m (bare x)).flatten := by rw [encV]
   rw [e] at hl ⊢
   refine wMessageM hR hs hx hr' h hl (fun v hv M i f hM hf hF hvl wq ys A1 n1 c1 hW hn1 => ?_)
   have hMd : (S.map MsgV.d)[m]? = some M.d := by rw [List.getElem?_map, hM]; rfl
   obtain ⟨r2, r3⟩ := right_puts hR hMd hf
   obtain ⟨_, _, _, hkb⟩ := right_number hR hMd hf
   refine wValue hW hn1 (hx.val hv) hF hkb r2 r3 hvl (fun h17 y hy => ?_)
   obtain ⟨_, _, _, h4⟩ := hF
   rcases h4 with ⟨q, _⟩ | ⟨_, _, q, _⟩ | ⟨_, _, _, q⟩
   · rw [h17] at q
     exact absurd q (by decide)
   · exact absurd h17 q
   · exact (q (bare y) (List.mem_map_of_mem hy)).elim
 | d + 1, m, x, w0, wr, bw, SA, sn, sc, xs, A, n, c, hs, hx, hr, h, hl => by
   have hr' : RightJ (RightV (S.map MsgV.d) d) (S.map MsgV.d) m (bare x) := hr
   have e : encV (S.map MsgV.d) (d + 1) m (bare x) = (encC (encV (S.map MsgV.d) d) (S.map MsgV.d) m (bare x)).flatten := by rw [encV]
   rw [e] at hl ⊢
   refine wMessageM hR hs hx hr' h hl (fun v hv M i f hM hf hF hvl wq ys A1 n1 c1 hW hn1 => ?_)
   have hMd : (S.map MsgV.d)[m]? = some M.d := by rw [List.getElem?_map, hM]; rfl
   obtain ⟨r2, r3⟩ := right_puts hR hMd hf
   obtain ⟨_, _, _, hkb⟩ := right_number hR hMd hf
   refine wValue hW hn1 (hx.val hv) hF hkb r2 r3 hvl (fun h17 y hy w1 w2 bw2 A2 n2 c2 hE hW2 => ?_)
   obtain ⟨o, ho, _⟩ := right_of hR hMd hf h17
   obtain ⟨_, _, _, h4⟩ := hF
   have hy' : bare y ∈ (bareV v).subs := List.mem_map_of_mem hy
   have hq : RightV (S.map MsgV.d) d f.of_.toNat (bare y) := by
    rcases h4 with ⟨q, _⟩ | ⟨_, _, q, _⟩ | ⟨_, _, _, q⟩
    · rw [h17] at q
      exact absurd q (by decide)
    · exact absurd h17 q
    · exact q (bare y) hy'
   have hyl : (encV (S.map MsgV.d) d f.of_.toNat (bare y)).length ≤ 1000000 := by
    have h1 := putB_more f.number (encV (S.map MsgV.d) d f.of_.toNat (bare y))
    have hm : putB f.number 2 (encV (S.map MsgV.d) d f.of_.toNat (bare y)) ∈ valueE (encV (S.map MsgV.d) d) f (bareV v) := by
     unfold valueE
     rw [if_neg (by rw [h17]; decide)]
     exact List.mem_append_right _ (List.mem_map_of_mem (f := fun y => putB f.number 2 (encV (S.map MsgV.d) d f.of_.toNat y)) hy')
    have h2 := mem_flatten_le hm
    omega
   have hn2 : n2 = 0 := hW2.nL
   rw [ho, Int.toNat_natCast] at hq hyl ⊢
   exact wMessage hR d o y w1 w2 bw2 SA sn sc [] A2 n2 c2 (hs.up hE) (((hx.val hv).sub y hy).up hE) hq hW2 (by omega)

set_option maxHeartbeats 1000000 in
theorem cEncode {A : Option Addr} {n c : Nat} {S : List MsgV} {d m : Nat} {x : MsgR} {w : World} (hR : rightS (S.map MsgV.d) = true) (hm : m < n) (hs : SchemaAt w A n c S) (hx : TreeAt w x) (hr : RightV (S.map MsgV.d) d m (bare x)) (hfit : FitT 1000000000000 x) (htx : TextsT 1000000000 x) (hl : (encV (S.map MsgV.d) d m (bare x)).length ≤ 1000000) :
  Calls Tryz.prog 64 #[.slice A n c, .int .i64 (m : Int), treeV x] w fun e w' => ∃ A' n2 c2, e = .returned (.tuple #[.slice A' n2 c2, .int .u8 0]) ∧ Hid (n2 = (encV (S.map MsgV.d) d m (bare x)).length) ∧ Own w w' 5 1 A' n2 c2 ((encV (S.map MsgV.d) d m (bare x)).map bv) := by
 have h1 := fun W (h : SchemaAt W A n c S) => sRight h
 rw [hR] at h1
 have h2 := fun W (h : SchemaAt W A n c S) (q : TreeAt W x) => tRightS (root := (m : Int)) h q hfit htx
 have hRI : RI (S.map MsgV.d) (m : Int) (bare x) := ⟨by omega, d, by rw [Int.toNat_natCast]; exact hr⟩
 rw [hR, eqB_yes hRI] at h2
 have h3 := fun (w2 : World) (bw : Nat) (E : Ext w w2) (q : BlkT w2 bw 194 #[.slice A n c, .slice none 0 0]) (hb : w.heap.size ≤ bw) => wMessage hR d m x w w2 bw A n c [] none 0 0 hs hx hr ⟨q, Own.nil E _ _, rfl, hb⟩ (by omega)
 generalize encV (S.map MsgV.d) d m (bare x) = F at *
 have H1 := Lib.hid h1
 have H2 := Lib.hid h2
 have H3 := Lib.hid h3
 have mI : (m : Int) < n := by omega
 have mN : ¬ n ≤ m := by omega
 unfold treeV at *
 have H2' := H2.out
 have H3' := H3.out
 have HX := Lib.hid hx
 have HS := Lib.hid hs
 clear h1 h2 h3 hRI hR hr hfit htx hx hs
 go_enter Tryz.func64, Tryz.ntmps64
 go_wp2_with (first
  | (go_at_call 73; refine (H1.out _ (HS.out.up (by repeat with_reducible (first | exact Ext.refl _ | refine Ext.alloc ?_ _ | refine Ext.drew ?_ | refine Ext.drewN ?_ _ | refine Ext.setCell ?_ (by first | omega | (simp <;> omega)) _)))).mono ?_; rintro e w1 ⟨rfl, E1⟩; have X1 : Ext w w1 := Ext.trans (by repeat with_reducible (first | exact Ext.refl _ | refine Ext.alloc ?_ _ | refine Ext.drew ?_ | refine Ext.drewN ?_ _ | refine Ext.setCell ?_ (by first | omega | (simp <;> omega)) _)) E1; have BX : BlkT w1 w.heap.size 35 #[.slice x.a.1 x.vals.length x.a.2, .slice x.b.1 x.unk.length x.b.2] := (BlkT.new w _ _ rfl).up E1; have x0 : w1.cell? ⟨w.heap.size, 0, none⟩ = some (.slice x.a.1 x.vals.length x.a.2) := BX.cell 0; have x1 : w1.cell? ⟨w.heap.size, 1, none⟩ = some (.slice x.b.1 x.unk.length x.b.2) := BX.cell 1; have lx := BX.lt; clear BX)
  | (go_at_call 74; refine (H2.out _ (HS.out.up (X1.trans (by repeat with_reducible (first | exact Ext.refl _ | refine Ext.alloc ?_ _ | refine Ext.drew ?_ | refine Ext.drewN ?_ _ | refine Ext.setCell ?_ (by first | omega | (simp <;> omega)) _)))) (HX.out.up (X1.trans (by repeat with_reducible (first | exact Ext.refl _ | refine Ext.alloc ?_ _ | refine Ext.drew ?_ | refine Ext.drewN ?_ _ | refine Ext.setCell ?_ (by first | omega | (simp <;> omega)) _))))).mono ?_; rintro e w2 ⟨rfl, E2⟩; have X2 : Ext w1 w2 := Ext.trans (by repeat with_reducible (first | exact Ext.refl _ | refine Ext.alloc ?_ _ | refine Ext.drew ?_ | refine Ext.drewN ?_ _ | refine Ext.setCell ?_ (by first | omega | (simp <;> omega)) _)) E2; replace x0 := X2.of_cell x0; replace x1 := X2.of_cell x1; replace lx := Nat.lt_of_lt_of_le lx X2.size)
  | (go_at_call 123; refine (H3.out _ w2.heap.size (X1.trans (X2.trans (by repeat with_reducible (first | exact Ext.refl _ | refine Ext.alloc ?_ _ | refine Ext.drew ?_ | refine Ext.drewN ?_ _ | refine Ext.setCell ?_ (by first | omega | (simp <;> omega)) _)))) (BlkT.new w2 _ _ rfl) (X1.trans X2).size).mono ?_; rintro e w3 ⟨rfl, A3, n3, c3, W3, S3, N3⟩; rw [List.nil_append] at W3; have f3 : w3.cell? ⟨w2.heap.size, 1, none⟩ = some (.slice A3 n3 c3) := W3.o.cell 1))
 all_goals
  go_ret2
  exact ⟨A3, n3, c3, rfl, W3.nL, W3.own⟩

end Go.Proofs.YtnnphodgegcddaaGreat
