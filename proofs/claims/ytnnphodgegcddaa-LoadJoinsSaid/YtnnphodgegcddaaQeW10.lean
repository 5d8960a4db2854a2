/- Contracts of layer 10. -/
import Derived.Test.YtnnphodgegcddaaQeW7
import Derived.Test.YtnnphodgegcddaaQeW5
import Derived.Test.YtnnphodgegcddaaQeW8
import Derived.Test.YtnnphodgegcddaaQeS7
import Derived.Test.YtnnphodgegcddaaQeLib
import Derived.Deep.RegionHeld3
import Derived.Deep.DeepCutAuto

/- Contracts of layer 10: the view of a record. -/
namespace Go.Proofs.Ytnnphodgegcddaa
open Go.RowKit Go.Shelf
set_option linter.unusedVariables false

theorem vField1 {f : FieldD} {b : Nat} {x : Int} {w : World} (hc : w.cell? ⟨b, 0, none⟩ = some (.int .i64 x)) :
    Calls Try.prog 74 #[fieldV f, .pointer (some ⟨b, 0, none⟩)] w fun e w' => e = .returned (.bool (numP x f)) ∧ Ext w w' := by
  unfold fieldV
  have hb := World.block_lt_of_cell? w _ hc
  simp only at hb
  go_enter Try.func74, Try.ntmps74
  go_wp2
  go_ret
  exact ⟨rfl, (by repeat with_reducible (first | exact Ext.refl _ | refine Ext.alloc ?_ _ | refine Ext.drew ?_ | refine Ext.drewN ?_ _ | refine Ext.setCell ?_ (by first | exact Nat.le_refl _ | omega | (simp; done) | (simp; omega)) _))⟩

theorem vField {s : ByteArray} {A : Option Addr} {n c : Nat} {l : List FieldD} {x : Int} {w : World} (hb : FieldsAt w A n c l) (hn : n ≤ 1000000000000) :
    Calls Try.prog 63 #[.agg #[.string s, .slice A n c], .int .i64 x] w fun e w' => e = .returned (.int .i64 (idxB (numP x) l)) ∧ Ext w w' := by
  have eg : ∀ args w, (callFunc 74 args).run Try.prog w = .ok (.enter 74 args) w := enters_of Try.func74 (by kernel_rfl) rfl
  go_enter Try.func63, Try.ntmps63
  go_wp2_with fail
  have B := Ext.new_blk (Ext.refl ((w.alloc (.cells #[.string s, .slice A n c] 45)).alloc (.cells #[.int .i64 x] 3)))
  refine (idxField (p := numP x) eg (hb.up (by repeat with_reducible (first | exact Ext.refl _ | refine Ext.alloc ?_ _ | refine Ext.drew ?_ | refine Ext.drewN ?_ _ | refine Ext.setCell ?_ (by first | exact Nat.le_refl _ | omega | (simp; done) | (simp; omega)) _))) hn ?_).mono ?_
  · intro W f hf hE
    have c0 : W.cell? ⟨w.heap.size + 1, 0, none⟩ = some (.int .i64 x) := by have := hE.of_cell (B.cell 0); simpa using this
    exact vField1 c0
  · rintro e w1 ⟨rfl, E1⟩
    go_wp2
    go_ret
    exact ⟨rfl, Ext.trans (by repeat with_reducible (first | exact Ext.refl _ | refine Ext.alloc ?_ _ | refine Ext.drew ?_ | refine Ext.drewN ?_ _ | refine Ext.setCell ?_ (by first | exact Nat.le_refl _ | omega | (simp; done) | (simp; omega)) _)) E1⟩

theorem vFieldE {s : ByteArray} {A : Option Addr} {n c : Nat} {l : List FieldD} {x I : Int} {w : World} (hb : FieldsAt w A n c l) (hn : n ≤ 1000000000000) (h : I = idxB (numP x) l) :
    Calls Try.prog 63 #[.agg #[.string s, .slice A n c], .int .i64 x] w fun e w' => e = .returned (.int .i64 I) ∧ Ext w w' := by
  subst h
  exact vField hb hn

def viewV (v : ViewD) : Value := .agg #[.int .i64 (v.r.n : Int), .int .i64 (v.r.w : Int), .int .i64 (v.r.f : Int), .int .i64 (v.r.a : Int), .int .i64 (v.r.t : Int), .int .i64 v.field, .bool v.run]

theorem rNextI' {A : Option Addr} {n c : Nat} {p : Int} {bs : List UInt8} {w : World} {r : Rec} {C : Nat} (hb : BytesAt w A n c bs) (hn : n ≤ 1000000000000) (h : nextI bs p = (r, C)) :
    Calls Try.prog 62 #[.slice A n c, .int .i64 p] w fun e w' => e = .returned (.tuple #[recV r, .int .u8 (C : Int)]) ∧ Ext w w' := by
  unfold nextI at h
  rw [hb.length] at h
  by_cases hp : p < 0 ∨ (n : Int) ≤ p
  · rw [if_pos hp] at h
    cases h
    exact rNext_arg hp
  · rw [if_neg hp] at h
    have := rNext hb (p := p.toNat) (by omega) hn h
    rwa [show ((p.toNat : Nat) : Int) = p by omega] at this

theorem nextI_le' (bs : List UInt8) (p : Int) : (nextI bs p).2 ≤ 5 := by
  unfold nextI
  split
  · simp
  · exact nextV_le bs _

set_option maxRecDepth 100000 in
set_option maxHeartbeats 1000000 in
theorem vLook {s : ByteArray} {A B : Option Addr} {n c m d : Nat} {l : List FieldD} {bs : List UInt8} {p : Int} {w : World} {v : ViewD} {C : Nat} (hf : FieldsAt w A n c l) (hn : n ≤ 1000000000000) (hb : BytesAt w B m d bs) (hm : m ≤ 1000000000000) (h : lookI l bs p = (v, C)) :
    Calls Try.prog 52 #[.agg #[.string s, .slice A n c], .slice B m d, .int .i64 p] w fun e w' => e = .returned (.tuple #[viewV v, .int .u8 (C : Int)]) ∧ Ext w w' := by
  have hE := Ext.refl w
  rcases hx : nextI bs p with ⟨r, K⟩
  have hK5 := nextI_le' bs p
  rw [hx] at hK5
  unfold lookI at h
  rw [hx] at h
  simp only at h hK5
  have Hx := Lib.hid hx
  clear hx
  by_cases hK : K = 0
  · subst hK
    rw [if_pos rfl] at h
    obtain ⟨rn, rw_, rf, ra, rt⟩ := r
    obtain ⟨I, hI⟩ : ∃ I, I = idxB (numP (rn : Int)) l := ⟨_, rfl⟩
    have HI := Lib.hid hI
    have Hs := Lib.hid h
    clear h hI
    go_enter Try.func52, Try.ntmps52
    go_upto_region 4 with (go_at_call 62; refine (rNextI' (hb.up (by repeat with_reducible (first | exact Ext.refl _ | refine Ext.alloc ?_ _ | refine Ext.drew ?_ | refine Ext.drewN ?_ _ | refine Ext.setCell ?_ (by first | exact Nat.le_refl _ | omega | (simp; done) | (simp; omega)) _))) hm Hx.out).mono ?_; rintro e w1 ⟨rfl, E1⟩; unfold recV; have B1 := two_blocks E1; have f1 := B1.2.1; have f2 := B1.2.2.2.1; have f0 := B1.1; have f3 : w.heap.size + 1 < w1.heap.size := (by have := B1.2.2.2.2; omega); clear B1; have X_ : Ext w w1 := Ext.trans (by repeat with_reducible (first | exact Ext.refl _ | refine Ext.alloc ?_ _ | refine Ext.drew ?_ | refine Ext.drewN ?_ _ | refine Ext.setCell ?_ (by first | exact Nat.le_refl _ | omega | (simp; done) | (simp; omega)) _)) E1; replace hE := hE.up X_; replace hf := hf.up X_; clear X_)
    go_cut [10] (fun s10 wy => ∃ g : Nat, s10 = .pointer (some ⟨g, 0, none⟩) ∧ w1.heap.size < g ∧ g < wy.heap.size ∧ Ext w1 wy ∧
      (wy.cell? ⟨w1.heap.size, 0, none⟩ = some (.int .i64 (rn : Int)) ∧ wy.cell? ⟨w1.heap.size, 1, none⟩ = some (.int .i64 (rw_ : Int)) ∧ wy.cell? ⟨w1.heap.size, 2, none⟩ = some (.int .i64 (rf : Int)) ∧ wy.cell? ⟨w1.heap.size, 3, none⟩ = some (.int .i64 (ra : Int)) ∧ wy.cell? ⟨w1.heap.size, 4, none⟩ = some (.int .i64 (rt : Int))) ∧
      (wy.cell? ⟨g, 0, none⟩ = some (.int .i64 (rn : Int)) ∧ wy.cell? ⟨g, 1, none⟩ = some (.int .i64 (rw_ : Int)) ∧ wy.cell? ⟨g, 2, none⟩ = some (.int .i64 (rf : Int)) ∧ wy.cell? ⟨g, 3, none⟩ = some (.int .i64 (ra : Int)) ∧ wy.cell? ⟨g, 4, none⟩ = some (.int .i64 (rt : Int)) ∧ wy.cell? ⟨g, 5, none⟩ = some (.int .i64 I) ∧ wy.cell? ⟨g, 6, none⟩ = some (.bool false)) ∧ wy.frozen? ⟨g, 6, none⟩ = false)
    case first =>
      have x0 : Ext w1 (w1.alloc (.cells #[.int .i64 (rn : Int), .int .i64 (rw_ : Int), .int .i64 (rf : Int), .int .i64 (ra : Int), .int .i64 (rt : Int)] 106)) := (by repeat with_reducible (first | exact Ext.refl _ | refine Ext.alloc ?_ _ | refine Ext.drew ?_ | refine Ext.drewN ?_ _ | refine Ext.setCell ?_ (by first | exact Nat.le_refl _ | omega | (simp; done) | (simp; omega)) _))
      have B0 := Ext.new_blk (Ext.refl (w1.alloc (.cells #[.int .i64 (rn : Int), .int .i64 (rw_ : Int), .int .i64 (rf : Int), .int .i64 (ra : Int), .int .i64 (rt : Int)] 106)))
      have m0 := x0.of_cell (f0 0)
      have m1 := x0.of_cell (f0 1)
      generalize w1.alloc (.cells #[.int .i64 (rn : Int), .int .i64 (rw_ : Int), .int .i64 (rf : Int), .int .i64 (ra : Int), .int .i64 (rt : Int)] 106) = wx at *
      have y0 : wx.cell? ⟨w1.heap.size, 0, none⟩ = some (.int .i64 (rn : Int)) := B0.cell 0
      have y1 : wx.cell? ⟨w1.heap.size, 1, none⟩ = some (.int .i64 (rw_ : Int)) := B0.cell 1
      have y2 : wx.cell? ⟨w1.heap.size, 2, none⟩ = some (.int .i64 (rf : Int)) := B0.cell 2
      have y3 : wx.cell? ⟨w1.heap.size, 3, none⟩ = some (.int .i64 (ra : Int)) := B0.cell 3
      have y4 : wx.cell? ⟨w1.heap.size, 4, none⟩ = some (.int .i64 (rt : Int)) := B0.cell 4
      have hlt := B0.lt
      have hlt0 : w.heap.size < wx.heap.size := by have := x0.size; omega
      clear B0 f0 f1 f2
      go_region_held3 (fun W => Ext wx W ∧ ∀ b o, b < wx.heap.size → W.cell? ⟨b, o, none⟩ = wx.cell? ⟨b, o, none⟩) ((refine Ext.keep ?_; repeat with_reducible (first | assumption | exact Ext.refl _ | refine Ext.alloc ?_ _ | refine Ext.drew ?_ | refine Ext.drewN ?_ _ | refine Ext.setCell ?_ (by first | exact Nat.le_refl _ | omega | (simp; done) | (simp; omega)) _)))
        (first | (go_split_ands; go_at_call 63; refine (vFieldE (x := (rn : Int)) (hf.up (x0.trans (by with_reducible assumption))) hn HI.out).mono ?_; rintro e w2 ⟨rfl, E2⟩; have q0 : Ext wx w2 := Ext.trans (by with_reducible assumption) E2; have q1 := q0.size; try (have B3 := Ext.new_blk_drew E2; have g1 : ∀ i, w2.cell? ⟨wx.heap.size, i, none⟩ = (#[.int .i64 0, .int .i64 0, .int .i64 0, .int .i64 0, .int .i64 0, .int .i64 0, .bool false] : Array Value)[i]? := B3.cell; have g2 : ∀ i, w2.frozen? ⟨wx.heap.size, i, none⟩ = false := B3.free; have g3 : wx.heap.size < w2.heap.size := B3.lt; clear B3)))
      all_goals
        go_wp2_with fail
        go_meet
      · refine ⟨_, rfl, by omega, by first | (simp; done) | (simp; omega) | (simp [go_sem]; omega) | (simp [World.setCell]; omega), x0.trans (by repeat with_reducible (first | exact q0 | exact Ext.refl _ | refine Ext.alloc ?_ _ | refine Ext.drew ?_ | refine Ext.drewN ?_ _ | refine Ext.setCell ?_ (by first | exact Nat.le_refl _ | omega | (simp; done) | (simp; omega)) _)), ⟨Ext.of_cell (w := wx) (by repeat with_reducible (first | exact q0 | exact Ext.refl _ | refine Ext.alloc ?_ _ | refine Ext.drew ?_ | refine Ext.drewN ?_ _ | refine Ext.setCell ?_ (by first | exact Nat.le_refl _ | omega | (simp; done) | (simp; omega)) _)) y0, Ext.of_cell (w := wx) (by repeat with_reducible (first | exact q0 | exact Ext.refl _ | refine Ext.alloc ?_ _ | refine Ext.drew ?_ | refine Ext.drewN ?_ _ | refine Ext.setCell ?_ (by first | exact Nat.le_refl _ | omega | (simp; done) | (simp; omega)) _)) y1, Ext.of_cell (w := wx) (by repeat with_reducible (first | exact q0 | exact Ext.refl _ | refine Ext.alloc ?_ _ | refine Ext.drew ?_ | refine Ext.drewN ?_ _ | refine Ext.setCell ?_ (by first | exact Nat.le_refl _ | omega | (simp; done) | (simp; omega)) _)) y2, Ext.of_cell (w := wx) (by repeat with_reducible (first | exact q0 | exact Ext.refl _ | refine Ext.alloc ?_ _ | refine Ext.drew ?_ | refine Ext.drewN ?_ _ | refine Ext.setCell ?_ (by first | exact Nat.le_refl _ | omega | (simp; done) | (simp; omega)) _)) y3, Ext.of_cell (w := wx) (by repeat with_reducible (first | exact q0 | exact Ext.refl _ | refine Ext.alloc ?_ _ | refine Ext.drew ?_ | refine Ext.drewN ?_ _ | refine Ext.setCell ?_ (by first | exact Nat.le_refl _ | omega | (simp; done) | (simp; omega)) _)) y4⟩, ?_, ?_⟩
        · exact ⟨World.cell?_alloc_new _ _ _ _, World.cell?_alloc_new _ _ _ _, World.cell?_alloc_new _ _ _ _, World.cell?_alloc_new _ _ _ _, World.cell?_alloc_new _ _ _ _, World.cell?_alloc_new _ _ _ _, World.cell?_alloc_new _ _ _ _⟩
        · exact (Ext.new_blk (Ext.refl _)).free _
      · refine ⟨_, rfl, by omega, by first | (simp; done) | (simp; omega) | (simp [go_sem]; omega) | (simp [World.setCell]; omega), x0.trans (by repeat with_reducible (first | exact q0 | exact Ext.refl _ | refine Ext.alloc ?_ _ | refine Ext.drew ?_ | refine Ext.drewN ?_ _ | refine Ext.setCell ?_ (by first | exact Nat.le_refl _ | omega | (simp; done) | (simp; omega)) _)), ⟨Ext.of_cell (w := wx) (by repeat with_reducible (first | exact q0 | exact Ext.refl _ | refine Ext.alloc ?_ _ | refine Ext.drew ?_ | refine Ext.drewN ?_ _ | refine Ext.setCell ?_ (by first | exact Nat.le_refl _ | omega | (simp; done) | (simp; omega)) _)) y0, Ext.of_cell (w := wx) (by repeat with_reducible (first | exact q0 | exact Ext.refl _ | refine Ext.alloc ?_ _ | refine Ext.drew ?_ | refine Ext.drewN ?_ _ | refine Ext.setCell ?_ (by first | exact Nat.le_refl _ | omega | (simp; done) | (simp; omega)) _)) y1, Ext.of_cell (w := wx) (by repeat with_reducible (first | exact q0 | exact Ext.refl _ | refine Ext.alloc ?_ _ | refine Ext.drew ?_ | refine Ext.drewN ?_ _ | refine Ext.setCell ?_ (by first | exact Nat.le_refl _ | omega | (simp; done) | (simp; omega)) _)) y2, Ext.of_cell (w := wx) (by repeat with_reducible (first | exact q0 | exact Ext.refl _ | refine Ext.alloc ?_ _ | refine Ext.drew ?_ | refine Ext.drewN ?_ _ | refine Ext.setCell ?_ (by first | exact Nat.le_refl _ | omega | (simp; done) | (simp; omega)) _)) y3, Ext.of_cell (w := wx) (by repeat with_reducible (first | exact q0 | exact Ext.refl _ | refine Ext.alloc ?_ _ | refine Ext.drew ?_ | refine Ext.drewN ?_ _ | refine Ext.setCell ?_ (by first | exact Nat.le_refl _ | omega | (simp; done) | (simp; omega)) _)) y4⟩, ?_, ?_⟩
        · refine ⟨?_, ?_, ?_, ?_, ?_, ?_, ?_⟩ <;> first | (simp [go_sem, g1]; done)
        · simp [g2]
    case rest =>
      obtain ⟨g, rfl, h1, h2, X1, ⟨r0, r1, r2, r3, r4⟩, ⟨c0, c1, c2, c3, c4, c5, c6⟩, fz⟩ := hcut
      have e1 : ∀ i, wc.cell? ⟨w.heap.size + 1, i, none⟩ = (#[.int .i64 0, .int .i64 0, .int .i64 0, .int .i64 0, .int .i64 0, .int .i64 0, .bool false] : Array Value)[i]? := fun i => (X1.cell (p := ⟨w.heap.size + 1, i, none⟩) f3).trans (f1 i)
      have e2 : ∀ i, wc.frozen? ⟨w.heap.size + 1, i, none⟩ = false := fun i => (X1.frozen (p := ⟨w.heap.size + 1, i, none⟩) f3).trans (f2 i)
      have e3 : ∀ i, wc.cell? ⟨w.heap.size, i, none⟩ = (#[.string s, .slice A n c] : Array Value)[i]? := fun i => (X1.cell (p := ⟨w.heap.size, i, none⟩) (by show w.heap.size < _; omega)).trans (f0 i)
      have hfc := hf.up X1
      have hEc : Ext w wc := hE.trans X1
      have hg0 : w.heap.size + 1 < g := by omega
      have hg1 : w.heap.size + 1 < wc.heap.size := by omega
      clear f0 f1 f2 hb
      rcases idxB_cases (numP (rn : Int)) l with ⟨i1, _⟩ | ⟨k, f, i1, i2, i3, _⟩
      · have hIv := HI.out
        rw [i1] at hIv
        have hsv := Hs.out
        rw [seenV_none i1] at hsv
        obtain ⟨rfl, hC⟩ := Prod.mk.inj hsv
        obtain rfl : C = 0 := hC.symm
        subst hIv
        clear i1 hsv HI Hs
        go_wp2
        exact bodyPost_ret (v := .tuple #[viewV ⟨⟨rn, rw_, rf, ra, rt⟩, -1, false⟩, .int .u8 0]) (by simp [results, Try.results52, go_sem, viewV, e1]) rfl ⟨rfl, (by repeat with_reducible (first | exact hEc | exact Ext.refl _ | refine Ext.alloc ?_ _ | refine Ext.drew ?_ | refine Ext.drewN ?_ _ | refine Ext.setCell ?_ (by first | exact Nat.le_refl _ | omega | (simp; done) | (simp; omega)) _))⟩
      · have hlt := (List.getElem?_eq_some_iff.1 i2).1
        rw [hfc.length] at hlt
        have hkn : (k : Int) < n := by omega
        obtain ⟨b, off, f', rfl, i2', hok, hb1, d0, d1, d2, d3, d4, d5⟩ := hfc.field hlt
        rw [i2] at i2'
        cases i2'
        have hIv := HI.out
        rw [i1] at hIv
        have hsv := Hs.out
        rw [seenV_some i1 i2] at hsv
        subst hIv
        have qk : ((k : Int) == -1) = false := by rw [beq_eq_false_iff_ne]; omega
        have hbg : b < wc.heap.size := hb1
        clear i1 i2 i3 HI Hs hfc hf hok
        obtain ⟨fn, fnum, fk, frep, fp, fo⟩ := f
        simp only at hsv d0 d1 d2 d3 d4 d5
        have hkind : numberB fk = true → kindB fk = true := fun h => by have := number_kind h; unfold kindB; exact decide_eq_true (by omega)
        -- what Number and Wire tell
        obtain ⟨nb, hnb⟩ : ∃ nb, nb = numberB fk := ⟨_, rfl⟩
        have kn := fun W : World => kNumber fk W
        rw [← hnb] at kn
        obtain ⟨wv, cv, kw, hwc⟩ : ∃ wv cv : Int, (∀ W : World, Calls Try.prog 24 #[.int .i64 fk] W fun e w' => e = .returned (.tuple #[.int .i64 wv, .int .u8 cv]) ∧ Ext W w') ∧
            ((kindB fk = true ∧ wv = wireI fk ∧ cv = 0) ∨ (kindB fk = false ∧ cv = 2)) := by
          refine ⟨_, _, fun W => kWire fk W, ?_⟩
          rcases hkb : kindB fk with _ | _
          · exact .inr ⟨rfl, by simp⟩
          · exact .inl ⟨rfl, by unfold wireOr; rw [hkb]; simp, by simp⟩
        have Kn := Lib.hid kn
        have Kw := Lib.hid kw
        clear kn kw
        have hgw : w1.heap.size ≠ g := by omega
        have hgr : w.heap.size + 1 ≠ g := by omega
        by_cases hR : (frep = true ∧ nb = true ∧ rw_ = 2)
        · obtain ⟨rfl, rfl, rfl⟩ := hR
          rw [← hnb] at hsv
          simp at hsv
          obtain ⟨rfl, rfl⟩ := hsv
          clear hnb hkind hwc
          go_wp2_with (first
            | (go_at_call 13; refine (Kn.out _).mono ?_; rintro e w5 ⟨rfl, E5⟩; have D5 := E5.new_blk; have d2' : w5.cell? ⟨wc.heap.size, 2, none⟩ = some (.int .i64 fk) := D5.cell 2; have l5 := D5.lt; clear D5; have X_ : Ext wc w5 := Ext.trans (by repeat with_reducible (first | exact Ext.refl _ | refine Ext.alloc ?_ _ | refine Ext.drew ?_ | refine Ext.drewN ?_ _ | refine Ext.setCell ?_ (by first | exact Nat.le_refl _ | omega | (simp; done) | (simp; omega)) _)) E5; replace hEc := hEc.up X_; have X5 := X_; clear X_; clear E5;  replace r1 := X5.of_cell r1;  replace c0 := X5.of_cell c0;  replace c1 := X5.of_cell c1;  replace c2 := X5.of_cell c2;  replace c3 := X5.of_cell c3;  replace c4 := X5.of_cell c4;  replace c5 := X5.of_cell c5;  replace c6 := X5.of_cell c6;  replace fz : w5.frozen? ⟨g, 6, none⟩ = false := (X5.frozen (p := ⟨g, 6, none⟩) h2).trans fz;  replace e1 : ∀ i, w5.cell? ⟨w.heap.size + 1, i, none⟩ = _ := fun i => (X5.cell (p := ⟨w.heap.size + 1, i, none⟩) hg1).trans (e1 i);  replace e2 : ∀ i, w5.frozen? ⟨w.heap.size + 1, i, none⟩ = false := fun i => (X5.frozen (p := ⟨w.heap.size + 1, i, none⟩) hg1).trans (e2 i))
            | (go_at_call 24; refine (Kw.out _).mono ?_; rintro e w6 ⟨rfl, E6⟩; have k0 : w6.cell? ⟨g, 0, none⟩ = some (.int .i64 (rn : Int)) := E6.of_cell (by simp [go_sem, c0]); have k1 : w6.cell? ⟨g, 1, none⟩ = some (.int .i64 (2 : Int)) := E6.of_cell (by simp [go_sem, c1]); have k2 : w6.cell? ⟨g, 2, none⟩ = some (.int .i64 (rf : Int)) := E6.of_cell (by simp [go_sem, c2]); have k3 : w6.cell? ⟨g, 3, none⟩ = some (.int .i64 (ra : Int)) := E6.of_cell (by simp [go_sem, c3]); have k4 : w6.cell? ⟨g, 4, none⟩ = some (.int .i64 (rt : Int)) := E6.of_cell (by simp [go_sem, c4]); have k5 : w6.cell? ⟨g, 5, none⟩ = some (.int .i64 (k : Int)) := E6.of_cell (by simp [go_sem, c5]); have k6 : w6.cell? ⟨g, 6, none⟩ = some (.bool true) := E6.of_cell (by simp [go_sem, c6]); have r6 : w6.cell? ⟨w1.heap.size, 1, none⟩ = some (.int .i64 (2 : Int)) := E6.of_cell (by simp [go_sem, r1]); have hE6 : Ext w w6 := Ext.trans (by repeat with_reducible (first | exact hEc | exact Ext.refl _ | refine Ext.alloc ?_ _ | refine Ext.drew ?_ | refine Ext.drewN ?_ _ | refine Ext.setCell ?_ (by first | exact Nat.le_refl _ | omega | (simp; done) | (simp; omega)) _)) E6; have e6 : ∀ i, w6.cell? ⟨w.heap.size + 1, i, none⟩ = _ := fun i => (E6.cell (p := ⟨w.heap.size + 1, i, none⟩) (by simp [go_sem]; omega)).trans ((show _ = _ by simp [go_sem]).trans (e1 i)); have e7 : ∀ i, w6.frozen? ⟨w.heap.size + 1, i, none⟩ = false := fun i => (E6.frozen (p := ⟨w.heap.size + 1, i, none⟩) (by simp [go_sem]; omega)).trans ((show _ = _ by simp [go_sem]).trans (e2 i))))
          exact bodyPost_ret (v := .tuple #[viewV ⟨⟨rn, 2, rf, ra, rt⟩, k, true⟩, .int .u8 0]) (by simp [results, Try.results52, go_sem, viewV, e6]) rfl ⟨rfl, (by repeat with_reducible (first | exact hE6 | exact Ext.refl _ | refine Ext.alloc ?_ _ | refine Ext.drew ?_ | refine Ext.drewN ?_ _ | refine Ext.setCell ?_ (by first | exact Nat.le_refl _ | omega | (simp; done) | (simp; omega)) _))⟩
        · have hrun : (frep && numberB fk && rw_ == 2) = false := by
            rw [← hnb]
            rcases frep with _ | _
            · rfl
            · rcases nb with _ | _
              · rfl
              · have : rw_ ≠ 2 := fun e => hR ⟨rfl, rfl, e⟩
                simpa using this
          rw [hrun, if_neg (by simp)] at hsv
          have hq2 : frep = true → nb = true → ((rw_ : Int) == 2) = false := fun a b => by
            have : rw_ ≠ 2 := fun e => hR ⟨a, b, e⟩
            simp; omega
          have hm : (cv = 0 ∧ wv = (rw_ : Int) ∧ v = ⟨⟨rn, rw_, rf, ra, rt⟩, k, false⟩ ∧ C = 0) ∨ (cv = 0 ∧ (wv == (rw_ : Int)) = false ∧ v = ViewD.zero ∧ C = 6) ∨ (cv = 2 ∧ v = ViewD.zero ∧ C = 6) := by
            rcases hwc with ⟨a1, a2, a3⟩ | ⟨a1, a2⟩
            · rw [a1, ← a2] at hsv
              by_cases e : wv = (rw_ : Int)
              · rw [if_pos ⟨rfl, e⟩] at hsv
                exact .inl ⟨a3, e, (Prod.mk.inj hsv).1.symm, (Prod.mk.inj hsv).2.symm⟩
              · rw [if_neg (fun h => e h.2)] at hsv
                exact .inr (.inl ⟨a3, by rw [beq_eq_false_iff_ne]; exact e, (Prod.mk.inj hsv).1.symm, (Prod.mk.inj hsv).2.symm⟩)
            · rw [a1, if_neg (by simp)] at hsv
              exact .inr (.inr ⟨a2, (Prod.mk.inj hsv).1.symm, (Prod.mk.inj hsv).2.symm⟩)
          clear hsv hrun hR hnb hkind hwc
          rcases frep with _ | _
          · clear hq2
            rcases hm with ⟨rfl, rfl, rfl, rfl⟩ | ⟨rfl, qw, rfl, rfl⟩ | ⟨rfl, rfl, rfl⟩
            · go_wp2_with (first
            | (go_at_call 24; refine (Kw.out _).mono ?_; rintro e w6 ⟨rfl, E6⟩; replace E6 := Ext.trans (Ext.alloc (Ext.refl _) _) E6; have k0 : w6.cell? ⟨g, 0, none⟩ = some (.int .i64 (rn : Int)) := E6.of_cell (by simp [go_sem, c0]); have k1 : w6.cell? ⟨g, 1, none⟩ = some (.int .i64 (rw_ : Int)) := E6.of_cell (by simp [go_sem, c1]); have k2 : w6.cell? ⟨g, 2, none⟩ = some (.int .i64 (rf : Int)) := E6.of_cell (by simp [go_sem, c2]); have k3 : w6.cell? ⟨g, 3, none⟩ = some (.int .i64 (ra : Int)) := E6.of_cell (by simp [go_sem, c3]); have k4 : w6.cell? ⟨g, 4, none⟩ = some (.int .i64 (rt : Int)) := E6.of_cell (by simp [go_sem, c4]); have k5 : w6.cell? ⟨g, 5, none⟩ = some (.int .i64 (k : Int)) := E6.of_cell (by simp [go_sem, c5]); have k6 : w6.cell? ⟨g, 6, none⟩ = some (.bool false) := E6.of_cell (by simp [go_sem, c6]); have r6 : w6.cell? ⟨w1.heap.size, 1, none⟩ = some (.int .i64 (rw_ : Int)) := E6.of_cell (by simp [go_sem, r1]); have hE6 : Ext w w6 := Ext.trans (by repeat with_reducible (first | exact hEc | exact Ext.refl _ | refine Ext.alloc ?_ _ | refine Ext.drew ?_ | refine Ext.drewN ?_ _ | refine Ext.setCell ?_ (by first | exact Nat.le_refl _ | omega | (simp; done) | (simp; omega)) _)) E6; have e6 : ∀ i, w6.cell? ⟨w.heap.size + 1, i, none⟩ = _ := fun i => (E6.cell (p := ⟨w.heap.size + 1, i, none⟩) (by simp [go_sem]; omega)).trans ((show _ = _ by simp [go_sem]).trans (e1 i)); have e7 : ∀ i, w6.frozen? ⟨w.heap.size + 1, i, none⟩ = false := fun i => (E6.frozen (p := ⟨w.heap.size + 1, i, none⟩) (by simp [go_sem]; omega)).trans ((show _ = _ by simp [go_sem]).trans (e2 i))))
              exact bodyPost_ret (v := .tuple #[viewV ⟨⟨rn, rw_, rf, ra, rt⟩, k, false⟩, .int .u8 0]) (by simp [results, Try.results52, go_sem, viewV, e6]) rfl ⟨rfl, (by repeat with_reducible (first | exact hE6 | exact Ext.refl _ | refine Ext.alloc ?_ _ | refine Ext.drew ?_ | refine Ext.drewN ?_ _ | refine Ext.setCell ?_ (by first | exact Nat.le_refl _ | omega | (simp; done) | (simp; omega)) _))⟩
            · go_wp2_with (first
            | (go_at_call 24; refine (Kw.out _).mono ?_; rintro e w6 ⟨rfl, E6⟩; replace E6 := Ext.trans (Ext.alloc (Ext.refl _) _) E6; have k0 : w6.cell? ⟨g, 0, none⟩ = some (.int .i64 (rn : Int)) := E6.of_cell (by simp [go_sem, c0]); have k1 : w6.cell? ⟨g, 1, none⟩ = some (.int .i64 (rw_ : Int)) := E6.of_cell (by simp [go_sem, c1]); have k2 : w6.cell? ⟨g, 2, none⟩ = some (.int .i64 (rf : Int)) := E6.of_cell (by simp [go_sem, c2]); have k3 : w6.cell? ⟨g, 3, none⟩ = some (.int .i64 (ra : Int)) := E6.of_cell (by simp [go_sem, c3]); have k4 : w6.cell? ⟨g, 4, none⟩ = some (.int .i64 (rt : Int)) := E6.of_cell (by simp [go_sem, c4]); have k5 : w6.cell? ⟨g, 5, none⟩ = some (.int .i64 (k : Int)) := E6.of_cell (by simp [go_sem, c5]); have k6 : w6.cell? ⟨g, 6, none⟩ = some (.bool false) := E6.of_cell (by simp [go_sem, c6]); have r6 : w6.cell? ⟨w1.heap.size, 1, none⟩ = some (.int .i64 (rw_ : Int)) := E6.of_cell (by simp [go_sem, r1]); have hE6 : Ext w w6 := Ext.trans (by repeat with_reducible (first | exact hEc | exact Ext.refl _ | refine Ext.alloc ?_ _ | refine Ext.drew ?_ | refine Ext.drewN ?_ _ | refine Ext.setCell ?_ (by first | exact Nat.le_refl _ | omega | (simp; done) | (simp; omega)) _)) E6; have e6 : ∀ i, w6.cell? ⟨w.heap.size + 1, i, none⟩ = _ := fun i => (E6.cell (p := ⟨w.heap.size + 1, i, none⟩) (by simp [go_sem]; omega)).trans ((show _ = _ by simp [go_sem]).trans (e1 i)); have e7 : ∀ i, w6.frozen? ⟨w.heap.size + 1, i, none⟩ = false := fun i => (E6.frozen (p := ⟨w.heap.size + 1, i, none⟩) (by simp [go_sem]; omega)).trans ((show _ = _ by simp [go_sem]).trans (e2 i))))
              exact bodyPost_ret (v := .tuple #[viewV ViewD.zero, .int .u8 6]) (by simp [results, Try.results52, go_sem, viewV, ViewD.zero, Rec.zero, e6]) rfl ⟨rfl, (by repeat with_reducible (first | exact hE6 | exact Ext.refl _ | refine Ext.alloc ?_ _ | refine Ext.drew ?_ | refine Ext.drewN ?_ _ | refine Ext.setCell ?_ (by first | exact Nat.le_refl _ | omega | (simp; done) | (simp; omega)) _))⟩
            · go_wp2_with (first
            | (go_at_call 24; refine (Kw.out _).mono ?_; rintro e w6 ⟨rfl, E6⟩; replace E6 := Ext.trans (Ext.alloc (Ext.refl _) _) E6; have k0 : w6.cell? ⟨g, 0, none⟩ = some (.int .i64 (rn : Int)) := E6.of_cell (by simp [go_sem, c0]); have k1 : w6.cell? ⟨g, 1, none⟩ = some (.int .i64 (rw_ : Int)) := E6.of_cell (by simp [go_sem, c1]); have k2 : w6.cell? ⟨g, 2, none⟩ = some (.int .i64 (rf : Int)) := E6.of_cell (by simp [go_sem, c2]); have k3 : w6.cell? ⟨g, 3, none⟩ = some (.int .i64 (ra : Int)) := E6.of_cell (by simp [go_sem, c3]); have k4 : w6.cell? ⟨g, 4, none⟩ = some (.int .i64 (rt : Int)) := E6.of_cell (by simp [go_sem, c4]); have k5 : w6.cell? ⟨g, 5, none⟩ = some (.int .i64 (k : Int)) := E6.of_cell (by simp [go_sem, c5]); have k6 : w6.cell? ⟨g, 6, none⟩ = some (.bool false) := E6.of_cell (by simp [go_sem, c6]); have r6 : w6.cell? ⟨w1.heap.size, 1, none⟩ = some (.int .i64 (rw_ : Int)) := E6.of_cell (by simp [go_sem, r1]); have hE6 : Ext w w6 := Ext.trans (by repeat with_reducible (first | exact hEc | exact Ext.refl _ | refine Ext.alloc ?_ _ | refine Ext.drew ?_ | refine Ext.drewN ?_ _ | refine Ext.setCell ?_ (by first | exact Nat.le_refl _ | omega | (simp; done) | (simp; omega)) _)) E6; have e6 : ∀ i, w6.cell? ⟨w.heap.size + 1, i, none⟩ = _ := fun i => (E6.cell (p := ⟨w.heap.size + 1, i, none⟩) (by simp [go_sem]; omega)).trans ((show _ = _ by simp [go_sem]).trans (e1 i)); have e7 : ∀ i, w6.frozen? ⟨w.heap.size + 1, i, none⟩ = false := fun i => (E6.frozen (p := ⟨w.heap.size + 1, i, none⟩) (by simp [go_sem]; omega)).trans ((show _ = _ by simp [go_sem]).trans (e2 i))))
              exact bodyPost_ret (v := .tuple #[viewV ViewD.zero, .int .u8 6]) (by simp [results, Try.results52, go_sem, viewV, ViewD.zero, Rec.zero, e6]) rfl ⟨rfl, (by repeat with_reducible (first | exact hE6 | exact Ext.refl _ | refine Ext.alloc ?_ _ | refine Ext.drew ?_ | refine Ext.drewN ?_ _ | refine Ext.setCell ?_ (by first | exact Nat.le_refl _ | omega | (simp; done) | (simp; omega)) _))⟩
          · rcases nb with _ | _
            · clear hq2
              rcases hm with ⟨rfl, rfl, rfl, rfl⟩ | ⟨rfl, qw, rfl, rfl⟩ | ⟨rfl, rfl, rfl⟩
              · go_wp2_with (first
            | (go_at_call 13; refine (Kn.out _).mono ?_; rintro e w5 ⟨rfl, E5⟩; have D5 := E5.new_blk; have d2' : w5.cell? ⟨wc.heap.size, 2, none⟩ = some (.int .i64 fk) := D5.cell 2; have l5 := D5.lt; clear D5; have X_ : Ext wc w5 := Ext.trans (by repeat with_reducible (first | exact Ext.refl _ | refine Ext.alloc ?_ _ | refine Ext.drew ?_ | refine Ext.drewN ?_ _ | refine Ext.setCell ?_ (by first | exact Nat.le_refl _ | omega | (simp; done) | (simp; omega)) _)) E5; replace hEc := hEc.up X_; have X5 := X_; clear X_; clear E5;  replace r1 := X5.of_cell r1;  replace c0 := X5.of_cell c0;  replace c1 := X5.of_cell c1;  replace c2 := X5.of_cell c2;  replace c3 := X5.of_cell c3;  replace c4 := X5.of_cell c4;  replace c5 := X5.of_cell c5;  replace c6 := X5.of_cell c6;  replace fz : w5.frozen? ⟨g, 6, none⟩ = false := (X5.frozen (p := ⟨g, 6, none⟩) h2).trans fz;  replace e1 : ∀ i, w5.cell? ⟨w.heap.size + 1, i, none⟩ = _ := fun i => (X5.cell (p := ⟨w.heap.size + 1, i, none⟩) hg1).trans (e1 i);  replace e2 : ∀ i, w5.frozen? ⟨w.heap.size + 1, i, none⟩ = false := fun i => (X5.frozen (p := ⟨w.heap.size + 1, i, none⟩) hg1).trans (e2 i))
            | (go_at_call 24; refine (Kw.out _).mono ?_; rintro e w6 ⟨rfl, E6⟩; have k0 : w6.cell? ⟨g, 0, none⟩ = some (.int .i64 (rn : Int)) := E6.of_cell (by simp [go_sem, c0]); have k1 : w6.cell? ⟨g, 1, none⟩ = some (.int .i64 (rw_ : Int)) := E6.of_cell (by simp [go_sem, c1]); have k2 : w6.cell? ⟨g, 2, none⟩ = some (.int .i64 (rf : Int)) := E6.of_cell (by simp [go_sem, c2]); have k3 : w6.cell? ⟨g, 3, none⟩ = some (.int .i64 (ra : Int)) := E6.of_cell (by simp [go_sem, c3]); have k4 : w6.cell? ⟨g, 4, none⟩ = some (.int .i64 (rt : Int)) := E6.of_cell (by simp [go_sem, c4]); have k5 : w6.cell? ⟨g, 5, none⟩ = some (.int .i64 (k : Int)) := E6.of_cell (by simp [go_sem, c5]); have k6 : w6.cell? ⟨g, 6, none⟩ = some (.bool false) := E6.of_cell (by simp [go_sem, c6]); have r6 : w6.cell? ⟨w1.heap.size, 1, none⟩ = some (.int .i64 (rw_ : Int)) := E6.of_cell (by simp [go_sem, r1]); have hE6 : Ext w w6 := Ext.trans (by repeat with_reducible (first | exact hEc | exact Ext.refl _ | refine Ext.alloc ?_ _ | refine Ext.drew ?_ | refine Ext.drewN ?_ _ | refine Ext.setCell ?_ (by first | exact Nat.le_refl _ | omega | (simp; done) | (simp; omega)) _)) E6; have e6 : ∀ i, w6.cell? ⟨w.heap.size + 1, i, none⟩ = _ := fun i => (E6.cell (p := ⟨w.heap.size + 1, i, none⟩) (by simp [go_sem]; omega)).trans ((show _ = _ by simp [go_sem]).trans (e1 i)); have e7 : ∀ i, w6.frozen? ⟨w.heap.size + 1, i, none⟩ = false := fun i => (E6.frozen (p := ⟨w.heap.size + 1, i, none⟩) (by simp [go_sem]; omega)).trans ((show _ = _ by simp [go_sem]).trans (e2 i))))
                exact bodyPost_ret (v := .tuple #[viewV ⟨⟨rn, rw_, rf, ra, rt⟩, k, false⟩, .int .u8 0]) (by simp [results, Try.results52, go_sem, viewV, e6]) rfl ⟨rfl, (by repeat with_reducible (first | exact hE6 | exact Ext.refl _ | refine Ext.alloc ?_ _ | refine Ext.drew ?_ | refine Ext.drewN ?_ _ | refine Ext.setCell ?_ (by first | exact Nat.le_refl _ | omega | (simp; done) | (simp; omega)) _))⟩
              · go_wp2_with (first
            | (go_at_call 13; refine (Kn.out _).mono ?_; rintro e w5 ⟨rfl, E5⟩; have D5 := E5.new_blk; have d2' : w5.cell? ⟨wc.heap.size, 2, none⟩ = some (.int .i64 fk) := D5.cell 2; have l5 := D5.lt; clear D5; have X_ : Ext wc w5 := Ext.trans (by repeat with_reducible (first | exact Ext.refl _ | refine Ext.alloc ?_ _ | refine Ext.drew ?_ | refine Ext.drewN ?_ _ | refine Ext.setCell ?_ (by first | exact Nat.le_refl _ | omega | (simp; done) | (simp; omega)) _)) E5; replace hEc := hEc.up X_; have X5 := X_; clear X_; clear E5;  replace r1 := X5.of_cell r1;  replace c0 := X5.of_cell c0;  replace c1 := X5.of_cell c1;  replace c2 := X5.of_cell c2;  replace c3 := X5.of_cell c3;  replace c4 := X5.of_cell c4;  replace c5 := X5.of_cell c5;  replace c6 := X5.of_cell c6;  replace fz : w5.frozen? ⟨g, 6, none⟩ = false := (X5.frozen (p := ⟨g, 6, none⟩) h2).trans fz;  replace e1 : ∀ i, w5.cell? ⟨w.heap.size + 1, i, none⟩ = _ := fun i => (X5.cell (p := ⟨w.heap.size + 1, i, none⟩) hg1).trans (e1 i);  replace e2 : ∀ i, w5.frozen? ⟨w.heap.size + 1, i, none⟩ = false := fun i => (X5.frozen (p := ⟨w.heap.size + 1, i, none⟩) hg1).trans (e2 i))
            | (go_at_call 24; refine (Kw.out _).mono ?_; rintro e w6 ⟨rfl, E6⟩; have k0 : w6.cell? ⟨g, 0, none⟩ = some (.int .i64 (rn : Int)) := E6.of_cell (by simp [go_sem, c0]); have k1 : w6.cell? ⟨g, 1, none⟩ = some (.int .i64 (rw_ : Int)) := E6.of_cell (by simp [go_sem, c1]); have k2 : w6.cell? ⟨g, 2, none⟩ = some (.int .i64 (rf : Int)) := E6.of_cell (by simp [go_sem, c2]); have k3 : w6.cell? ⟨g, 3, none⟩ = some (.int .i64 (ra : Int)) := E6.of_cell (by simp [go_sem, c3]); have k4 : w6.cell? ⟨g, 4, none⟩ = some (.int .i64 (rt : Int)) := E6.of_cell (by simp [go_sem, c4]); have k5 : w6.cell? ⟨g, 5, none⟩ = some (.int .i64 (k : Int)) := E6.of_cell (by simp [go_sem, c5]); have k6 : w6.cell? ⟨g, 6, none⟩ = some (.bool false) := E6.of_cell (by simp [go_sem, c6]); have r6 : w6.cell? ⟨w1.heap.size, 1, none⟩ = some (.int .i64 (rw_ : Int)) := E6.of_cell (by simp [go_sem, r1]); have hE6 : Ext w w6 := Ext.trans (by repeat with_reducible (first | exact hEc | exact Ext.refl _ | refine Ext.alloc ?_ _ | refine Ext.drew ?_ | refine Ext.drewN ?_ _ | refine Ext.setCell ?_ (by first | exact Nat.le_refl _ | omega | (simp; done) | (simp; omega)) _)) E6; have e6 : ∀ i, w6.cell? ⟨w.heap.size + 1, i, none⟩ = _ := fun i => (E6.cell (p := ⟨w.heap.size + 1, i, none⟩) (by simp [go_sem]; omega)).trans ((show _ = _ by simp [go_sem]).trans (e1 i)); have e7 : ∀ i, w6.frozen? ⟨w.heap.size + 1, i, none⟩ = false := fun i => (E6.frozen (p := ⟨w.heap.size + 1, i, none⟩) (by simp [go_sem]; omega)).trans ((show _ = _ by simp [go_sem]).trans (e2 i))))
                exact bodyPost_ret (v := .tuple #[viewV ViewD.zero, .int .u8 6]) (by simp [results, Try.results52, go_sem, viewV, ViewD.zero, Rec.zero, e6]) rfl ⟨rfl, (by repeat with_reducible (first | exact hE6 | exact Ext.refl _ | refine Ext.alloc ?_ _ | refine Ext.drew ?_ | refine Ext.drewN ?_ _ | refine Ext.setCell ?_ (by first | exact Nat.le_refl _ | omega | (simp; done) | (simp; omega)) _))⟩
              · go_wp2_with (first
            | (go_at_call 13; refine (Kn.out _).mono ?_; rintro e w5 ⟨rfl, E5⟩; have D5 := E5.new_blk; have d2' : w5.cell? ⟨wc.heap.size, 2, none⟩ = some (.int .i64 fk) := D5.cell 2; have l5 := D5.lt; clear D5; have X_ : Ext wc w5 := Ext.trans (by repeat with_reducible (first | exact Ext.refl _ | refine Ext.alloc ?_ _ | refine Ext.drew ?_ | refine Ext.drewN ?_ _ | refine Ext.setCell ?_ (by first | exact Nat.le_refl _ | omega | (simp; done) | (simp; omega)) _)) E5; replace hEc := hEc.up X_; have X5 := X_; clear X_; clear E5;  replace r1 := X5.of_cell r1;  replace c0 := X5.of_cell c0;  replace c1 := X5.of_cell c1;  replace c2 := X5.of_cell c2;  replace c3 := X5.of_cell c3;  replace c4 := X5.of_cell c4;  replace c5 := X5.of_cell c5;  replace c6 := X5.of_cell c6;  replace fz : w5.frozen? ⟨g, 6, none⟩ = false := (X5.frozen (p := ⟨g, 6, none⟩) h2).trans fz;  replace e1 : ∀ i, w5.cell? ⟨w.heap.size + 1, i, none⟩ = _ := fun i => (X5.cell (p := ⟨w.heap.size + 1, i, none⟩) hg1).trans (e1 i);  replace e2 : ∀ i, w5.frozen? ⟨w.heap.size + 1, i, none⟩ = false := fun i => (X5.frozen (p := ⟨w.heap.size + 1, i, none⟩) hg1).trans (e2 i))
            | (go_at_call 24; refine (Kw.out _).mono ?_; rintro e w6 ⟨rfl, E6⟩; have k0 : w6.cell? ⟨g, 0, none⟩ = some (.int .i64 (rn : Int)) := E6.of_cell (by simp [go_sem, c0]); have k1 : w6.cell? ⟨g, 1, none⟩ = some (.int .i64 (rw_ : Int)) := E6.of_cell (by simp [go_sem, c1]); have k2 : w6.cell? ⟨g, 2, none⟩ = some (.int .i64 (rf : Int)) := E6.of_cell (by simp [go_sem, c2]); have k3 : w6.cell? ⟨g, 3, none⟩ = some (.int .i64 (ra : Int)) := E6.of_cell (by simp [go_sem, c3]); have k4 : w6.cell? ⟨g, 4, none⟩ = some (.int .i64 (rt : Int)) := E6.of_cell (by simp [go_sem, c4]); have k5 : w6.cell? ⟨g, 5, none⟩ = some (.int .i64 (k : Int)) := E6.of_cell (by simp [go_sem, c5]); have k6 : w6.cell? ⟨g, 6, none⟩ = some (.bool false) := E6.of_cell (by simp [go_sem, c6]); have r6 : w6.cell? ⟨w1.heap.size, 1, none⟩ = some (.int .i64 (rw_ : Int)) := E6.of_cell (by simp [go_sem, r1]); have hE6 : Ext w w6 := Ext.trans (by repeat with_reducible (first | exact hEc | exact Ext.refl _ | refine Ext.alloc ?_ _ | refine Ext.drew ?_ | refine Ext.drewN ?_ _ | refine Ext.setCell ?_ (by first | exact Nat.le_refl _ | omega | (simp; done) | (simp; omega)) _)) E6; have e6 : ∀ i, w6.cell? ⟨w.heap.size + 1, i, none⟩ = _ := fun i => (E6.cell (p := ⟨w.heap.size + 1, i, none⟩) (by simp [go_sem]; omega)).trans ((show _ = _ by simp [go_sem]).trans (e1 i)); have e7 : ∀ i, w6.frozen? ⟨w.heap.size + 1, i, none⟩ = false := fun i => (E6.frozen (p := ⟨w.heap.size + 1, i, none⟩) (by simp [go_sem]; omega)).trans ((show _ = _ by simp [go_sem]).trans (e2 i))))
                exact bodyPost_ret (v := .tuple #[viewV ViewD.zero, .int .u8 6]) (by simp [results, Try.results52, go_sem, viewV, ViewD.zero, Rec.zero, e6]) rfl ⟨rfl, (by repeat with_reducible (first | exact hE6 | exact Ext.refl _ | refine Ext.alloc ?_ _ | refine Ext.drew ?_ | refine Ext.drewN ?_ _ | refine Ext.setCell ?_ (by first | exact Nat.le_refl _ | omega | (simp; done) | (simp; omega)) _))⟩
            · have q2 := hq2 rfl rfl
              clear hq2
              rcases hm with ⟨rfl, rfl, rfl, rfl⟩ | ⟨rfl, qw, rfl, rfl⟩ | ⟨rfl, rfl, rfl⟩
              · go_wp2_with (first
            | (go_at_call 13; refine (Kn.out _).mono ?_; rintro e w5 ⟨rfl, E5⟩; have D5 := E5.new_blk; have d2' : w5.cell? ⟨wc.heap.size, 2, none⟩ = some (.int .i64 fk) := D5.cell 2; have l5 := D5.lt; clear D5; have X_ : Ext wc w5 := Ext.trans (by repeat with_reducible (first | exact Ext.refl _ | refine Ext.alloc ?_ _ | refine Ext.drew ?_ | refine Ext.drewN ?_ _ | refine Ext.setCell ?_ (by first | exact Nat.le_refl _ | omega | (simp; done) | (simp; omega)) _)) E5; replace hEc := hEc.up X_; have X5 := X_; clear X_; clear E5;  replace r1 := X5.of_cell r1;  replace c0 := X5.of_cell c0;  replace c1 := X5.of_cell c1;  replace c2 := X5.of_cell c2;  replace c3 := X5.of_cell c3;  replace c4 := X5.of_cell c4;  replace c5 := X5.of_cell c5;  replace c6 := X5.of_cell c6;  replace fz : w5.frozen? ⟨g, 6, none⟩ = false := (X5.frozen (p := ⟨g, 6, none⟩) h2).trans fz;  replace e1 : ∀ i, w5.cell? ⟨w.heap.size + 1, i, none⟩ = _ := fun i => (X5.cell (p := ⟨w.heap.size + 1, i, none⟩) hg1).trans (e1 i);  replace e2 : ∀ i, w5.frozen? ⟨w.heap.size + 1, i, none⟩ = false := fun i => (X5.frozen (p := ⟨w.heap.size + 1, i, none⟩) hg1).trans (e2 i))
            | (go_at_call 24; refine (Kw.out _).mono ?_; rintro e w6 ⟨rfl, E6⟩; have k0 : w6.cell? ⟨g, 0, none⟩ = some (.int .i64 (rn : Int)) := E6.of_cell (by simp [go_sem, c0]); have k1 : w6.cell? ⟨g, 1, none⟩ = some (.int .i64 (rw_ : Int)) := E6.of_cell (by simp [go_sem, c1]); have k2 : w6.cell? ⟨g, 2, none⟩ = some (.int .i64 (rf : Int)) := E6.of_cell (by simp [go_sem, c2]); have k3 : w6.cell? ⟨g, 3, none⟩ = some (.int .i64 (ra : Int)) := E6.of_cell (by simp [go_sem, c3]); have k4 : w6.cell? ⟨g, 4, none⟩ = some (.int .i64 (rt : Int)) := E6.of_cell (by simp [go_sem, c4]); have k5 : w6.cell? ⟨g, 5, none⟩ = some (.int .i64 (k : Int)) := E6.of_cell (by simp [go_sem, c5]); have k6 : w6.cell? ⟨g, 6, none⟩ = some (.bool false) := E6.of_cell (by simp [go_sem, c6]); have r6 : w6.cell? ⟨w1.heap.size, 1, none⟩ = some (.int .i64 (rw_ : Int)) := E6.of_cell (by simp [go_sem, r1]); have hE6 : Ext w w6 := Ext.trans (by repeat with_reducible (first | exact hEc | exact Ext.refl _ | refine Ext.alloc ?_ _ | refine Ext.drew ?_ | refine Ext.drewN ?_ _ | refine Ext.setCell ?_ (by first | exact Nat.le_refl _ | omega | (simp; done) | (simp; omega)) _)) E6; have e6 : ∀ i, w6.cell? ⟨w.heap.size + 1, i, none⟩ = _ := fun i => (E6.cell (p := ⟨w.heap.size + 1, i, none⟩) (by simp [go_sem]; omega)).trans ((show _ = _ by simp [go_sem]).trans (e1 i)); have e7 : ∀ i, w6.frozen? ⟨w.heap.size + 1, i, none⟩ = false := fun i => (E6.frozen (p := ⟨w.heap.size + 1, i, none⟩) (by simp [go_sem]; omega)).trans ((show _ = _ by simp [go_sem]).trans (e2 i))))
                exact bodyPost_ret (v := .tuple #[viewV ⟨⟨rn, rw_, rf, ra, rt⟩, k, false⟩, .int .u8 0]) (by simp [results, Try.results52, go_sem, viewV, e6]) rfl ⟨rfl, (by repeat with_reducible (first | exact hE6 | exact Ext.refl _ | refine Ext.alloc ?_ _ | refine Ext.drew ?_ | refine Ext.drewN ?_ _ | refine Ext.setCell ?_ (by first | exact Nat.le_refl _ | omega | (simp; done) | (simp; omega)) _))⟩
              · go_wp2_with (first
            | (go_at_call 13; refine (Kn.out _).mono ?_; rintro e w5 ⟨rfl, E5⟩; have D5 := E5.new_blk; have d2' : w5.cell? ⟨wc.heap.size, 2, none⟩ = some (.int .i64 fk) := D5.cell 2; have l5 := D5.lt; clear D5; have X_ : Ext wc w5 := Ext.trans (by repeat with_reducible (first | exact Ext.refl _ | refine Ext.alloc ?_ _ | refine Ext.drew ?_ | refine Ext.drewN ?_ _ | refine Ext.setCell ?_ (by first | exact Nat.le_refl _ | omega | (simp; done) | (simp; omega)) _)) E5; replace hEc := hEc.up X_; have X5 := X_; clear X_; clear E5;  replace r1 := X5.of_cell r1;  replace c0 := X5.of_cell c0;  replace c1 := X5.of_cell c1;  replace c2 := X5.of_cell c2;  replace c3 := X5.of_cell c3;  replace c4 := X5.of_cell c4;  replace c5 := X5.of_cell c5;  replace c6 := X5.of_cell c6;  replace fz : w5.frozen? ⟨g, 6, none⟩ = false := (X5.frozen (p := ⟨g, 6, none⟩) h2).trans fz;  replace e1 : ∀ i, w5.cell? ⟨w.heap.size + 1, i, none⟩ = _ := fun i => (X5.cell (p := ⟨w.heap.size + 1, i, none⟩) hg1).trans (e1 i);  replace e2 : ∀ i, w5.frozen? ⟨w.heap.size + 1, i, none⟩ = false := fun i => (X5.frozen (p := ⟨w.heap.size + 1, i, none⟩) hg1).trans (e2 i))
            | (go_at_call 24; refine (Kw.out _).mono ?_; rintro e w6 ⟨rfl, E6⟩; have k0 : w6.cell? ⟨g, 0, none⟩ = some (.int .i64 (rn : Int)) := E6.of_cell (by simp [go_sem, c0]); have k1 : w6.cell? ⟨g, 1, none⟩ = some (.int .i64 (rw_ : Int)) := E6.of_cell (by simp [go_sem, c1]); have k2 : w6.cell? ⟨g, 2, none⟩ = some (.int .i64 (rf : Int)) := E6.of_cell (by simp [go_sem, c2]); have k3 : w6.cell? ⟨g, 3, none⟩ = some (.int .i64 (ra : Int)) := E6.of_cell (by simp [go_sem, c3]); have k4 : w6.cell? ⟨g, 4, none⟩ = some (.int .i64 (rt : Int)) := E6.of_cell (by simp [go_sem, c4]); have k5 : w6.cell? ⟨g, 5, none⟩ = some (.int .i64 (k : Int)) := E6.of_cell (by simp [go_sem, c5]); have k6 : w6.cell? ⟨g, 6, none⟩ = some (.bool false) := E6.of_cell (by simp [go_sem, c6]); have r6 : w6.cell? ⟨w1.heap.size, 1, none⟩ = some (.int .i64 (rw_ : Int)) := E6.of_cell (by simp [go_sem, r1]); have hE6 : Ext w w6 := Ext.trans (by repeat with_reducible (first | exact hEc | exact Ext.refl _ | refine Ext.alloc ?_ _ | refine Ext.drew ?_ | refine Ext.drewN ?_ _ | refine Ext.setCell ?_ (by first | exact Nat.le_refl _ | omega | (simp; done) | (simp; omega)) _)) E6; have e6 : ∀ i, w6.cell? ⟨w.heap.size + 1, i, none⟩ = _ := fun i => (E6.cell (p := ⟨w.heap.size + 1, i, none⟩) (by simp [go_sem]; omega)).trans ((show _ = _ by simp [go_sem]).trans (e1 i)); have e7 : ∀ i, w6.frozen? ⟨w.heap.size + 1, i, none⟩ = false := fun i => (E6.frozen (p := ⟨w.heap.size + 1, i, none⟩) (by simp [go_sem]; omega)).trans ((show _ = _ by simp [go_sem]).trans (e2 i))))
                exact bodyPost_ret (v := .tuple #[viewV ViewD.zero, .int .u8 6]) (by simp [results, Try.results52, go_sem, viewV, ViewD.zero, Rec.zero, e6]) rfl ⟨rfl, (by repeat with_reducible (first | exact hE6 | exact Ext.refl _ | refine Ext.alloc ?_ _ | refine Ext.drew ?_ | refine Ext.drewN ?_ _ | refine Ext.setCell ?_ (by first | exact Nat.le_refl _ | omega | (simp; done) | (simp; omega)) _))⟩
              · go_wp2_with (first
            | (go_at_call 13; refine (Kn.out _).mono ?_; rintro e w5 ⟨rfl, E5⟩; have D5 := E5.new_blk; have d2' : w5.cell? ⟨wc.heap.size, 2, none⟩ = some (.int .i64 fk) := D5.cell 2; have l5 := D5.lt; clear D5; have X_ : Ext wc w5 := Ext.trans (by repeat with_reducible (first | exact Ext.refl _ | refine Ext.alloc ?_ _ | refine Ext.drew ?_ | refine Ext.drewN ?_ _ | refine Ext.setCell ?_ (by first | exact Nat.le_refl _ | omega | (simp; done) | (simp; omega)) _)) E5; replace hEc := hEc.up X_; have X5 := X_; clear X_; clear E5;  replace r1 := X5.of_cell r1;  replace c0 := X5.of_cell c0;  replace c1 := X5.of_cell c1;  replace c2 := X5.of_cell c2;  replace c3 := X5.of_cell c3;  replace c4 := X5.of_cell c4;  replace c5 := X5.of_cell c5;  replace c6 := X5.of_cell c6;  replace fz : w5.frozen? ⟨g, 6, none⟩ = false := (X5.frozen (p := ⟨g, 6, none⟩) h2).trans fz;  replace e1 : ∀ i, w5.cell? ⟨w.heap.size + 1, i, none⟩ = _ := fun i => (X5.cell (p := ⟨w.heap.size + 1, i, none⟩) hg1).trans (e1 i);  replace e2 : ∀ i, w5.frozen? ⟨w.heap.size + 1, i, none⟩ = false := fun i => (X5.frozen (p := ⟨w.heap.size + 1, i, none⟩) hg1).trans (e2 i))
            | (go_at_call 24; refine (Kw.out _).mono ?_; rintro e w6 ⟨rfl, E6⟩; have k0 : w6.cell? ⟨g, 0, none⟩ = some (.int .i64 (rn : Int)) := E6.of_cell (by simp [go_sem, c0]); have k1 : w6.cell? ⟨g, 1, none⟩ = some (.int .i64 (rw_ : Int)) := E6.of_cell (by simp [go_sem, c1]); have k2 : w6.cell? ⟨g, 2, none⟩ = some (.int .i64 (rf : Int)) := E6.of_cell (by simp [go_sem, c2]); have k3 : w6.cell? ⟨g, 3, none⟩ = some (.int .i64 (ra : Int)) := E6.of_cell (by simp [go_sem, c3]); have k4 : w6.cell? ⟨g, 4, none⟩ = some (.int .i64 (rt : Int)) := E6.of_cell (by simp [go_sem, c4]); have k5 : w6.cell? ⟨g, 5, none⟩ = some (.int .i64 (k : Int)) := E6.of_cell (by simp [go_sem, c5]); have k6 : w6.cell? ⟨g, 6, none⟩ = some (.bool false) := E6.of_cell (by simp [go_sem, c6]); have r6 : w6.cell? ⟨w1.heap.size, 1, none⟩ = some (.int .i64 (rw_ : Int)) := E6.of_cell (by simp [go_sem, r1]); have hE6 : Ext w w6 := Ext.trans (by repeat with_reducible (first | exact hEc | exact Ext.refl _ | refine Ext.alloc ?_ _ | refine Ext.drew ?_ | refine Ext.drewN ?_ _ | refine Ext.setCell ?_ (by first | exact Nat.le_refl _ | omega | (simp; done) | (simp; omega)) _)) E6; have e6 : ∀ i, w6.cell? ⟨w.heap.size + 1, i, none⟩ = _ := fun i => (E6.cell (p := ⟨w.heap.size + 1, i, none⟩) (by simp [go_sem]; omega)).trans ((show _ = _ by simp [go_sem]).trans (e1 i)); have e7 : ∀ i, w6.frozen? ⟨w.heap.size + 1, i, none⟩ = false := fun i => (E6.frozen (p := ⟨w.heap.size + 1, i, none⟩) (by simp [go_sem]; omega)).trans ((show _ = _ by simp [go_sem]).trans (e2 i))))
                exact bodyPost_ret (v := .tuple #[viewV ViewD.zero, .int .u8 6]) (by simp [results, Try.results52, go_sem, viewV, ViewD.zero, Rec.zero, e6]) rfl ⟨rfl, (by repeat with_reducible (first | exact hE6 | exact Ext.refl _ | refine Ext.alloc ?_ _ | refine Ext.drew ?_ | refine Ext.drewN ?_ _ | refine Ext.setCell ?_ (by first | exact Nat.le_refl _ | omega | (simp; done) | (simp; omega)) _))⟩
  · have q : ((K : Int) != 0) = true := by simp; omega
    rw [if_neg hK] at h
    obtain ⟨rfl, hKC⟩ := Prod.mk.inj h
    obtain rfl : K = C := hKC
    go_enter Try.func52, Try.ntmps52
    go_wp2_with (go_at_call 62; refine (rNextI' (hb.up (by repeat with_reducible (first | exact Ext.refl _ | refine Ext.alloc ?_ _ | refine Ext.drew ?_ | refine Ext.drewN ?_ _ | refine Ext.setCell ?_ (by first | exact Nat.le_refl _ | omega | (simp; done) | (simp; omega)) _))) hm Hx.out).mono ?_; rintro e w1 ⟨rfl, E1⟩; unfold recV; have B1 := two_blocks E1; have f1 := B1.2.1; have f2 := B1.2.2.2.1; have f3 : w.heap.size + 1 < w1.heap.size := (by have := B1.2.2.2.2; omega); have X_ : Ext w w1 := Ext.trans (by repeat with_reducible (first | exact Ext.refl _ | refine Ext.alloc ?_ _ | refine Ext.drew ?_ | refine Ext.drewN ?_ _ | refine Ext.setCell ?_ (by first | exact Nat.le_refl _ | omega | (simp; done) | (simp; omega)) _)) E1; replace hE := hE.up X_; clear X_)
    exact bodyPost_ret (v := .tuple #[viewV ViewD.zero, .int .u8 K]) (by simp [results, Try.results52, go_sem, viewV, ViewD.zero, Rec.zero, f1, f3]) rfl ⟨rfl, (by repeat with_reducible (first | exact hE | exact Ext.refl _ | refine Ext.alloc ?_ _ | refine Ext.drew ?_ | refine Ext.drewN ?_ _ | refine Ext.setCell ?_ (by first | exact Nat.le_refl _ | omega | (simp; done) | (simp; omega)) _))⟩

end Go.Proofs.Ytnnphodgegcddaa

/- Contracts of layer 10: the view of a record, as the reference has it. -/
namespace Go.Proofs.Ytnnphodgegcddaa
open Go.RowKit Go.Shelf
set_option linter.unusedVariables false

end Go.Proofs.Ytnnphodgegcddaa

/- Contracts of layer 10: all views. -/
namespace Go.Proofs.Ytnnphodgegcddaa
open Go.RowKit Go.Shelf
set_option linter.unusedVariables false

def viewC (v : ViewD) : List Value := [.int .i64 (v.r.n : Int), .int .i64 (v.r.w : Int), .int .i64 (v.r.f : Int), .int .i64 (v.r.a : Int), .int .i64 (v.r.t : Int), .int .i64 v.field, .bool v.run]

theorem viewC_one (v : ViewD) : ∀ u ∈ viewC v, u.oneCell' = true := by
  intro u hu
  simp only [viewC, List.mem_cons, List.not_mem_nil, or_false] at hu
  rcases hu with rfl | rfl | rfl | rfl | rfl | rfl | rfl <;> rfl

theorem elemView : Elem Try.prog 101 108 7 56 := Elem.mk' (z := .agg #[.int .i64 0, .int .i64 0, .int .i64 0, .int .i64 0, .int .i64 0, .int .i64 0, .bool false]) Try.underlying101 (by kernel_rfl) rfl (by omega)

theorem vLookN {s : ByteArray} {A B : Option Addr} {n c m d : Nat} {l : List FieldD} {bs : List UInt8} {p : Nat} {w : World} {v : ViewD} {C : Nat} (hf : FieldsAt w A n c l) (hn : n ≤ 1000000000000) (hb : BytesAt w B m d bs) (hm : m ≤ 1000000000000) (hp : p < m) (h : lookV l bs p = (v, C)) :
    Calls Try.prog 52 #[.agg #[.string s, .slice A n c], .slice B m d, .int .i64 (p : Int)] w fun e w' => e = .returned (.tuple #[viewV v, .int .u8 (C : Int)]) ∧ Ext w w' :=
  vLook hf hn hb hm (by rw [lookI_nat (by rw [hb.length]; exact hp)]; exact h)

set_option maxHeartbeats 1000000 in
theorem vAllV {s : ByteArray} {A B : Option Addr} {n c m d : Nat} {fs : List FieldD} {bs : List UInt8} {w : World} {L : List ViewD} {P C : Nat} (hf : FieldsAt w A n c fs) (hn : n ≤ 1000000000000) (hb : BytesAt w B m d bs) (hm : m ≤ 1000000000) (h : viewsV fs bs = (L, P, C)) :
    Calls Try.prog 42 #[.agg #[.string s, .slice A n c], .slice B m d] w fun e w' => ∃ A' c', e = .returned (.tuple #[.slice A' L.length c', .int .i64 (P : Int), .int .u8 (C : Int)]) ∧ Own w w' 108 7 A' L.length c' (L.flatMap viewC) := by
  have hlen := hb.length
  have hO := lookV_onward fs bs
  rw [hlen] at hO
  have hS : viewsV fs bs = scan (lookV fs bs) ViewD.to m 0 := by unfold viewsV; rw [hlen]
  rw [hS] at h
  have HO := Lib.hid hO
  have HS := Lib.hid h
  clear hlen hO hS h
  have B0 := Ext.new_blk (Ext.refl (w.alloc (.cells #[.string s, .slice A n c] 45)))
  have hE0 : Ext w (w.alloc (.cells #[.string s, .slice A n c] 45)) := (by repeat with_reducible (first | exact Ext.refl _ | refine Ext.alloc ?_ _ | refine Ext.drew ?_ | refine Ext.drewN ?_ _ | refine Ext.setCell ?_ (by first | exact Nat.le_refl _ | omega | (simp; done) | (simp; omega)) _))
  go_enter Try.func42, Try.ntmps42
  go_wp2
  go_loopw [7, 8] (fun u i wr => ∃ (p : Nat) (A2 : Option Addr) (c2 : Nat) (l : List ViewD), p ≤ m ∧ i = .int .i64 p ∧ u = .slice A2 l.length c2 ∧ Own (w.alloc (.cells #[.string s, .slice A n c] 45)) wr 108 7 A2 l.length c2 (l.flatMap viewC) ∧
      l.length ≤ p ∧ Hid ((L, P, C) = pre l (scan (lookV fs bs) ViewD.to m p))) (fun _ i _ => m - (intOf i).toNat)
  case atStart => exact ⟨0, none, 0, [], Nat.zero_le _, rfl, rfl, Own.nil (Ext.refl _) 108 7, Nat.zero_le _, by rw [pre_scan HO.out]; exact HS.out.symm⟩
  case round =>
    obtain ⟨p, A2, c2, l, hp, rfl, rfl, own, hlp, hA⟩ := hrel
    have B1 := B0.up own.ext
    have k0 : wr.cell? ⟨w.heap.size, 0, none⟩ = some (.string s) := B1.cell 0
    have k1 : wr.cell? ⟨w.heap.size, 1, none⟩ = some (.slice A n c) := B1.cell 1
    have kl := B1.lt
    clear B1
    have hfw := hf.up (hE0.trans own.ext)
    have hbw := hb.up (hE0.trans own.ext)
    by_cases hm2 : (p : Int) < m
    · rcases hv : lookV fs bs p with ⟨v, D⟩
      by_cases hC : D = 0
      · subst hC
        have h2 := HO.out p (by omega) (by rw [hv])
        rw [hv] at h2
        simp only at h2
        have hsc := scan_ok HO.out (show p < m by omega) hv
        obtain ⟨⟨rn, rw_, rf, ra, rt⟩, vf, vr⟩ := v
        unfold ViewD.to at h2
        simp only at h2
        have Hv := Lib.hid hv
        have Hsc := Lib.hid hsc
        clear hv hsc
        go_wp2_with (first | (go_at_call 52; refine (vLookN hfw (by omega) hbw (by omega) (by omega) Hv.out).mono ?_; rintro e w1 ⟨rfl, E1⟩; unfold viewV; have X_ : Ext wr w1 := Ext.trans (by repeat with_reducible (first | exact Ext.refl _ | refine Ext.alloc ?_ _ | refine Ext.drew ?_ | refine Ext.drewN ?_ _ | refine Ext.setCell ?_ (by first | exact Nat.le_refl _ | omega | (simp; done) | (simp; omega)) _)) E1; replace own := own.up X_; have hE := X_; clear X_))
        go_region_law ((refine step_oneN (cs := viewC ⟨⟨rn, rw_, rf, ra, rt⟩, vf, vr⟩) elemView rfl (.tmp 26) (.tmp 28) rfl rfl (own.up (by repeat with_reducible (first | exact Ext.refl _ | refine Ext.alloc ?_ _ | refine Ext.drew ?_ | refine Ext.drewN ?_ _ | refine Ext.setCell ?_ (by first | exact Nat.le_refl _ | omega | (simp; done) | (simp; omega)) _))) rfl (by first | rfl | simp) rfl (viewC_one _) (by omega) (by unfold maxLen; omega) ?_; intro A4 c4 w4 own4 g4; have k4 : w4.cell? ⟨w1.heap.size, 4, none⟩ = some (.int .i64 (rt : Int)) := (grown_cell own g4 (Nat.le_refl _) (by simp <;> omega)).trans (by simp)))
        all_goals
          go_simp
          go_wp2
          go_roundw
          case rel =>
            refine ⟨rt, A4, c4, l ++ [⟨⟨rn, rw_, rf, ra, rt⟩, vf, vr⟩], by omega, rfl, ret_len (by simp), by simpa using own4, by simp; omega, ?_⟩
            have e := hA.out
            rw [Hsc.out, pre_pre] at e
            exact e
          case measure => simp [intOf]; omega
      · have q : ((D : Int) != 0) = true := by simp; omega
        have hA' := hA.out
        rw [scan_fail (show p < m by omega) hv hC, pre_fail _ hC] at hA'
        have Hv := Lib.hid hv
        cases hA'
        clear hv
        go_wp2_with (first | (go_at_call 52; refine (vLookN hfw (by omega) hbw (by omega) (by omega) Hv.out).mono ?_; rintro e w1 ⟨rfl, E1⟩; unfold viewV; have X_ : Ext wr w1 := Ext.trans (by repeat with_reducible (first | exact Ext.refl _ | refine Ext.alloc ?_ _ | refine Ext.drew ?_ | refine Ext.drewN ?_ _ | refine Ext.setCell ?_ (by first | exact Nat.le_refl _ | omega | (simp; done) | (simp; omega)) _)) E1; replace own := own.up X_; have hE := X_; clear X_))
        go_ret3
        exact ⟨none, 0, rfl, Own.nil (hE0.trans (own.ext.trans (by repeat with_reducible (first | exact Ext.refl _ | refine Ext.alloc ?_ _ | refine Ext.drew ?_ | refine Ext.drewN ?_ _ | refine Ext.setCell ?_ (by first | exact Nat.le_refl _ | omega | (simp; done) | (simp; omega)) _)))) 108 7⟩
    · have hA' := hA.out
      rw [scan_end (by omega), pre_end] at hA'
      cases hA'
      go_wp2
      go_ret3
      exact ⟨A2, c2, rfl, own.since hE0⟩

end Go.Proofs.Ytnnphodgegcddaa

/- Contracts of layer 10: the views that are so. -/
namespace Go.Proofs.Ytnnphodgegcddaa
open Go.RowKit Go.Shelf
set_option linter.unusedVariables false

theorem Reads.view' {w : World} {A : Option Addr} {n c : Nat} {l : List ViewD} (h : Reads w A n c 7 (l.flatMap viewC)) {k : Nat} (hk : k < n) :
    ∃ b off v, A = some ⟨b, off, none⟩ ∧ l[k]? = some v ∧ b < w.heap.size ∧ w.cell? ⟨b, off + k * 7, none⟩ = some (.int .i64 (v.r.n : Int)) ∧ w.cell? ⟨b, off + k * 7 + 1, none⟩ = some (.int .i64 (v.r.w : Int)) ∧
      w.cell? ⟨b, off + k * 7 + 2, none⟩ = some (.int .i64 (v.r.f : Int)) ∧ w.cell? ⟨b, off + k * 7 + 3, none⟩ = some (.int .i64 (v.r.a : Int)) ∧ w.cell? ⟨b, off + k * 7 + 4, none⟩ = some (.int .i64 (v.r.t : Int)) ∧
      w.cell? ⟨b, off + k * 7 + 5, none⟩ = some (.int .i64 v.field) ∧ w.cell? ⟨b, off + k * 7 + 6, none⟩ = some (.bool v.run) := by
  obtain ⟨b, off, r, e, hx, hb, hj⟩ := h.elem (size := 7) (fun _ => rfl) (by omega) hk
  exact ⟨b, off, r, e, hx, hb, hj 0 _ rfl, hj 1 _ rfl, hj 2 _ rfl, hj 3 _ rfl, hj 4 _ rfl, hj 5 _ rfl, hj 6 _ rfl⟩

end Go.Proofs.Ytnnphodgegcddaa

/- Contracts of layer 10: views are struck out of a slice of the call's own, in place. -/
namespace Go.Proofs.Ytnnphodgegcddaa
open Go.RowKit Go.Shelf
set_option linter.unusedVariables false

end Go.Proofs.Ytnnphodgegcddaa

/- Contracts of layer 10: the views of a number; unknown ones. -/
namespace Go.Proofs.Ytnnphodgegcddaa
open Go.RowKit Go.Shelf
set_option linter.unusedVariables false

end Go.Proofs.Ytnnphodgegcddaa

/- Contracts of layer 10: what is left without unknown records. -/
namespace Go.Proofs.Ytnnphodgegcddaa
open Go.RowKit Go.Shelf
set_option linter.unusedVariables false

theorem viewsV_each (l : List FieldD) (bs : List UInt8) : ∀ v ∈ (viewsV l bs).1, nextV bs v.r.f = (v.r, 0) ∧ seenV l v.r = (v, 0) :=
  scan_all (lookV_onward l bs) (fun p x hp h => by
    have h2 := lookV_of h
    refine ⟨?_, h2.2⟩
    rw [(nextV_ok h2.1).2.1]
    exact h2.1) bs.length 0 (by omega)

theorem spanB_at10 {w : World} {A : Option Addr} {n c : Nat} {bs : List UInt8} (hb : BytesAt w A n c bs) {l m : Nat} (hl : l ≤ m) (hm : m ≤ n) :
    ∃ A', (∀ W : World, (Instr.slice 26 (.slice A n c) (some (.int .i64 (l : Int))) (some (.int .i64 (m : Int))) none).run Try.prog W = .ok (.slice A' (m - l) (c - l)) W) ∧ BytesAt w A' (m - l) (c - l) (spanB bs l m) := by
  obtain ⟨A', h1, h2⟩ := cut_both elemB hb .i64 .i64 hl hm
  exact ⟨A', h1, by simpa [BytesAt, spanB, List.map_drop, List.map_take] using h2⟩

end Go.Proofs.Ytnnphodgegcddaa

/- Contracts of layer 10: unknown records. -/
namespace Go.Proofs.Ytnnphodgegcddaa
open Go.RowKit Go.Shelf
set_option linter.unusedVariables false

theorem elemBB : Elem Try.prog 111 26 1 24 := Elem.mk' (z := .slice none 0 0) Try.underlying111 (by kernel_rfl) rfl (by omega)

end Go.Proofs.Ytnnphodgegcddaa

/- Plain laws of layer 10: records behind others; known and unknown records together are all; with a field less. -/
namespace Go.Proofs.Ytnnphodgegcddaa
open Go.RowKit Go.Lib
set_option linter.unusedVariables false

section
variable {α : Type} {s1 s2 : Nat → α × Nat} {tt : α → Nat} {n m : Nat}

end

/-! Bytes ahead of a record's end alone play a part. -/

/-! Views of bytes behind other bytes. -/

/-! With a field less. -/

end Go.Proofs.Ytnnphodgegcddaa
