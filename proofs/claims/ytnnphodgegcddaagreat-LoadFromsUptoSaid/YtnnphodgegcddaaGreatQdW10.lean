/- Contracts of layer 10. -/
import Derived.Test.YtnnphodgegcddaaGreatQdW7
import Derived.Test.YtnnphodgegcddaaGreatQdW5
import Derived.Test.YtnnphodgegcddaaGreatQdW8
import Derived.Test.YtnnphodgegcddaaGreatQdS7
import Derived.Test.YtnnphodgegcddaaGreatQdLib
import Derived.Deep.RegionHeld3
import Derived.Deep.DeepCutAuto

/- Contracts of layer 10: the view of a record. -/
namespace Go.Proofs.YtnnphodgegcddaaGreat
open Go.RowKit Go.Shelf
set_option linter.unusedVariables false

theorem vField1 {f : FieldD} {b : Nat} {x : Int} {w : World} (hc : w.cell? ⟨b, 0, none⟩ = some (.int .i64 x)) :
  Calls Tryz.prog 210 #[fieldV f, .pointer (some ⟨b, 0, none⟩)] w fun e w' => e = .returned (.bool (numP x f)) ∧ Ext w w' := by
 unfold fieldV
 have hb := World.block_lt_of_cell? w _ hc
 simp only at hb
 go_enter Tryz.func210, Tryz.ntmps210
 go_wp2
 go_ret
 exact ⟨rfl, (by repeat with_reducible (first | exact Ext.refl _ | refine Ext.alloc ?_ _ | refine Ext.drew ?_ | refine Ext.drewN ?_ _ | refine Ext.setCell ?_ (by first | omega | (simp <;> omega)) _))⟩

theorem vField {s : ByteArray} {A : Option Addr} {n c : Nat} {l : List FieldD} {x : Int} {w : World} (hb : FieldsAt w A n c l) (hn : n ≤ 1000000000000) :
  Calls Tryz.prog 190 #[.agg #[.string s, .slice A n c], .int .i64 x] w fun e w' => e = .returned (.int .i64 (idxB (numP x) l)) ∧ Ext w w' := by
 have eg : ∀ args w, (callFunc 210 args).run Tryz.prog w = .ok (.enter 210 args) w := enters_of Tryz.func210 (by kernel_rfl) rfl
 go_enter Tryz.func190, Tryz.ntmps190
 go_wp2_with fail
 have B := Ext.new_blk (Ext.refl ((w.alloc (.cells #[.string s, .slice A n c] 82)).alloc (.cells #[.int .i64 x] 3)))
 refine (idxField (p := numP x) eg (hb.up (by repeat with_reducible (first | exact Ext.refl _ | refine Ext.alloc ?_ _ | refine Ext.drew ?_ | refine Ext.drewN ?_ _ | refine Ext.setCell ?_ (by first | omega | (simp <;> omega)) _))) hn ?_).mono ?_
 · intro W f hf hE
   have c0 : W.cell? ⟨w.heap.size + 1, 0, none⟩ = some (.int .i64 x) := by have := hE.of_cell (B.cell 0); simpa using this
   exact vField1 c0
 · rintro e w1 ⟨rfl, E1⟩
   go_wp2
   go_ret
   exact ⟨rfl, Ext.trans (by repeat with_reducible (first | exact Ext.refl _ | refine Ext.alloc ?_ _ | refine Ext.drew ?_ | refine Ext.drewN ?_ _ | refine Ext.setCell ?_ (by first | omega | (simp <;> omega)) _)) E1⟩

theorem vFieldE {s : ByteArray} {A : Option Addr} {n c : Nat} {l : List FieldD} {x I : Int} {w : World} (hb : FieldsAt w A n c l) (hn : n ≤ 1000000000000) (h : I = idxB (numP x) l) :
  Calls Tryz.prog 190 #[.agg #[.string s, .slice A n c], .int .i64 x] w fun e w' => e = .returned (.int .i64 I) ∧ Ext w w' := by
 subst h
 exact vField hb hn

theorem rField {s : ByteArray} {A : Option Addr} {n c : Nat} {l : List FieldD} {x : Int} {w : World} (hb : FieldsAt w A n c l) (hn : n ≤ 1000000000000) :
  Calls Tryz.prog 49 #[.agg #[.string s, .slice A n c], .int .i64 x] w fun e w' => e = .returned (.int .i64 (idxB (numP x) l)) ∧ Ext w w' := by
 have hl := hb.length
 have Hl := Lib.hid hl
 clear hl
 have hbw : FieldsAt (w.alloc (.cells #[.string s, .slice A n c] 82)) A n c l := hb.up (by repeat with_reducible (first | exact Ext.refl _ | refine Ext.alloc ?_ _ | refine Ext.drew ?_ | refine Ext.drewN ?_ _ | refine Ext.setCell ?_ (by first | omega | (simp <;> omega)) _))
 go_enter Tryz.func49, Tryz.ntmps49
 go_wp2
 go_loop [5] (fun i => ∃ k : Nat, k ≤ n ∧ i = .int .i64 k ∧ Hid (∀ (j : Nat) y, j < k → l[j]? = some y → numP x y = false)) (fun i => n - (intOf i).toNat)
 case atStart => exact ⟨0, Nat.zero_le _, rfl, fun j y h => absurd h (Nat.not_lt_zero j)⟩
 case round =>
  obtain ⟨k, hk, rfl, hN⟩ := hrel
  by_cases hlt : k < n
  · have hlt2 : (k : Int) < n := by omega
    obtain ⟨b, off, f, rfl, hf, hok, hb1, c0, c1, c2, c3, c4, c5⟩ := hbw.field hlt
    rcases hq : numP x f with _ | _
    · have q : (f.number == x) = false := hq
      have Hq := Lib.hid hq
      have Hf := Lib.hid hf
      clear hq hf hbw hb
      go_wp2
      go_round
      case rel =>
       refine ⟨k + 1, by omega, by go_num, fun j y hj hy => ?_⟩
       by_cases e : j = k
       · subst e
         have := Hf.out.symm.trans hy
         cases this
         exact Hq.out
       · exact hN.out j y (by omega) hy
      case measure => simp [intOf]; omega
    · have q : (f.number == x) = true := hq
      have Hi := Lib.hid (idxB_found hf hq hN.out)
      clear hq hf hbw hb
      go_wp2
      go_ret
      exact ⟨ret_int Hi.out.symm, (by repeat with_reducible (first | exact Ext.refl _ | refine Ext.alloc ?_ _ | refine Ext.drew ?_ | refine Ext.drewN ?_ _ | refine Ext.setCell ?_ (by first | omega | (simp <;> omega)) _))⟩
  · have hk2 : k = n := by omega
    subst hk2
    have hi : idxB (numP x) l = -1 := idxB_none (fun j y hy => hN.out j y (by have := (List.getElem?_eq_some_iff.1 hy).1; have := Hl.out; omega) hy)
    have Hi := Lib.hid hi
    clear hi
    go_wp2
    go_ret
    exact ⟨ret_int Hi.out.symm, (by repeat with_reducible (first | exact Ext.refl _ | refine Ext.alloc ?_ _ | refine Ext.drew ?_ | refine Ext.drewN ?_ _ | refine Ext.setCell ?_ (by first | omega | (simp <;> omega)) _))⟩

def viewV (v : ViewD) : Value := .agg #[.int .i64 (v.r.n : Int), .int .i64 (v.r.w : Int), .int .i64 (v.r.f : Int), .int .i64 (v.r.a : Int), .int .i64 (v.r.t : Int), .int .i64 v.field, .bool v.run]

theorem rNextI' {A : Option Addr} {n c : Nat} {p : Int} {bs : List UInt8} {w : World} {r : Rec} {C : Nat} (hb : BytesAt w A n c bs) (hn : n ≤ 1000000000000) (h : nextI bs p = (r, C)) :
  Calls Tryz.prog 189 #[.slice A n c, .int .i64 p] w fun e w' => e = .returned (.tuple #[recV r, .int .u8 (C : Int)]) ∧ Ext w w' := by
 unfold nextI at h
 rw [hb.length] at h
 by_cases hp : p < 0 ∨ (n : Int) ≤ p
 · rw [if_pos hp] at h
   cases h
   exact rNext_arg hp
 · rw [if_neg hp] at h
   have := rNext hb (p := p.toNat) (by omega) hn h
   rwa [show ((p.toNat : Nat) : Int) = p by omega] at this

theorem nextI_le' (bs : List UInt8) (p : Int) : (nextI bs p).2 ≤ 5 := by
 unfold nextI
 split
 · simp
 · exact nextV_le bs _

set_option maxRecDepth 100000 in
set_option maxHeartbeats 1000000 in
theorem vLook {s : ByteArray} {A B : Option Addr} {n c m d : Nat} {l : List FieldD} {bs : List UInt8} {p : Int} {w : World} {v : ViewD} {C : Nat} (hf : FieldsAt w A n c l) (hn : n ≤ 1000000000000) (hb : BytesAt w B m d bs) (hm : m ≤ 1000000000000) (h : lookI l bs p = (v, C)) :
  Calls Tryz.prog 151 #[.agg #[.string s, .slice A n c], .slice B m d, .int .i64 p] w fun e w' => e = .returned (.tuple #[viewV v, .int .u8 (C : Int)]) ∧ Ext w w' := by
 have hE := Ext.refl w
 rcases hx : nextI bs p with ⟨r, K⟩
 have hK5 := nextI_le' bs p
 rw [hx] at hK5
 unfold lookI at h
 rw [hx] at h
 simp only at h hK5
 have Hx := Lib.hid hx
 clear hx
 by_cases hK : K = 0
 · subst hK
   rw [if_pos rfl] at h
   obtain ⟨rn, rw_, rf, ra, rt⟩ := r
   obtain ⟨I, hI⟩ : ∃ I, I = idxB (numP (rn : Int)) l := ⟨_, rfl⟩
   have HI := Lib.hid hI
   have Hs := Lib.hid h
   clear h hI
   go_enter Tryz.func151, Tryz.ntmps151
   go_upto_region 4 with (go_at_call 189; refine (rNextI' (hb.up (by repeat with_reducible (first | exact Ext.refl _ | refine Ext.alloc ?_ _ | refine Ext.drew ?_ | refine Ext.drewN ?_ _ | refine Ext.setCell ?_ (by first | omega | (simp <;> omega)) _))) hm Hx.out).mono ?_; rintro e w1 ⟨rfl, E1⟩; unfold recV; have B1 := two_blocks E1; have f1 := B1.2.1; have f2 := B1.2.2.2.1; have f0 := B1.1; have f3 : w.heap.size + 1 < w1.heap.size := (by have := B1.2.2.2.2; omega); clear B1; have X_ : Ext w w1 := Ext.trans (by repeat with_reducible (first | exact Ext.refl _ | refine Ext.alloc ?_ _ | refine Ext.drew ?_ | refine Ext.drewN ?_ _ | refine Ext.setCell ?_ (by first | omega | (simp <;> omega)) _)) E1; replace hE := hE.up X_; replace hf := hf.up X_; clear X_)
   go_cut [10] (fun s10 wy => ∃ g : Nat, s10 = .pointer (some ⟨g, 0, none⟩) ∧ w1.heap.size < g ∧ g < wy.heap.size ∧ Ext w1 wy ∧
    (wy.cell? ⟨w1.heap.size, 0, none⟩ = some (.int .i64 (rn : Int)) ∧ wy.cell? ⟨w1.heap.size, 1, none⟩ = some (.int .i64 (rw_ : Int)) ∧ wy.cell? ⟨w1.heap.size, 2, none⟩ = some (.int .i64 (rf : Int)) ∧ wy.cell? ⟨w1.heap.size, 3, none⟩ = some (.int .i64 (ra : Int)) ∧ wy.cell? ⟨w1.heap.size, 4, none⟩ = some (.int .i64 (rt : Int))) ∧
    (wy.cell? ⟨g, 0, none⟩ = some (.int .i64 (rn : Int)) ∧ wy.cell? ⟨g, 1, none⟩ = some (.int .i64 (rw_ : Int)) ∧ wy.cell? ⟨g, 2, none⟩ = some (.int .i64 (rf : Int)) ∧ wy.cell? ⟨g, 3, none⟩ = some (.int .i64 (ra : Int)) ∧ wy.cell? ⟨g, 4, none⟩ = some (.int .i64 (rt : Int)) ∧ wy.cell? ⟨g, 5, none⟩ = some (.int .i64 I) ∧ wy.cell? ⟨g, 6, none⟩ = some (.bool false)) ∧ wy.frozen? ⟨g, 6, none⟩ = false)
   case first =>
    have x0 : Ext w1 (w1.alloc (.cells #[.int .i64 (rn : Int), .int .i64 (rw_ : Int), .int .i64 (rf : Int), .int .i64 (ra : Int), .int .i64 (rt : Int)] 159)) := (by repeat with_reducible (first | exact Ext.refl _ | refine Ext.alloc ?_ _ | refine Ext.drew ?_ | refine Ext.drewN ?_ _ | refine Ext.setCell ?_ (by first | omega | (simp <;> omega)) _))
    have B0 := Ext.new_blk (Ext.refl (w1.alloc (.cells #[.int .i64 (rn : Int), .int .i64 (rw_ : Int), .int .i64 (rf : Int), .int .i64 (ra : Int), .int .i64 (rt : Int)] 159)))
    have m0 := x0.of_cell (f0 0)
    have m1 := x0.of_cell (f0 1)
    generalize w1.alloc (.cells #[.int .i64 (rn : Int), .int .i64 (rw_ : Int), .int .i64 (rf : Int), .int .i64 (ra : Int), .int .i64 (rt : Int)] 159) = wx at *
    have y0 : wx.cell? ⟨w1.heap.size, 0, none⟩ = some (.int .i64 (rn : Int)) := B0.cell 0
    have y1 : wx.cell? ⟨w1.heap.size, 1, none⟩ = some (.int .i64 (rw_ : Int)) := B0.cell 1
    have y2 : wx.cell? ⟨w1.heap.size, 2, none⟩ = some (.int .i64 (rf : Int)) := B0.cell 2
    have y3 : wx.cell? ⟨w1.heap.size, 3, none⟩ = some (.int .i64 (ra : Int)) := B0.cell 3
    have y4 : wx.cell? ⟨w1.heap.size, 4, none⟩ = some (.int .i64 (rt : Int)) := B0.cell 4
    have hlt := B0.lt
    have hlt0 : w.heap.size < wx.heap.size := by have := x0.size; omega
    clear B0 f0 f1 f2
    go_region_held3 (fun W => Ext wx W ∧ ∀ b o, b < wx.heap.size → W.cell? ⟨b, o, none⟩ = wx.cell? ⟨b, o, none⟩) ((refine Ext.keep ?_; repeat with_reducible (first | assumption | exact Ext.refl _ | refine Ext.alloc ?_ _ | refine Ext.drew ?_ | refine Ext.drewN ?_ _ | refine Ext.setCell ?_ (by first | omega | (simp <;> omega)) _)))
     (first | (go_split_ands; go_at_call 190; refine (vFieldE (x := (rn : Int)) (hf.up (x0.trans (by with_reducible assumption))) hn HI.out).mono ?_; rintro e w2 ⟨rfl, E2⟩; have q0 : Ext wx w2 := Ext.trans (by with_reducible assumption) E2; have q1 := q0.size; try (have B3 := Ext.new_blk_drew E2; have g1 : ∀ i, w2.cell? ⟨wx.heap.size, i, none⟩ = (#[.int .i64 0, .int .i64 0, .int .i64 0, .int .i64 0, .int .i64 0, .int .i64 0, .bool false] : Array Value)[i]? := B3.cell; have g2 : ∀ i, w2.frozen? ⟨wx.heap.size, i, none⟩ = false := B3.free; have g3 : wx.heap.size < w2.heap.size := B3.lt; clear B3)))
    all_goals
     go_wp2_with fail
     go_meet
    · refine ⟨_, rfl, by omega, by first | (simp; done) | (simp; omega) | (simp [go_sem]; omega) | (simp [World.setCell]; omega), x0.trans (by repeat with_reducible (first | exact q0 | exact Ext.refl _ | refine Ext.alloc ?_ _ | refine Ext.drew ?_ | refine Ext.drewN ?_ _ | refine Ext.setCell ?_ (by first | omega | (simp <;> omega)) _)), ⟨Ext.of_cell (w := wx) (by repeat with_reducible (first | exact q0 | exact Ext.refl _ | refine Ext.alloc ?_ _ | refine Ext.drew ?_ | refine Ext.drewN ?_ _ | refine Ext.setCell ?_ (by first | omega | (simp <;> omega)) _)) y0, Ext.of_cell (w := wx) (by repeat with_reducible (first | exact q0 | exact Ext.refl _ | refine Ext.alloc ?_ _ | refine Ext.drew ?_ | refine Ext.drewN ?_ _ | refine Ext.setCell ?_ (by first | omega | (simp <;> omega)) _)) y1, Ext.of_cell (w := wx) (by repeat with_reducible (first | exact q0 | exact Ext.refl _ | refine Ext.alloc ?_ _ | refine Ext.drew ?_ | refine Ext.drewN ?_ _ | refine Ext.setCell ?_ (by first | omega | (simp <;> omega)) _)) y2, Ext.of_cell (w := wx) (by repeat with_reducible (first | exact q0 | exact Ext.refl _ | refine Ext.alloc ?_ _ | refine Ext.drew ?_ | refine Ext.drewN ?_ _ | refine Ext.setCell ?_ (by first | omega | (simp <;> omega)) _)) y3, Ext.of_cell (w := wx) (by repeat with_reducible (first | exact q0 | exact Ext.refl _ | refine Ext.alloc ?_ _ | refine Ext.drew ?_ | refine Ext.drewN ?_ _ | refine Ext.setCell ?_ (by first | omega | (simp <;> omega)) _)) y4⟩, ?_, ?_⟩
      · exact ⟨World.cell?_alloc_new _ _ _ _, World.cell?_alloc_new _ _ _ _, World.cell?_alloc_new _ _ _ _, World.cell?_alloc_new _ _ _ _, World.cell?_alloc_new _ _ _ _, World.cell?_alloc_new _ _ _ _, World.cell?_alloc_new _ _ _ _⟩
      · exact (Ext.new_blk (Ext.refl _)).free _
    · refine ⟨_, rfl, by omega, by first | (simp; done) | (simp; omega) | (simp [go_sem]; omega) | (simp [World.setCell]; omega), x0.trans (by repeat with_reducible (first | exact q0 | exact Ext.refl _ | refine Ext.alloc ?_ _ | refine Ext.drew ?_ | refine Ext.drewN ?_ _ | refine Ext.setCell ?_ (by first | omega | (simp <;> omega)) _)), ⟨Ext.of_cell (w := wx) (by repeat with_reducible (first | exact q0 | exact Ext.refl _ | refine Ext.alloc ?_ _ | refine Ext.drew ?_ | refine Ext.drewN ?_ _ | refine Ext.setCell ?_ (by first | omega | (simp <;> omega)) _)) y0, Ext.of_cell (w := wx) (by repeat with_reducible (first | exact q0 | exact Ext.refl _ | refine Ext.alloc ?_ _ | refine Ext.drew ?_ | refine Ext.drewN ?_ _ | refine Ext.setCell ?_ (by first | omega | (simp <;> omega)) _)) y1, Ext.of_cell (w := wx) (by repeat with_reducible (first | exact q0 | exact Ext.refl _ | refine Ext.alloc ?_ _ | refine Ext.drew ?_ | refine Ext.drewN ?_ _ | refine Ext.setCell ?_ (by first | omega | (simp <;> omega)) _)) y2, Ext.of_cell (w := wx) (by repeat with_reducible (first | exact q0 | exact Ext.refl _ | refine Ext.alloc ?_ _ | refine Ext.drew ?_ | refine Ext.drewN ?_ _ | refine Ext.setCell ?_ (by first | omega | (simp <;> omega)) _)) y3, Ext.of_cell (w := wx) (by repeat with_reducible (first | exact q0 | exact Ext.refl _ | refine Ext.alloc ?_ _ | refine Ext.drew ?_ | refine Ext.drewN ?_ _ | refine Ext.setCell ?_ (by first | omega | (simp <;> omega)) _)) y4⟩, ?_, ?_⟩
      · refine ⟨?_, ?_, ?_, ?_, ?_, ?_, ?_⟩ <;> first | (simp [go_sem, g1]; done)
      · simp [g2]
   case rest =>
    obtain ⟨g, rfl, h1, h2, X1, ⟨r0, r1, r2, r3, r4⟩, ⟨c0, c1, c2, c3, c4, c5, c6⟩, fz⟩ := hcut
    have e1 : ∀ i, wc.cell? ⟨w.heap.size + 1, i, none⟩ = (#[.int .i64 0, .int .i64 0, .int .i64 0, .int .i64 0, .int .i64 0, .int .i64 0, .bool false] : Array Value)[i]? := fun i => (X1.cell (p := ⟨w.heap.size + 1, i, none⟩) f3).trans (f1 i)
    have e2 : ∀ i, wc.frozen? ⟨w.heap.size + 1, i, none⟩ = false := fun i => (X1.frozen (p := ⟨w.heap.size + 1, i, none⟩) f3).trans (f2 i)
    have e3 : ∀ i, wc.cell? ⟨w.heap.size, i, none⟩ = (#[.string s, .slice A n c] : Array Value)[i]? := fun i => (X1.cell (p := ⟨w.heap.size, i, none⟩) (by show w.heap.size < _; omega)).trans (f0 i)
    have hfc := hf.up X1
    have hEc : Ext w wc := hE.trans X1
    have hg0 : w.heap.size + 1 < g := by omega
    have hg1 : w.heap.size + 1 < wc.heap.size := by omega
    clear f0 f1 f2 hb
    rcases idxB_cases (numP (rn : Int)) l with ⟨i1, _⟩ | ⟨k, f, i1, i2, i3, _⟩
    · have hIv := HI.out
      rw [i1] at hIv
      have hsv := Hs.out
      rw [seenV_none i1] at hsv
      obtain ⟨rfl, hC⟩ := Prod.mk.inj hsv
      obtain rfl : C = 0 := hC.symm
      subst hIv
      clear i1 hsv HI Hs
      go_wp2
      exact bodyPost_ret (v := .tuple #[viewV ⟨⟨rn, rw_, rf, ra, rt⟩, -1, false⟩, .int .u8 0]) (by simp [results, Tryz.results151, go_sem, viewV, e1]) rfl ⟨rfl, (by repeat with_reducible (first | exact hEc | exact Ext.refl _ | refine Ext.alloc ?_ _ | refine Ext.drew ?_ | refine Ext.drewN ?_ _ | refine Ext.setCell ?_ (by first | omega | (simp <;> omega)) _))⟩
    · have hlt := (List.getElem?_eq_some_iff.1 i2).1
      rw [hfc.length] at hlt
      have hkn : (k : Int) < n := by omega
      obtain ⟨b, off, f', rfl, i2', hok, hb1, d0, d1, d2, d3, d4, d5⟩ := hfc.field hlt
      rw [i2] at i2'
      cases i2'
      have hIv := HI.out
      rw [i1] at hIv
      have hsv := Hs.out
      rw [seenV_some i1 i2] at hsv
      subst hIv
      have qk : ((k : Int) == -1) = false := by rw [beq_eq_false_iff_ne]; omega
      have hbg : b < wc.heap.size := hb1
      clear i1 i2 i3 HI Hs hfc hf hok
      obtain ⟨fn, fnum, fk, frep, fp, fo⟩ := f
      simp only at hsv d0 d1 d2 d3 d4 d5
      have hkind : numberB fk = true → kindB fk = true := fun h => by have := number_kind h; unfold kindB; exact decide_eq_true (by omega)
      -- what Number and Wire tell
      obtain ⟨nb, hnb⟩ : ∃ nb, nb = numberB fk := ⟨_, rfl⟩
      have kn := fun W : World => kNumber fk W
      rw [← hnb] at kn
      obtain ⟨wv, cv, kw, hwc⟩ : ∃ wv cv : Int, (∀ W : World, Calls Tryz.prog 90 #[.int .i64 fk] W fun e w' => e = .returned (.tuple #[.int .i64 wv, .int .u8 cv]) ∧ Ext W w') ∧
        ((kindB fk = true ∧ wv = wireI fk ∧ cv = 0) ∨ (kindB fk = false ∧ cv = 2)) := by
       refine ⟨_, _, fun W => kWire fk W, ?_⟩
       rcases hkb : kindB fk with _ | _
       · exact .inr ⟨rfl, by simp⟩
       · exact .inl ⟨rfl, by unfold wireOr; rw [hkb]; simp, by simp⟩
      have Kn := Lib.hid kn
      have Kw := Lib.hid kw
      clear kn kw
      have hgw : w1.heap.size ≠ g := by omega
      have hgr : w.heap.size + 1 ≠ g := by omega
      by_cases hR : (frep = true ∧ nb = true ∧ rw_ = 2)
      · obtain ⟨rfl, rfl, rfl⟩ := hR
        rw [← hnb] at hsv
        simp at hsv
        obtain ⟨rfl, rfl⟩ := hsv
        clear hnb hkind hwc
        go_wp2_with (first
         | (go_at_call 62; refine (Kn.out _).mono ?_; rintro e w5 ⟨rfl, E5⟩; have D5 := E5.new_blk; have d2' : w5.cell? ⟨wc.heap.size, 2, none⟩ = some (.int .i64 fk) := D5.cell 2; have l5 := D5.lt; clear D5; have X_ : Ext wc w5 := Ext.trans (by repeat with_reducible (first | exact Ext.refl _ | refine Ext.alloc ?_ _ | refine Ext.drew ?_ | refine Ext.drewN ?_ _ | refine Ext.setCell ?_ (by first | omega | (simp <;> omega)) _)) E5; replace hEc := hEc.up X_; have X5 := X_; clear X_; clear E5;  replace r1 := X5.of_cell r1;  replace c0 := X5.of_cell c0;  replace c1 := X5.of_cell c1;  replace c2 := X5.of_cell c2;  replace c3 := X5.of_cell c3;  replace c4 := X5.of_cell c4;  replace c5 := X5.of_cell c5;  replace c6 := X5.of_cell c6;  replace fz : w5.frozen? ⟨g, 6, none⟩ = false := (X5.frozen (p := ⟨g, 6, none⟩) h2).trans fz;  replace e1 : ∀ i, w5.cell? ⟨w.heap.size + 1, i, none⟩ = _ := fun i => (X5.cell (p := ⟨w.heap.size + 1, i, none⟩) hg1).trans (e1 i);  replace e2 : ∀ i, w5.frozen? ⟨w.heap.size + 1, i, none⟩ = false := fun i => (X5.frozen (p := ⟨w.heap.size + 1, i, none⟩) hg1).trans (e2 i))
         | (go_at_call 90; refine (Kw.out _).mono ?_; rintro e w6 ⟨rfl, E6⟩; have k0 : w6.cell? ⟨g, 0, none⟩ = some (.int .i64 (rn : Int)) := E6.of_cell (by simp [go_sem, c0]); have k1 : w6.cell? ⟨g, 1, none⟩ = some (.int .i64 (2 : Int)) := E6.of_cell (by simp [go_sem, c1]); have k2 : w6.cell? ⟨g, 2, none⟩ = some (.int .i64 (rf : Int)) := E6.of_cell (by simp [go_sem, c2]); have k3 : w6.cell? ⟨g, 3, none⟩ = some (.int .i64 (ra : Int)) := E6.of_cell (by simp [go_sem, c3]); have k4 : w6.cell? ⟨g, 4, none⟩ = some (.int .i64 (rt : Int)) := E6.of_cell (by simp [go_sem, c4]); have k5 : w6.cell? ⟨g, 5, none⟩ = some (.int .i64 (k : Int)) := E6.of_cell (by simp [go_sem, c5]); have k6 : w6.cell? ⟨g, 6, none⟩ = some (.bool true) := E6.of_cell (by simp [go_sem, c6]); have r6 : w6.cell? ⟨w1.heap.size, 1, none⟩ = some (.int .i64 (2 : Int)) := E6.of_cell (by simp [go_sem, r1]); have hE6 : Ext w w6 := Ext.trans (by repeat with_reducible (first | exact hEc | exact Ext.refl _ | refine Ext.alloc ?_ _ | refine Ext.drew ?_ | refine Ext.drewN ?_ _ | refine Ext.setCell ?_ (by first | omega | (simp <;> omega)) _)) E6; have e6 : ∀ i, w6.cell? ⟨w.heap.size + 1, i, none⟩ = _ := fun i => (E6.cell (p := ⟨w.heap.size + 1, i, none⟩) (by simp [go_sem]; omega)).trans ((show _ = _ by simp [go_sem]).trans (e1 i)); have e7 : ∀ i, w6.frozen? ⟨w.heap.size + 1, i, none⟩ = false := fun i => (E6.frozen (p := ⟨w.heap.size + 1, i, none⟩) (by simp [go_sem]; omega)).trans ((show _ = _ by simp [go_sem]).trans (e2 i))))
        exact bodyPost_ret (v := .tuple #[viewV ⟨⟨rn, 2, rf, ra, rt⟩, k, true⟩, .int .u8 0]) (by simp [results, Tryz.results151, go_sem, viewV, e6]) rfl ⟨rfl, (by repeat with_reducible (first | exact hE6 | exact Ext.refl _ | refine Ext.alloc ?_ _ | refine Ext.drew ?_ | refine Ext.drewN ?_ _ | refine Ext.setCell ?_ (by first | omega | (simp <;> omega)) _))⟩
      · have hrun : (frep && numberB fk && rw_ == 2) = false := by
         rw [← hnb]
         rcases frep with _ | _
         · rfl
         · rcases nb with _ | _
           · rfl
           · have : rw_ ≠ 2 := fun e => hR ⟨rfl, rfl, e⟩
             simpa using this
        rw [hrun, if_neg (by simp)] at hsv
        have hq2 : frep = true → nb = true → ((rw_ : Int) == 2) = false := fun a b => by
         have : rw_ ≠ 2 := fun e => hR ⟨a, b, e⟩
         simp; omega
        have hm : (cv = 0 ∧ wv = (rw_ : Int) ∧ v = ⟨⟨rn, rw_, rf, ra, rt⟩, k, false⟩ ∧ C = 0) ∨ (cv = 0 ∧ (wv == (rw_ : Int)) = false ∧ v = ViewD.zero ∧ C = 6) ∨ (cv = 2 ∧ v = ViewD.zero ∧ C = 6) := by
         rcases hwc with ⟨a1, a2, a3⟩ | ⟨a1, a2⟩
         · rw [a1, ← a2] at hsv
           by_cases e : wv = (rw_ : Int)
           · rw [if_pos ⟨rfl, e⟩] at hsv
             exact .inl ⟨a3, e, (Prod.mk.inj hsv).1.symm, (Prod.mk.inj hsv).2.symm⟩
           · rw [if_neg (fun h => e h.2)] at hsv
             exact .inr (.inl ⟨a3, by rw [beq_eq_false_iff_ne]; exact e, (Prod.mk.inj hsv).1.symm, (Prod.mk.inj hsv).2.symm⟩)
         · rw [a1, if_neg (by simp)] at hsv
           exact .inr (.inr ⟨a2, (Prod.mk.inj hsv).1.symm, (Prod.mk.inj hsv).2.symm⟩)
        clear hsv hrun hR hnb hkind hwc
        rcases frep with _ | _
        · clear hq2
          rcases hm with ⟨rfl, rfl, rfl, rfl⟩ | ⟨rfl, qw, rfl, rfl⟩ | ⟨rfl, rfl, rfl⟩
          · go_wp2_with (first
         | (go_at_call 90; refine (Kw.out _).mono ?_; rintro e w6 ⟨rfl, E6⟩; replace E6 := Ext.trans (Ext.alloc (Ext.refl _) _) E6; have k0 : w6.cell? ⟨g, 0, none⟩ = some (.int .i64 (rn : Int)) := E6.of_cell (by simp [go_sem, c0]); have k1 : w6.cell? ⟨g, 1, none⟩ = some (.int .i64 (rw_ : Int)) := E6.of_cell (by simp [go_sem, c1]); have k2 : w6.cell? ⟨g, 2, none⟩ = some (.int .i64 (rf : Int)) := E6.of_cell (by simp [go_sem, c2]); have k3 : w6.cell? ⟨g, 3, none⟩ = some (.int .i64 (ra : Int)) := E6.of_cell (by simp [go_sem, c3]); have k4 : w6.cell? ⟨g, 4, none⟩ = some (.int .i64 (rt : Int)) := E6.of_cell (by simp [go_sem, c4]); have k5 : w6.cell? ⟨g, 5, none⟩ = some (.int .i64 (k : Int)) := E6.of_cell (by simp [go_sem, c5]); have k6 : w6.cell? ⟨g, 6, none⟩ = some (.bool false) := E6.of_cell (by simp [go_sem, c6]); have r6 : w6.cell? ⟨w1.heap.size, 1, none⟩ = some (.int .i64 (rw_ : Int)) := E6.of_cell (by simp [go_sem, r1]); have hE6 : Ext w w6 := Ext.trans (by repeat with_reducible (first | exact hEc | exact Ext.refl _ | refine Ext.alloc ?_ _ | refine Ext.drew ?_ | refine Ext.drewN ?_ _ | refine Ext.setCell ?_ (by first | omega | (simp <;> omega)) _)) E6; have e6 : ∀ i, w6.cell? ⟨w.heap.size + 1, i, none⟩ = _ := fun i => (E6.cell (p := ⟨w.heap.size + 1, i, none⟩) (by simp [go_sem]; omega)).trans ((show _ = _ by simp [go_sem]).trans (e1 i)); have e7 : ∀ i, w6.frozen? ⟨w.heap.size + 1, i, none⟩ = false := fun i => (E6.frozen (p := ⟨w.heap.size + 1, i, none⟩) (by simp [go_sem]; omega)).trans ((show _ = _ by simp [go_sem]).trans (e2 i))))
            exact bodyPost_ret (v := .tuple #[viewV ⟨⟨rn, rw_, rf, ra, rt⟩, k, false⟩, .int .u8 0]) (by simp [results, Tryz.results151, go_sem, viewV, e6]) rfl ⟨rfl, (by repeat with_reducible (first | exact hE6 | exact Ext.refl _ | refine Ext.alloc ?_ _ | refine Ext.drew ?_ | refine Ext.drewN ?_ _ | refine Ext.setCell ?_ (by first | omega | (simp <;> omega)) _))⟩
          · go_wp2_with (first
         | (go_at_call 90; refine (Kw.out _).mono ?_; rintro e w6 ⟨rfl, E6⟩; replace E6 := Ext.trans (Ext.alloc (Ext.refl _) _) E6; have k0 : w6.cell? ⟨g, 0, none⟩ = some (.int .i64 (rn : Int)) := E6.of_cell (by simp [go_sem, c0]); have k1 : w6.cell? ⟨g, 1, none⟩ = some (.int .i64 (rw_ : Int)) := E6.of_cell (by simp [go_sem, c1]); have k2 : w6.cell? ⟨g, 2, none⟩ = some (.int .i64 (rf : Int)) := E6.of_cell (by simp [go_sem, c2]); have k3 : w6.cell? ⟨g, 3, none⟩ = some (.int .i64 (ra : Int)) := E6.of_cell (by simp [go_sem, c3]); have k4 : w6.cell? ⟨g, 4, none⟩ = some (.int .i64 (rt : Int)) := E6.of_cell (by simp [go_sem, c4]); have k5 : w6.cell? ⟨g, 5, none⟩ = some (.int .i64 (k : Int)) := E6.of_cell (by simp [go_sem, c5]); have k6 : w6.cell? ⟨g, 6, none⟩ = some (.bool false) := E6.of_cell (by simp [go_sem, c6]); have r6 : w6.cell? ⟨w1.heap.size, 1, none⟩ = some (.int .i64 (rw_ : Int)) := E6.of_cell (by simp [go_sem, r1]); have hE6 : Ext w w6 := Ext.trans (by repeat with_reducible (first | exact hEc | exact Ext.refl _ | refine Ext.alloc ?_ _ | refine Ext.drew ?_ | refine Ext.drewN ?_ _ | refine Ext.setCell ?_ (by first | omega | (simp <;> omega)) _)) E6; have e6 : ∀ i, w6.cell? ⟨w.heap.size + 1, i, none⟩ = _ := fun i => (E6.cell (p := ⟨w.heap.size + 1, i, none⟩) (by simp [go_sem]; omega)).trans ((show _ = _ by simp [go_sem]).trans (e1 i)); have e7 : ∀ i, w6.frozen? ⟨w.heap.size + 1, i, none⟩ = false := fun i => (E6.frozen (p := ⟨w.heap.size + 1, i, none⟩) (by simp [go_sem]; omega)).trans ((show _ = _ by simp [go_sem]).trans (e2 i))))
            exact bodyPost_ret (v := .tuple #[viewV ViewD.zero, .int .u8 6]) (by simp [results, Tryz.results151, go_sem, viewV, ViewD.zero, Rec.zero, e6]) rfl ⟨rfl, (by repeat with_reducible (first | exact hE6 | exact Ext.refl _ | refine Ext.alloc ?_ _ | refine Ext.drew ?_ | refine Ext.drewN ?_ _ | refine Ext.setCell ?_ (by first | omega | (simp <;> omega)) _))⟩
          · go_wp2_with (first
         | (go_at_call 90; refine (Kw.out _).mono ?_; rintro e w6 ⟨rfl, E6⟩; replace E6 := Ext.trans (Ext.alloc (Ext.refl _) _) E6; have k0 : w6.cell? ⟨g, 0, none⟩ = some (.int .i64 (rn : Int)) := E6.of_cell (by simp [go_sem, c0]); have k1 : w6.cell? ⟨g, 1, none⟩ = some (.int .i64 (rw_ : Int)) := E6.of_cell (by simp [go_sem, c1]); have k2 : w6.cell? ⟨g, 2, none⟩ = some (.int .i64 (rf : Int)) := E6.of_cell (by simp [go_sem, c2]); have k3 : w6.cell? ⟨g, 3, none⟩ = some (.int .i64 (ra : Int)) := E6.of_cell (by simp [go_sem, c3]); have k4 : w6.cell? ⟨g, 4, none⟩ = some (.int .i64 (rt : Int)) := E6.of_cell (by simp [go_sem, c4]); have k5 : w6.cell? ⟨g, 5, none⟩ = some (.int .i64 (k : Int)) := E6.of_cell (by simp [go_sem, c5]); have k6 : w6.cell? ⟨g, 6, none⟩ = some (.bool false) := E6.of_cell (by simp [go_sem, c6]); have r6 : w6.cell? ⟨w1.heap.size, 1, none⟩ = some (.int .i64 (rw_ : Int)) := E6.of_cell (by simp [go_sem, r1]); have hE6 : Ext w w6 := Ext.trans (by repeat with_reducible (first | exact hEc | exact Ext.refl _ | refine Ext.alloc ?_ _ | refine Ext.drew ?_ | refine Ext.drewN ?_ _ | refine Ext.setCell ?_ (by first | omega | (simp <;> omega)) _)) E6; have e6 : ∀ i, w6.cell? ⟨w.heap.size + 1, i, none⟩ = _ := fun i => (E6.cell (p := ⟨w.heap.size + 1, i, none⟩) (by simp [go_sem]; omega)).trans ((show _ = _ by simp [go_sem]).trans (e1 i)); have e7 : ∀ i, w6.frozen? ⟨w.heap.size + 1, i, none⟩ = false := fun i => (E6.frozen (p := ⟨w.heap.size + 1, i, none⟩) (by simp [go_sem]; omega)).trans ((show _ = _ by simp [go_sem]).trans (e2 i))))
            exact bodyPost_ret (v := .tuple #[viewV ViewD.zero, .int .u8 6]) (by simp [results, Tryz.results151, go_sem, viewV, ViewD.zero, Rec.zero, e6]) rfl ⟨rfl, (by repeat with_reducible (first | exact hE6 | exact Ext.refl _ | refine Ext.alloc ?_ _ | refine Ext.drew ?_ | refine Ext.drewN ?_ _ | refine Ext.setCell ?_ (by first | omega | (simp <;> omega)) _))⟩
        · rcases nb with _ | _
          · clear hq2
            rcases hm with ⟨rfl, rfl, rfl, rfl⟩ | ⟨rfl, qw, rfl, rfl⟩ | ⟨rfl, rfl, rfl⟩
            · go_wp2_with (first
         | (go_at_call 62; refine (Kn.out _).mono ?_; rintro e w5 ⟨rfl, E5⟩; have D5 := E5.new_blk; have d2' : w5.cell? ⟨wc.heap.size, 2, none⟩ = some (.int .i64 fk) := D5.cell 2; have l5 := D5.lt; clear D5; have X_ : Ext wc w5 := Ext.trans (by repeat with_reducible (first | exact Ext.refl _ | refine Ext.alloc ?_ _ | refine Ext.drew ?_ | refine Ext.drewN ?_ _ | refine Ext.setCell ?_ (by first | omega | (simp <;> omega)) _)) E5; replace hEc := hEc.up X_; have X5 := X_; clear X_; clear E5;  replace r1 := X5.of_cell r1;  replace c0 := X5.of_cell c0;  replace c1 := X5.of_cell c1;  replace c2 := X5.of_cell c2;  replace c3 := X5.of_cell c3;  replace c4 := X5.of_cell c4;  replace c5 := X5.of_cell c5;  replace c6 := X5.of_cell c6;  replace fz : w5.frozen? ⟨g, 6, none⟩ = false := (X5.frozen (p := ⟨g, 6, none⟩) h2).trans fz;  replace e1 : ∀ i, w5.cell? ⟨w.heap.size + 1, i, none⟩ = _ := fun i => (X5.cell (p := ⟨w.heap.size + 1, i, none⟩) hg1).trans (e1 i);  replace e2 : ∀ i, w5.frozen? ⟨w.heap.size + 1, i, none⟩ = false := fun i => (X5.frozen (p := ⟨w.heap.size + 1, i, none⟩) hg1).trans (e2 i))
         | (go_at_call 90; refine (Kw.out _).mono ?_; rintro e w6 ⟨rfl, E6⟩; have k0 : w6.cell? ⟨g, 0, none⟩ = some (.int .i64 (rn : Int)) := E6.of_cell (by simp [go_sem, c0]); have k1 : w6.cell? ⟨g, 1, none⟩ = some (.int .i64 (rw_ : Int)) := E6.of_cell (by simp [go_sem, c1]); have k2 : w6.cell? ⟨g, 2, none⟩ = some (.int .i64 (rf : Int)) := E6.of_cell (by simp [go_sem, c2]); have k3 : w6.cell? ⟨g, 3, none⟩ = some (.int .i64 (ra : Int)) := E6.of_cell (by simp [go_sem, c3]); have k4 : w6.cell? ⟨g, 4, none⟩ = some (.int .i64 (rt : Int)) := E6.of_cell (by simp [go_sem, c4]); have k5 : w6.cell? ⟨g, 5, none⟩ = some (.int .i64 (k : Int)) := E6.of_cell (by simp [go_sem, c5]); have k6 : w6.cell? ⟨g, 6, none⟩ = some (.bool false) := E6.of_cell (by simp [go_sem, c6]); have r6 : w6.cell? ⟨w1.heap.size, 1, none⟩ = some (.int .i64 (rw_ : Int)) := E6.of_cell (by simp [go_sem, r1]); have hE6 : Ext w w6 := Ext.trans (by repeat with_reducible (first | exact hEc | exact Ext.refl _ | refine Ext.alloc ?_ _ | refine Ext.drew ?_ | refine Ext.drewN ?_ _ | refine Ext.setCell ?_ (by first | omega | (simp <;> omega)) _)) E6; have e6 : ∀ i, w6.cell? ⟨w.heap.size + 1, i, none⟩ = _ := fun i => (E6.cell (p := ⟨w.heap.size + 1, i, none⟩) (by simp [go_sem]; omega)).trans ((show _ = _ by simp [go_sem]).trans (e1 i)); have e7 : ∀ i, w6.frozen? ⟨w.heap.size + 1, i, none⟩ = false := fun i => (E6.frozen (p := ⟨w.heap.size + 1, i, none⟩) (by simp [go_sem]; omega)).trans ((show _ = _ by simp [go_sem]).trans (e2 i))))
              exact bodyPost_ret (v := .tuple #[viewV ⟨⟨rn, rw_, rf, ra, rt⟩, k, false⟩, .int .u8 0]) (by simp [results, Tryz.results151, go_sem, viewV, e6]) rfl ⟨rfl, (by repeat with_reducible (first | exact hE6 | exact Ext.refl _ | refine Ext.alloc ?_ _ | refine Ext.drew ?_ | refine Ext.drewN ?_ _ | refine Ext.setCell ?_ (by first | omega | (simp <;> omega)) _))⟩
            · go_wp2_with (first
         | (go_at_call 62; refine (Kn.out _).mono ?_; rintro e w5 ⟨rfl, E5⟩; have D5 := E5.new_blk; have d2' : w5.cell? ⟨wc.heap.size, 2, none⟩ = some (.int .i64 fk) := D5.cell 2; have l5 := D5.lt; clear D5; have X_ : Ext wc w5 := Ext.trans (by repeat with_reducible (first | exact Ext.refl _ | refine Ext.alloc ?_ _ | refine Ext.drew ?_ | refine Ext.drewN ?_ _ | refine Ext.setCell ?_ (by first | omega | (simp <;> omega)) _)) E5; replace hEc := hEc.up X_; have X5 := X_; clear X_; clear E5;  replace r1 := X5.of_cell r1;  replace c0 := X5.of_cell c0;  replace c1 := X5.of_cell c1;  replace c2 := X5.of_cell c2;  replace c3 := X5.of_cell c3;  replace c4 := X5.of_cell c4;  replace c5 := X5.of_cell c5;  replace c6 := X5.of_cell c6;  replace fz : w5.frozen? ⟨g, 6, none⟩ = false := (X5.frozen (p := ⟨g, 6, none⟩) h2).trans fz;  replace e1 : ∀ i, w5.cell? ⟨w.heap.size + 1, i, none⟩ = _ := fun i => (X5.cell (p := ⟨w.heap.size + 1, i, none⟩) hg1).trans (e1 i);  replace e2 : ∀ i, w5.frozen? ⟨w.heap.size + 1, i, none⟩ = false := fun i => (X5.frozen (p := ⟨w.heap.size + 1, i, none⟩) hg1).trans (e2 i))
         | (go_at_call 90; refine (Kw.out _).mono ?_; rintro e w6 ⟨rfl, E6⟩; have k0 : w6.cell? ⟨g, 0, none⟩ = some (.int .i64 (rn : Int)) := E6.of_cell (by simp [go_sem, c0]); have k1 : w6.cell? ⟨g, 1, none⟩ = some (.int .i64 (rw_ : Int)) := E6.of_cell (by simp [go_sem, c1]); have k2 : w6.cell? ⟨g, 2, none⟩ = some (.int .i64 (rf : Int)) := E6.of_cell (by simp [go_sem, c2]); have k3 : w6.cell? ⟨g, 3, none⟩ = some (.int .i64 (ra : Int)) := E6.of_cell (by simp [go_sem, c3]); have k4 : w6.cell? ⟨g, 4, none⟩ = some (.int .i64 (rt : Int)) := E6.of_cell (by simp [go_sem, c4]); have k5 : w6.cell? ⟨g, 5, none⟩ = some (.int .i64 (k : Int)) := E6.of_cell (by simp [go_sem, c5]); have k6 : w6.cell? ⟨g, 6, none⟩ = some (.bool false) := E6.of_cell (by simp [go_sem, c6]); have r6 : w6.cell? ⟨w1.heap.size, 1, none⟩ = some (.int .i64 (rw_ : Int)) := E6.of_cell (by simp [go_sem, r1]); have hE6 : Ext w w6 := Ext.trans (by repeat with_reducible (first | exact hEc | exact Ext.refl _ | refine Ext.alloc ?_ _ | refine Ext.drew ?_ | refine Ext.drewN ?_ _ | refine Ext.setCell ?_ (by first | omega | (simp <;> omega)) _)) E6; have e6 : ∀ i, w6.cell? ⟨w.heap.size + 1, i, none⟩ = _ := fun i => (E6.cell (p := ⟨w.heap.size + 1, i, none⟩) (by simp [go_sem]; omega)).trans ((show _ = _ by simp [go_sem]).trans (e1 i)); have e7 : ∀ i, w6.frozen? ⟨w.heap.size + 1, i, none⟩ = false := fun i => (E6.frozen (p := ⟨w.heap.size + 1, i, none⟩) (by simp [go_sem]; omega)).trans ((show _ = _ by simp [go_sem]).trans (e2 i))))
              exact bodyPost_ret (v := .tuple #[viewV ViewD.zero, .int .u8 6]) (by simp [results, Tryz.results151, go_sem, viewV, ViewD.zero, Rec.zero, e6]) rfl ⟨rfl, (by repeat with_reducible (first | exact hE6 | exact Ext.refl _ | refine Ext.alloc ?_ _ | refine Ext.drew ?_ | refine Ext.drewN ?_ _ | refine Ext.setCell ?_ (by first | omega | (simp <;> omega)) _))⟩
            · go_wp2_with (first
         | (go_at_call 62; refine (Kn.out _).mono ?_; rintro e w5 ⟨rfl, E5⟩; have D5 := E5.new_blk; have d2' : w5.cell? ⟨wc.heap.size, 2, none⟩ = some (.int .i64 fk) := D5.cell 2; have l5 := D5.lt; clear D5; have X_ : Ext wc w5 := Ext.trans (by repeat with_reducible (first | exact Ext.refl _ | refine Ext.alloc ?_ _ | refine Ext.drew ?_ | refine Ext.drewN ?_ _ | refine Ext.setCell ?_ (by first | omega | (simp <;> omega)) _)) E5; replace hEc := hEc.up X_; have X5 := X_; clear X_; clear E5;  replace r1 := X5.of_cell r1;  replace c0 := X5.of_cell c0;  replace c1 := X5.of_cell c1;  replace c2 := X5.of_cell c2;  replace c3 := X5.of_cell c3;  replace c4 := X5.of_cell c4;  replace c5 := X5.of_cell c5;  replace c6 := X5.of_cell c6;  replace fz : w5.frozen? ⟨g, 6, none⟩ = false := (X5.frozen (p := ⟨g, 6, none⟩) h2).trans fz;  replace e1 : ∀ i, w5.cell? ⟨w.heap.size + 1, i, none⟩ = _ := fun i => (X5.cell (p := ⟨w.heap.size + 1, i, none⟩) hg1).trans (e1 i);  replace e2 : ∀ i, w5.frozen? ⟨w.heap.size + 1, i, none⟩ = false := fun i => (X5.frozen (p := ⟨w.heap.size + 1, i, none⟩) hg1).trans (e2 i))
         | (go_at_call 90; refine (Kw.out _).mono ?_; rintro e w6 ⟨rfl, E6⟩; have k0 : w6.cell? ⟨g, 0, none⟩ = some (.int .i64 (rn : Int)) := E6.of_cell (by simp [go_sem, c0]); have k1 : w6.cell? ⟨g, 1, none⟩ = some (.int .i64 (rw_ : Int)) := E6.of_cell (by simp [go_sem, c1]); have k2 : w6.cell? ⟨g, 2, none⟩ = some (.int .i64 (rf : Int)) := E6.of_cell (by simp [go_sem, c2]); have k3 : w6.cell? ⟨g, 3, none⟩ = some (.int .i64 (ra : Int)) := E6.of_cell (by simp [go_sem, c3]); have k4 : w6.cell? ⟨g, 4, none⟩ = some (.int .i64 (rt : Int)) := E6.of_cell (by simp [go_sem, c4]); have k5 : w6.cell? ⟨g, 5, none⟩ = some (.int .i64 (k : Int)) := E6.of_cell (by simp [go_sem, c5]); have k6 : w6.cell? ⟨g, 6, none⟩ = some (.bool false) := E6.of_cell (by simp [go_sem, c6]); have r6 : w6.cell? ⟨w1.heap.size, 1, none⟩ = some (.int .i64 (rw_ : Int)) := E6.of_cell (by simp [go_sem, r1]); have hE6 : Ext w w6 := Ext.trans (by repeat with_reducible (first | exact hEc | exact Ext.refl _ | refine Ext.alloc ?_ _ | refine Ext.drew ?_ | refine Ext.drewN ?_ _ | refine Ext.setCell ?_ (by first | omega | (simp <;> omega)) _)) E6; have e6 : ∀ i, w6.cell? ⟨w.heap.size + 1, i, none⟩ = _ := fun i => (E6.cell (p := ⟨w.heap.size + 1, i, none⟩) (by simp [go_sem]; omega)).trans ((show _ = _ by simp [go_sem]).trans (e1 i)); have e7 : ∀ i, w6.frozen? ⟨w.heap.size + 1, i, none⟩ = false := fun i => (E6.frozen (p := ⟨w.heap.size + 1, i, none⟩) (by simp [go_sem]; omega)).trans ((show _ = _ by simp [go_sem]).trans (e2 i))))
              exact bodyPost_ret (v := .tuple #[viewV ViewD.zero, .int .u8 6]) (by simp [results, Tryz.results151, go_sem, viewV, ViewD.zero, Rec.zero, e6]) rfl ⟨rfl, (by repeat with_reducible (first | exact hE6 | exact Ext.refl _ | refine Ext.alloc ?_ _ | refine Ext.drew ?_ | refine Ext.drewN ?_ _ | refine Ext.setCell ?_ (by first | omega | (simp <;> omega)) _))⟩
          · have q2 := hq2 rfl rfl
            clear hq2
            rcases hm with ⟨rfl, rfl, rfl, rfl⟩ | ⟨rfl, qw, rfl, rfl⟩ | ⟨rfl, rfl, rfl⟩
            · go_wp2_with (first
         | (go_at_call 62; refine (Kn.out _).mono ?_; rintro e w5 ⟨rfl, E5⟩; have D5 := E5.new_blk; have d2' : w5.cell? ⟨wc.heap.size, 2, none⟩ = some (.int .i64 fk) := D5.cell 2; have l5 := D5.lt; clear D5; have X_ : Ext wc w5 := Ext.trans (by repeat with_reducible (first | exact Ext.refl _ | refine Ext.alloc ?_ _ | refine Ext.drew ?_ | refine Ext.drewN ?_ _ | refine Ext.setCell ?_ (by first | omega | (simp <;> omega)) _)) E5; replace hEc := hEc.up X_; have X5 := X_; clear X_; clear E5;  replace r1 := X5.of_cell r1;  replace c0 := X5.of_cell c0;  replace c1 := X5.of_cell c1;  replace c2 := X5.of_cell c2;  replace c3 := X5.of_cell c3;  replace c4 := X5.of_cell c4;  replace c5 := X5.of_cell c5;  replace c6 := X5.of_cell c6;  replace fz : w5.frozen? ⟨g, 6, none⟩ = false := (X5.frozen (p := ⟨g, 6, none⟩) h2).trans fz;  replace e1 : ∀ i, w5.cell? ⟨w.heap.size + 1, i, none⟩ = _ := fun i => (X5.cell (p := ⟨w.heap.size + 1, i, none⟩) hg1).trans (e1 i);  replace e2 : ∀ i, w5.frozen? ⟨w.heap.size + 1, i, none⟩ = false := fun i => (X5.frozen (p := ⟨w.heap.size + 1, i, none⟩) hg1).trans (e2 i))
         | (go_at_call 90; refine (Kw.out _).mono ?_; rintro e w6 ⟨rfl, E6⟩; have k0 : w6.cell? ⟨g, 0, none⟩ = some (.int .i64 (rn : Int)) := E6.of_cell (by simp [go_sem, c0]); have k1 : w6.cell? ⟨g, 1, none⟩ = some (.int .i64 (rw_ : Int)) := E6.of_cell (by simp [go_sem, c1]); have k2 : w6.cell? ⟨g, 2, none⟩ = some (.int .i64 (rf : Int)) := E6.of_cell (by simp [go_sem, c2]); have k3 : w6.cell? ⟨g, 3, none⟩ = some (.int .i64 (ra : Int)) := E6.of_cell (by simp [go_sem, c3]); have k4 : w6.cell? ⟨g, 4, none⟩ = some (.int .i64 (rt : Int)) := E6.of_cell (by simp [go_sem, c4]); have k5 : w6.cell? ⟨g, 5, none⟩ = some (.int .i64 (k : Int)) := E6.of_cell (by simp [go_sem, c5]); have k6 : w6.cell? ⟨g, 6, none⟩ = some (.bool false) := E6.of_cell (by simp [go_sem, c6]); have r6 : w6.cell? ⟨w1.heap.size, 1, none⟩ = some (.int .i64 (rw_ : Int)) := E6.of_cell (by simp [go_sem, r1]); have hE6 : Ext w w6 := Ext.trans (by repeat with_reducible (first | exact hEc | exact Ext.refl _ | refine Ext.alloc ?_ _ | refine Ext.drew ?_ | refine Ext.drewN ?_ _ | refine Ext.setCell ?_ (by first | omega | (simp <;> omega)) _)) E6; have e6 : ∀ i, w6.cell? ⟨w.heap.size + 1, i, none⟩ = _ := fun i => (E6.cell (p := ⟨w.heap.size + 1, i, none⟩) (by simp [go_sem]; omega)).trans ((show _ = _ by simp [go_sem]).trans (e1 i)); have e7 : ∀ i, w6.frozen? ⟨w.heap.size + 1, i, none⟩ = false := fun i => (E6.frozen (p := ⟨w.heap.size + 1, i, none⟩) (by simp [go_sem]; omega)).trans ((show _ = _ by simp [go_sem]).trans (e2 i))))
              exact bodyPost_ret (v := .tuple #[viewV ⟨⟨rn, rw_, rf, ra, rt⟩, k, false⟩, .int .u8 0]) (by simp [results, Tryz.results151, go_sem, viewV, e6]) rfl ⟨rfl, (by repeat with_reducible (first | exact hE6 | exact Ext.refl _ | refine Ext.alloc ?_ _ | refine Ext.drew ?_ | refine Ext.drewN ?_ _ | refine Ext.setCell ?_ (by first | omega | (simp <;> omega)) _))⟩
            · go_wp2_with (first
         | (go_at_call 62; refine (Kn.out _).mono ?_; rintro e w5 ⟨rfl, E5⟩; have D5 := E5.new_blk; have d2' : w5.cell? ⟨wc.heap.size, 2, none⟩ = some (.int .i64 fk) := D5.cell 2; have l5 := D5.lt; clear D5; have X_ : Ext wc w5 := Ext.trans (by repeat with_reducible (first | exact Ext.refl _ | refine Ext.alloc ?_ _ | refine Ext.drew ?_ | refine Ext.drewN ?_ _ | refine Ext.setCell ?_ (by first | omega | (simp <;> omega)) _)) E5; replace hEc := hEc.up X_; have X5 := X_; clear X_; clear E5;  replace r1 := X5.of_cell r1;  replace c0 := X5.of_cell c0;  replace c1 := X5.of_cell c1;  replace c2 := X5.of_cell c2;  replace c3 := X5.of_cell c3;  replace c4 := X5.of_cell c4;  replace c5 := X5.of_cell c5;  replace c6 := X5.of_cell c6;  replace fz : w5.frozen? ⟨g, 6, none⟩ = false := (X5.frozen (p := ⟨g, 6, none⟩) h2).trans fz;  replace e1 : ∀ i, w5.cell? ⟨w.heap.size + 1, i, none⟩ = _ := fun i => (X5.cell (p := ⟨w.heap.size + 1, i, none⟩) hg1).trans (e1 i);  replace e2 : ∀ i, w5.frozen? ⟨w.heap.size + 1, i, none⟩ = false := fun i => (X5.frozen (p := ⟨w.heap.size + 1, i, none⟩) hg1).trans (e2 i))
         | (go_at_call 90; refine (Kw.out _).mono ?_; rintro e w6 ⟨rfl, E6⟩; have k0 : w6.cell? ⟨g, 0, none⟩ = some (.int .i64 (rn : Int)) := E6.of_cell (by simp [go_sem, c0]); have k1 : w6.cell? ⟨g, 1, none⟩ = some (.int .i64 (rw_ : Int)) := E6.of_cell (by simp [go_sem, c1]); have k2 : w6.cell? ⟨g, 2, none⟩ = some (.int .i64 (rf : Int)) := E6.of_cell (by simp [go_sem, c2]); have k3 : w6.cell? ⟨g, 3, none⟩ = some (.int .i64 (ra : Int)) := E6.of_cell (by simp [go_sem, c3]); have k4 : w6.cell? ⟨g, 4, none⟩ = some (.int .i64 (rt : Int)) := E6.of_cell (by simp [go_sem, c4]); have k5 : w6.cell? ⟨g, 5, none⟩ = some (.int .i64 (k : Int)) := E6.of_cell (by simp [go_sem, c5]); have k6 : w6.cell? ⟨g, 6, none⟩ = some (.bool false) := E6.of_cell (by simp [go_sem, c6]); have r6 : w6.cell? ⟨w1.heap.size, 1, none⟩ = some (.int .i64 (rw_ : Int)) := E6.of_cell (by simp [go_sem, r1]); have hE6 : Ext w w6 := Ext.trans (by repeat with_reducible (first | exact hEc | exact Ext.refl _ | refine Ext.alloc ?_ _ | refine Ext.drew ?_ | refine Ext.drewN ?_ _ | refine Ext.setCell ?_ (by first | omega | (simp <;> omega)) _)) E6; have e6 : ∀ i, w6.cell? ⟨w.heap.size + 1, i, none⟩ = _ := fun i => (E6.cell (p := ⟨w.heap.size + 1, i, none⟩) (by simp [go_sem]; omega)).trans ((show _ = _ by simp [go_sem]).trans (e1 i)); have e7 : ∀ i, w6.frozen? ⟨w.heap.size + 1, i, none⟩ = false := fun i => (E6.frozen (p := ⟨w.heap.size + 1, i, none⟩) (by simp [go_sem]; omega)).trans ((show _ = _ by simp [go_sem]).trans (e2 i))))
              exact bodyPost_ret (v := .tuple #[viewV ViewD.zero, .int .u8 6]) (by simp [results, Tryz.results151, go_sem, viewV, ViewD.zero, Rec.zero, e6]) rfl ⟨rfl, (by repeat with_reducible (first | exact hE6 | exact Ext.refl _ | refine Ext.alloc ?_ _ | refine Ext.drew ?_ | refine Ext.drewN ?_ _ | refine Ext.setCell ?_ (by first | omega | (simp <;> omega)) _))⟩
            · go_wp2_with (first
         | (go_at_call 62; refine (Kn.out _).mono ?_; rintro e w5 ⟨rfl, E5⟩; have D5 := E5.new_blk; have d2' : w5.cell? ⟨wc.heap.size, 2, none⟩ = some (.int .i64 fk) := D5.cell 2; have l5 := D5.lt; clear D5; have X_ : Ext wc w5 := Ext.trans (by repeat with_reducible (first | exact Ext.refl _ | refine Ext.alloc ?_ _ | refine Ext.drew ?_ | refine Ext.drewN ?_ _ | refine Ext.setCell ?_ (by first | omega | (simp <;> omega)) _)) E5; replace hEc := hEc.up X_; have X5 := X_; clear X_; clear E5;  replace r1 := X5.of_cell r1;  replace c0 := X5.of_cell c0;  replace c1 := X5.of_cell c1;  replace c2 := X5.of_cell c2;  replace c3 := X5.of_cell c3;  replace c4 := X5.of_cell c4;  replace c5 := X5.of_cell c5;  replace c6 := X5.of_cell c6;  replace fz : w5.frozen? ⟨g, 6, none⟩ = false := (X5.frozen (p := ⟨g, 6, none⟩) h2).trans fz;  replace e1 : ∀ i, w5.cell? ⟨w.heap.size + 1, i, none⟩ = _ := fun i => (X5.cell (p := ⟨w.heap.size + 1, i, none⟩) hg1).trans (e1 i);  replace e2 : ∀ i, w5.frozen? ⟨w.heap.size + 1, i, none⟩ = false := fun i => (X5.frozen (p := ⟨w.heap.size + 1, i, none⟩) hg1).trans (e2 i))
         | (go_at_call 90; refine (Kw.out _).mono ?_; rintro e w6 ⟨rfl, E6⟩; have k0 : w6.cell? ⟨g, 0, none⟩ = some (.int .i64 (rn : Int)) := E6.of_cell (by simp [go_sem, c0]); have k1 : w6.cell? ⟨g, 1, none⟩ = some (.int .i64 (rw_ : Int)) := E6.of_cell (by simp [go_sem, c1]); have k2 : w6.cell? ⟨g, 2, none⟩ = some (.int .i64 (rf : Int)) := E6.of_cell (by simp [go_sem, c2]); have k3 : w6.cell? ⟨g, 3, none⟩ = some (.int .i64 (ra : Int)) := E6.of_cell (by simp [go_sem, c3]); have k4 : w6.cell? ⟨g, 4, none⟩ = some (.int .i64 (rt : Int)) := E6.of_cell (by simp [go_sem, c4]); have k5 : w6.cell? ⟨g, 5, none⟩ = some (.int .i64 (k : Int)) := E6.of_cell (by simp [go_sem, c5]); have k6 : w6.cell? ⟨g, 6, none⟩ = some (.bool false) := E6.of_cell (by simp [go_sem, c6]); have r6 : w6.cell? ⟨w1.heap.size, 1, none⟩ = some (.int .i64 (rw_ : Int)) := E6.of_cell (by simp [go_sem, r1]); have hE6 : Ext w w6 := Ext.trans (by repeat with_reducible (first | exact hEc | exact Ext.refl _ | refine Ext.alloc ?_ _ | refine Ext.drew ?_ | refine Ext.drewN ?_ _ | refine Ext.setCell ?_ (by first | omega | (simp <;> omega)) _)) E6; have e6 : ∀ i, w6.cell? ⟨w.heap.size + 1, i, none⟩ = _ := fun i => (E6.cell (p := ⟨w.heap.size + 1, i, none⟩) (by simp [go_sem]; omega)).trans ((show _ = _ by simp [go_sem]).trans (e1 i)); have e7 : ∀ i, w6.frozen? ⟨w.heap.size + 1, i, none⟩ = false := fun i => (E6.frozen (p := ⟨w.heap.size + 1, i, none⟩) (by simp [go_sem]; omega)).trans ((show _ = _ by simp [go_sem]).trans (e2 i))))
              exact bodyPost_ret (v := .tuple #[viewV ViewD.zero, .int .u8 6]) (by simp [results, Tryz.results151, go_sem, viewV, ViewD.zero, Rec.zero, e6]) rfl ⟨rfl, (by repeat with_reducible (first | exact hE6 | exact Ext.refl _ | refine Ext.alloc ?_ _ | refine Ext.drew ?_ | refine Ext.drewN ?_ _ | refine Ext.setCell ?_ (by first | omega | (simp <;> omega)) _))⟩
 · have q : ((K : Int) != 0) = true := by simp; omega
   rw [if_neg hK] at h
   obtain ⟨rfl, hKC⟩ := Prod.mk.inj h
   obtain rfl : K = C := hKC
   go_enter Tryz.func151, Tryz.ntmps151
   go_wp2_with (go_at_call 189; refine (rNextI' (hb.up (by repeat with_reducible (first | exact Ext.refl _ | refine Ext.alloc ?_ _ | refine Ext.drew ?_ | refine Ext.drewN ?_ _ | refine Ext.setCell ?_ (by first | omega | (simp <;> omega)) _))) hm Hx.out).mono ?_; rintro e w1 ⟨rfl, E1⟩; unfold recV; have B1 := two_blocks E1; have f1 := B1.2.1; have f2 := B1.2.2.2.1; have f3 : w.heap.size + 1 < w1.heap.size := (by have := B1.2.2.2.2; omega); have X_ : Ext w w1 := Ext.trans (by repeat with_reducible (first | exact Ext.refl _ | refine Ext.alloc ?_ _ | refine Ext.drew ?_ | refine Ext.drewN ?_ _ | refine Ext.setCell ?_ (by first | omega | (simp <;> omega)) _)) E1; replace hE := hE.up X_; clear X_)
   exact bodyPost_ret (v := .tuple #[viewV ViewD.zero, .int .u8 K]) (by simp [results, Tryz.results151, go_sem, viewV, ViewD.zero, Rec.zero, f1, f3]) rfl ⟨rfl, (by repeat with_reducible (first | exact hE | exact Ext.refl _ | refine Ext.alloc ?_ _ | refine Ext.drew ?_ | refine Ext.drewN ?_ _ | refine Ext.setCell ?_ (by first | omega | (simp <;> omega)) _))⟩

end Go.Proofs.YtnnphodgegcddaaGreat

/- Contracts of layer 10: the view of a record, as the reference has it. -/
namespace Go.Proofs.YtnnphodgegcddaaGreat
open Go.RowKit Go.Shelf
set_option linter.unusedVariables false

theorem rNextRI' {A : Option Addr} {n c : Nat} {p : Int} {bs : List UInt8} {w : World} {r : Rec} {C : Nat} (hb : BytesAt w A n c bs) (hn : n ≤ 1000000000000) (h : nextI bs p = (r, C)) :
  Calls Tryz.prog 129 #[.slice A n c, .int .i64 p] w fun e w' => e = .returned (.tuple #[recV r, .int .i64 (C : Int)]) ∧ Ext w w' := by
 unfold nextI at h
 rw [hb.length] at h
 by_cases hp : p < 0 ∨ (n : Int) ≤ p
 · rw [if_pos hp] at h
   cases h
   exact rNextR_arg hp
 · rw [if_neg hp] at h
   have := rNextR hb (p := p.toNat) (by omega) hn h
   rwa [show ((p.toNat : Nat) : Int) = p by omega] at this

theorem rFieldE {s : ByteArray} {A : Option Addr} {n c : Nat} {l : List FieldD} {x I : Int} {w : World} (hb : FieldsAt w A n c l) (hn : n ≤ 1000000000000) (h : idxB (numP x) l = I) :
  Calls Tryz.prog 49 #[.agg #[.string s, .slice A n c], .int .i64 x] w fun e w' => e = .returned (.int .i64 I) ∧ Ext w w' := by
 subst h
 exact rField hb hn

end Go.Proofs.YtnnphodgegcddaaGreat

/- Contracts of layer 10: all views. -/
namespace Go.Proofs.YtnnphodgegcddaaGreat
open Go.RowKit Go.Shelf
set_option linter.unusedVariables false

theorem vLookN {s : ByteArray} {A B : Option Addr} {n c m d : Nat} {l : List FieldD} {bs : List UInt8} {p : Nat} {w : World} {v : ViewD} {C : Nat} (hf : FieldsAt w A n c l) (hn : n ≤ 1000000000000) (hb : BytesAt w B m d bs) (hm : m ≤ 1000000000000) (hp : p < m) (h : lookV l bs p = (v, C)) :
  Calls Tryz.prog 151 #[.agg #[.string s, .slice A n c], .slice B m d, .int .i64 (p : Int)] w fun e w' => e = .returned (.tuple #[viewV v, .int .u8 (C : Int)]) ∧ Ext w w' :=
 vLook hf hn hb hm (by rw [lookI_nat (by rw [hb.length]; exact hp)]; exact h)

end Go.Proofs.YtnnphodgegcddaaGreat

/- Contracts of layer 10: the views that are so. -/
namespace Go.Proofs.YtnnphodgegcddaaGreat
open Go.RowKit Go.Shelf
set_option linter.unusedVariables false

end Go.Proofs.YtnnphodgegcddaaGreat

/- Contracts of layer 10: views are struck out of a slice of the call's own, in place. -/
namespace Go.Proofs.YtnnphodgegcddaaGreat
open Go.RowKit Go.Shelf
set_option linter.unusedVariables false

end Go.Proofs.YtnnphodgegcddaaGreat

/- Contracts of layer 10: the views of a number; unknown ones. -/
namespace Go.Proofs.YtnnphodgegcddaaGreat
open Go.RowKit Go.Shelf
set_option linter.unusedVariables false

end Go.Proofs.YtnnphodgegcddaaGreat

/- Contracts of layer 10: what is left without unknown records. -/
namespace Go.Proofs.YtnnphodgegcddaaGreat
open Go.RowKit Go.Shelf
set_option linter.unusedVariables false

theorem spanB_at10 {w : World} {A : Option Addr} {n c : Nat} {bs : List UInt8} (hb : BytesAt w A n c bs) {l m : Nat} (hl : l ≤ m) (hm : m ≤ n) :
  ∃ A', (∀ W : World, (Instr.slice 24 (.slice A n c) (some (.int .i64 (l : Int))) (some (.int .i64 (m : Int))) none).run Tryz.prog W = .ok (.slice A' (m - l) (c - l)) W) ∧ BytesAt w A' (m - l) (c - l) (spanB bs l m) := by
 obtain ⟨A', h1, h2⟩ := cut_both elemB hb .i64 .i64 hl hm
 exact ⟨A', h1, by simpa [BytesAt, spanB, List.map_drop, List.map_take] using h2⟩

end Go.Proofs.YtnnphodgegcddaaGreat

/- Contracts of layer 10: unknown records. -/
namespace Go.Proofs.YtnnphodgegcddaaGreat
open Go.RowKit Go.Shelf
set_option linter.unusedVariables false

theorem elemBB : Elem Tryz.prog 93 24 1 24 := Elem.mk' (z := .slice none 0 0) Tryz.underlying93 (by kernel_rfl) rfl (by omega)

end Go.Proofs.YtnnphodgegcddaaGreat

/- Plain laws of layer 10: records behind others; known and unknown records together are all; with a field less. -/
namespace Go.Proofs.YtnnphodgegcddaaGreat
open Go.RowKit Go.Lib
set_option linter.unusedVariables false

section
variable {α : Type} {s1 s2 : Nat → α × Nat} {tt : α → Nat} {n m : Nat}

end

/-! Bytes ahead of a record's end alone play a part. -/

/-! Views of bytes behind other bytes. -/

def lens (l : List (List UInt8)) : Nat := (l.map List.length).sum

/-! With a field less. -/

theorem find_of_idx {α : Type} {p : α → Bool} {l : List α} : (idxB p l = -1 → l.find? p = none) ∧ ∀ (k : Nat) x, idxB p l = (k : Nat) → l[k]? = some x → l.find? p = some x := by
 constructor
 · intro h
   rcases idxB_cases p l with ⟨_, h2⟩ | ⟨k, x, h1, _⟩
   · rw [List.find?_eq_none]; intro x hx; rw [h2 x hx]; simp
   · rw [h] at h1; omega
 · intro k x h hx
   rcases idxB_cases p l with ⟨h1, _⟩ | ⟨k', x', h1, h2, h3, h4⟩
   · rw [h1] at h; omega
   · rw [h] at h1
     obtain rfl : k = k' := by omega
     rw [hx] at h2
     cases h2
     have aux : ∀ (l : List α) (k : Nat), l[k]? = some x → (∀ (j : Nat) y, j < k → l[j]? = some y → p y = false) → l.find? p = some x := by
      intro l
      induction l with
      | nil => intro k hk; simp at hk
      | cons a r ih =>
        intro k hk hj
        cases k with
        | zero =>
          simp only [List.getElem?_cons_zero, Option.some.injEq] at hk
          subst hk
          exact List.find?_cons_of_pos h3
        | succ k =>
          rw [List.find?_cons_of_neg (by rw [hj 0 a (by omega) rfl]; simp)]
          exact ih k hk (fun j y h1 h2 => hj (j + 1) y (by omega) h2)
     exact aux l k hx h4

end Go.Proofs.YtnnphodgegcddaaGreat
