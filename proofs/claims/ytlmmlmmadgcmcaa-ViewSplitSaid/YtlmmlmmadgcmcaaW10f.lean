/- Contracts of layer 10: the views of a number; unknown ones. -/
import Derived.Test.YtlmmlmmadgcmcaaW10e
namespace Go.Proofs.Ytlmmlmmadgcmcaa
open Go.RowKit Go.Shelf
set_option linter.unusedVariables false

/-- What lay there reads as it did. -/
def Kept (w W : World) : Prop := ∀ p : Addr, p.block < w.heap.size → W.cell? p = w.cell? p

theorem Ext.kept {w W : World} (h : Ext w W) : Kept w W := fun p hp => h.cell hp

theorem Kept.up {w W W' : World} (h : Kept w W) (k : Ext W W') (hs : w.heap.size ≤ W.heap.size) : Kept w W' := fun p hp => (k.cell (Nat.lt_of_lt_of_le hp hs)).trans (h p hp)

theorem vThose1 {v : ViewD} {b : Nat} {w : World} {f : FuncId} {lb : Array Value} {q : ViewD → Bool} (eg : ∀ args w, (callFunc f args).run Try.prog w = .ok (.enter f args) w) (hc : w.cell? ⟨b, 0, none⟩ = some (.func (.func f) #[] lb))
    (hq : ∀ W : World, Ext w W → Calls Try.prog f (#[viewV v] ++ lb) W fun e W' => e = .returned (.bool (q v)) ∧ Ext W W') :
    Calls Try.prog 108 #[viewV v, .pointer (some ⟨b, 0, none⟩)] w fun e w' => e = .returned (.bool (!q v)) ∧ Ext w w' := by
  have hb := World.block_lt_of_cell? w _ hc
  simp only at hb
  unfold viewV at hq ⊢
  have Hq := Lib.hid hq
  clear hq
  go_enter Try.func108, Try.ntmps108
  go_wp2_with (go_at_fn f; refine (Hq.out _ (by repeat with_reducible (first | exact Ext.refl _ | refine Ext.alloc ?_ _ | refine Ext.drew ?_ | refine Ext.drewN ?_ _ | refine Ext.setCell ?_ (by first | exact Nat.le_refl _ | omega | (simp; done) | (simp; omega)) _))).mono ?_; rintro e w2 ⟨rfl, E2⟩)
  go_ret
  exact ⟨rfl, Ext.trans (by repeat with_reducible (first | exact Ext.refl _ | refine Ext.alloc ?_ _ | refine Ext.drew ?_ | refine Ext.drewN ?_ _ | refine Ext.setCell ?_ (by first | exact Nat.le_refl _ | omega | (simp; done) | (simp; omega)) _)) E2⟩

set_option maxHeartbeats 1000000 in
theorem vThose {s : ByteArray} {A B : Option Addr} {n c m d : Nat} {fs : List FieldD} {bs : List UInt8} {w : World} {f : FuncId} {lb : Array Value} {q : ViewD → Bool} {L : List ViewD} {P C : Nat}
    (eg : ∀ args w, (callFunc f args).run Try.prog w = .ok (.enter f args) w) (hf : FieldsAt w A n c fs) (hn : n ≤ 1000000000000) (hb : BytesAt w B m d bs) (hm : m ≤ 1000000000) (h : viewsV fs bs = (L, P, C))
    (hq : ∀ (W : World) (v : ViewD), Kept w W → Calls Try.prog f (#[viewV v] ++ lb) W fun e W' => e = .returned (.bool (q v)) ∧ Ext W W') :
    Calls Try.prog 89 #[.agg #[.string s, .slice A n c], .slice B m d, .func (.func f) #[] lb] w fun e w' => ∃ A' c', e = .returned (.slice A' (L.filter q).length c') ∧ Own w w' 48 7 A' (L.filter q).length c' ((L.filter q).flatMap viewC) := by
  have eg2 : ∀ args w, (callFunc 108 args).run Try.prog w = .ok (.enter 108 args) w := enters_of Try.func108 (by kernel_rfl) rfl
  have hLm : L.length ≤ m := by have := (viewsV_bd fs bs).2.1; rw [h, hb.length] at this; exact this
  have hff : (L.filter fun v => !(fun v => !q v) v) = L.filter q := by congr 1; funext v; simp
  have Hv := Lib.hid h
  have Hq := Lib.hid hq
  have Hff := Lib.hid hff
  clear h hq hff
  go_enter Try.func89, Try.ntmps89
  go_wp2_with fail
  have hE0 : Ext w ((w.alloc (.cells #[.string s, .slice A n c] 37)).alloc (.cells #[.func (.func f) #[] lb] 134)) := (by repeat with_reducible (first | exact Ext.refl _ | refine Ext.alloc ?_ _ | refine Ext.drew ?_ | refine Ext.drewN ?_ _ | refine Ext.setCell ?_ (by first | exact Nat.le_refl _ | omega | (simp; done) | (simp; omega)) _))
  have BM := Ext.new_blk (Ext.refl ((w.alloc (.cells #[.string s, .slice A n c] 37)).alloc (.cells #[.func (.func f) #[] lb] 134)))
  refine (vAllV (hf.up hE0) hn (hb.up hE0) hm Hv.out).mono ?_
  rintro e w1 ⟨A1, c1, rfl, own1⟩
  have B1 := BM.up own1.ext
  have hsz := own1.ext.size
  have hw0 : ((w.alloc (.cells #[.string s, .slice A n c] 37)).alloc (.cells #[.func (.func f) #[] lb] 134)).heap.size = w.heap.size + 2 := by simp
  have hc1 : w1.cell? ⟨w.heap.size + 1, 0, none⟩ = some (.func (.func f) #[] lb) := by have := B1.cell 0; simpa using this
  have hlt1 := B1.lt
  rw [hw0] at hsz
  go_wp2_with fail
  refine (delView (p := fun v => !q v) (lb := #[.pointer (some ⟨w.heap.size + 1, 0, none⟩)]) eg2 (own1.since hE0) (by omega) ?_ ?_).mono ?_
  · rintro g W v rfl hO
    have hg := own1.base.1
    rw [hw0] at hg
    refine vThose1 eg ((hO.cell (p := ⟨w.heap.size + 1, 0, none⟩) (by show w.heap.size + 1 < _; omega) (by show w.heap.size + 1 ≠ g; omega)).trans hc1) (fun W' hE => Hq.out W' v (fun p hp => ?_))
    have e1 : W'.cell? p = W.cell? p := hE.cell (Nat.lt_of_lt_of_le (by omega : p.block < w1.heap.size) hO.size)
    have e2 : W.cell? p = w1.cell? p := hO.cell (by omega) (by omega)
    have e3 : w1.cell? p = w.cell? p := (hE0.trans own1.ext).cell hp
    rw [e1, e2, e3]
  · intro W v hE
    refine vThose1 eg (hE.of_cell hc1) (fun W' hE' => Hq.out W' v ?_)
    exact ((hE0.trans own1.ext).trans (hE.trans hE')).kept
  · rintro e w2 ⟨A2, rfl, own2⟩
    rw [Hff.out] at own2 ⊢
    go_wp2
    go_ret
    exact ⟨A2, c1, rfl, own2⟩

theorem vOf1 {v : ViewD} {b : Nat} {x : Int} {w : World} (hc : w.cell? ⟨b, 0, none⟩ = some (.int .i64 x)) :
    Calls Try.prog 92 #[viewV v, .pointer (some ⟨b, 0, none⟩)] w fun e w' => e = .returned (.bool ((v.r.n : Int) == x)) ∧ Ext w w' := by
  have hb := World.block_lt_of_cell? w _ hc
  simp only at hb
  unfold viewV
  go_enter Try.func92, Try.ntmps92
  go_wp2
  go_ret
  exact ⟨rfl, (by repeat with_reducible (first | exact Ext.refl _ | refine Ext.alloc ?_ _ | refine Ext.drew ?_ | refine Ext.drewN ?_ _ | refine Ext.setCell ?_ (by first | exact Nat.le_refl _ | omega | (simp; done) | (simp; omega)) _))⟩

theorem vUnk1 {v : ViewD} {w : World} :
    Calls Try.prog 90 #[viewV v] w fun e w' => e = .returned (.bool (v.field == -1)) ∧ Ext w w' := by
  unfold viewV
  go_enter Try.func90, Try.ntmps90
  go_wp2
  go_ret
  exact ⟨rfl, (by repeat with_reducible (first | exact Ext.refl _ | refine Ext.alloc ?_ _ | refine Ext.drew ?_ | refine Ext.drewN ?_ _ | refine Ext.setCell ?_ (by first | exact Nat.le_refl _ | omega | (simp; done) | (simp; omega)) _))⟩

/-- The views of a number. -/
def ofP (x : Int) (v : ViewD) : Bool := (v.r.n : Int) == x

theorem vOf {s : ByteArray} {A B : Option Addr} {n c m d : Nat} {fs : List FieldD} {bs : List UInt8} {w : World} {x : Int} {L : List ViewD} {P C : Nat}
    (hf : FieldsAt w A n c fs) (hn : n ≤ 1000000000000) (hb : BytesAt w B m d bs) (hm : m ≤ 1000000000) (h : viewsV fs bs = (L, P, C)) :
    Calls Try.prog 49 #[.agg #[.string s, .slice A n c], .slice B m d, .int .i64 x] w fun e w' => ∃ A' c', e = .returned (.slice A' (L.filter (ofP x)).length c') ∧ Own w w' 48 7 A' (L.filter (ofP x)).length c' ((L.filter (ofP x)).flatMap viewC) := by
  have eg : ∀ args w, (callFunc 92 args).run Try.prog w = .ok (.enter 92 args) w := enters_of Try.func92 (by kernel_rfl) rfl
  have Hv := Lib.hid h
  clear h
  go_enter Try.func49, Try.ntmps49
  go_wp2_with fail
  have hE0 : Ext w ((w.alloc (.cells #[.string s, .slice A n c] 37)).alloc (.cells #[.int .i64 x] 3)) := (by repeat with_reducible (first | exact Ext.refl _ | refine Ext.alloc ?_ _ | refine Ext.drew ?_ | refine Ext.drewN ?_ _ | refine Ext.setCell ?_ (by first | exact Nat.le_refl _ | omega | (simp; done) | (simp; omega)) _))
  have BM := Ext.new_blk (Ext.refl ((w.alloc (.cells #[.string s, .slice A n c] 37)).alloc (.cells #[.int .i64 x] 3)))
  refine (vThose (q := ofP x) eg (hf.up hE0) hn (hb.up hE0) hm Hv.out ?_).mono ?_
  · intro W v hK
    refine vOf1 ?_
    have := hK ⟨w.heap.size + 1, 0, none⟩ (by simp)
    rw [this]
    have hb := BM.cell 0
    rw [show ((w.alloc (.cells #[.string s, .slice A n c] 37))).heap.size = w.heap.size + 1 by simp] at hb
    exact hb
  · rintro e w2 ⟨A2, c2, rfl, own2⟩
    go_wp2
    go_ret
    exact ⟨A2, c2, rfl, own2.since hE0⟩

theorem vHas {s : ByteArray} {A B : Option Addr} {n c m d : Nat} {fs : List FieldD} {bs : List UInt8} {w : World} {x : Int} {L : List ViewD} {P C : Nat}
    (hf : FieldsAt w A n c fs) (hn : n ≤ 1000000000000) (hb : BytesAt w B m d bs) (hm : m ≤ 1000000000) (h : viewsV fs bs = (L, P, C)) :
    Calls Try.prog 50 #[.agg #[.string s, .slice A n c], .slice B m d, .int .i64 x] w fun e w' => e = .returned (.bool (decide ((0 : Int) < (L.filter (ofP x)).length))) ∧ Ext w w' := by
  have Hv := Lib.hid h
  clear h
  go_enter Try.func50, Try.ntmps50
  go_wp2_with (go_at_call 49; refine (vOf (hf.up (by repeat with_reducible (first | exact Ext.refl _ | refine Ext.alloc ?_ _ | refine Ext.drew ?_ | refine Ext.drewN ?_ _ | refine Ext.setCell ?_ (by first | exact Nat.le_refl _ | omega | (simp; done) | (simp; omega)) _))) hn (hb.up (by repeat with_reducible (first | exact Ext.refl _ | refine Ext.alloc ?_ _ | refine Ext.drew ?_ | refine Ext.drewN ?_ _ | refine Ext.setCell ?_ (by first | exact Nat.le_refl _ | omega | (simp; done) | (simp; omega)) _))) hm Hv.out).mono ?_; rintro e w1 ⟨A1, c1, rfl, own1⟩; have X_ : Ext w w1 := Ext.trans (by repeat with_reducible (first | exact Ext.refl _ | refine Ext.alloc ?_ _ | refine Ext.drew ?_ | refine Ext.drewN ?_ _ | refine Ext.setCell ?_ (by first | exact Nat.le_refl _ | omega | (simp; done) | (simp; omega)) _)) own1.ext; have hE := X_; clear X_)
  go_ret
  exact ⟨ret_bool (by rw [Bool.eq_iff_iff]; simp), hE⟩

end Go.Proofs.Ytlmmlmmadgcmcaa
