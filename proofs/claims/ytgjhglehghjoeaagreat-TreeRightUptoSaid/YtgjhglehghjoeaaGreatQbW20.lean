/- Contracts of layer 14: how many things a meaning has, counted by the laws: some number. -/
import Derived.Test.YtgjhglehghjoeaaGreatQbM14
import Derived.Test.YtgjhglehghjoeaaGreatQbW10

namespace Go.Proofs.YtgjhglehghjoeaaGreat
open Go.RowKit
set_option linter.unusedVariables false

def SomeInt (w : World) (e : Ending) (w' : World) : Prop := ∃ n : Int, e = .returned (.int .i64 n) ∧ Ext w w'

def TSize (x : MsgR) : Prop := ∀ (deep : Int) (w : World), -1 ≤ deep → deep ≤ 1000 → TreeAt w x → Calls Tryz.prog 18 #[treeV x, .int .i64 deep] w (SomeInt w)

set_option maxRecDepth 100000 in
set_option maxHeartbeats 2000000 in
theorem tSizeV {v : ValR} (ih : ∀ y ∈ v.subs, TSize y) (deep : Int) (w : World) (h0 : 0 ≤ deep) (h1 : deep ≤ 1000) (hv : ValAt w v) : Calls Tryz.prog 14 #[tvalV v, .int .i64 deep] w (SomeInt w) := by
  have Ih := Lib.hid ih
  have tmax := hv.own.texts.at_.max
  have tcap := hv.own.texts.at_.cap
  have smax := hv.own.subs.max
  have scap := hv.own.subs.cap
  unfold maxLen at tmax smax
  clear ih
  unfold tvalV
  go_enter Tryz.func14, Tryz.ntmps14
  go_wp2
  have BV := BlkT.new w 30 #[.int .i64 v.number, .slice v.a.1 v.words.length v.a.2, .slice v.b.1 v.texts.length v.b.2, .slice v.c.1 v.subs.length v.c.2] rfl
  have X0 : Ext w (w.alloc (.cells #[.int .i64 v.number, .slice v.a.1 v.words.length v.a.2, .slice v.b.1 v.texts.length v.b.2, .slice v.c.1 v.subs.length v.c.2] 30)) := (by repeat with_reducible (first | exact Ext.refl _ | refine Ext.alloc ?_ _ | refine Ext.drew ?_ | refine Ext.drewN ?_ _ | refine Ext.setCell ?_ (by first | exact Nat.le_refl _ | omega | (simp; done) | (simp; omega)) _))
  generalize w.alloc (.cells #[.int .i64 v.number, .slice v.a.1 v.words.length v.a.2, .slice v.b.1 v.texts.length v.b.2, .slice v.c.1 v.subs.length v.c.2] 30) = w1 at *
  have z2 : w1.cell? ⟨w.heap.size, 2, none⟩ = some (.slice v.b.1 v.texts.length v.b.2) := BV.cell 2
  have z3 : w1.cell? ⟨w.heap.size, 3, none⟩ = some (.slice v.c.1 v.subs.length v.c.2) := BV.cell 3
  clear BV
  go_loopw [5, 6] (fun a i wr => ∃ (k : Nat) (n : Int), k ≤ v.texts.length ∧ i = .int .i64 (k : Int) ∧ a = .int .i64 n ∧ Ext w1 wr) (fun _ i _ => v.texts.length - (intOf i).toNat)
  case atStart => exact ⟨0, _, Nat.zero_le _, rfl, rfl, Ext.refl _⟩
  case round =>
    obtain ⟨k, n, hk, rfl, rfl, hE⟩ := hrel
    have z2r := hE.of_cell z2
    by_cases hlt : k < v.texts.length
    · have hltI : (k : Int) < v.texts.length := by omega
      obtain ⟨b, off, t, hA, ht, hb, hts, e0⟩ := (hv.own.texts.up (X0.trans hE)).text hlt
      rw [hA] at z2r
      clear ht hA
      go_wp2
      go_roundw
      case rel => exact ⟨k + 1, _, by omega, by go_num, rfl, hE.trans (by repeat with_reducible (first | exact Ext.refl _ | refine Ext.alloc ?_ _ | refine Ext.drew ?_ | refine Ext.drewN ?_ _ | refine Ext.setCell ?_ (by first | exact Nat.le_refl _ | omega | (simp; done) | (simp; omega)) _))⟩
      case measure => simp [intOf]; omega
    · have hge : ¬ (k : Int) < v.texts.length := by omega
      go_wp2
      go_loopw [4, 5, 7] (fun _ a i wr => ∃ (k : Nat) (n : Int), k ≤ v.subs.length ∧ i = .int .i64 (k : Int) ∧ a = .int .i64 n ∧ Ext w1 wr) (fun _ _ i _ => v.subs.length - (intOf i).toNat)
      case atStart => exact ⟨0, _, Nat.zero_le _, rfl, rfl, hE⟩
      case round =>
        rename World => wq
        obtain ⟨j, n2, hj, rfl, rfl, hE2⟩ := hrel
        have z3r := hE2.of_cell z3
        by_cases hlt2 : j < v.subs.length
        · have hltI : (j : Int) < v.subs.length := by omega
          obtain ⟨b, off, y, hA, hy, hb, e0, e1⟩ := treeCells (hv.own.subs.ext (X0.trans hE2)) hlt2
          have hym := List.mem_of_getElem? hy
          have hcall := fun W (h : Ext w W) => Ih.out y hym (deep - 1) W (by omega) (by omega) ((hv.sub y hym).up h)
          unfold treeV at hcall
          have Hcall := Lib.hid hcall
          rw [hA] at z3r
          clear hy hA hcall
          go_wp2_with (go_at_call 18; refine (Hcall.out _ ((X0.trans hE2).trans (by repeat with_reducible (first | exact Ext.refl _ | refine Ext.alloc ?_ _ | refine Ext.drew ?_ | refine Ext.drewN ?_ _ | refine Ext.setCell ?_ (by first | exact Nat.le_refl _ | omega | (simp; done) | (simp; omega)) _)))).mono ?_; rintro e w5 ⟨s, rfl, E5⟩; have X5 : Ext wq w5 := Ext.trans (by repeat with_reducible (first | exact Ext.refl _ | refine Ext.alloc ?_ _ | refine Ext.drew ?_ | refine Ext.drewN ?_ _ | refine Ext.setCell ?_ (by first | exact Nat.le_refl _ | omega | (simp; done) | (simp; omega)) _)) E5)
          · go_ret
            exact ⟨_, rfl, X0.trans (hE2.trans X5)⟩
          · go_roundw
            case rel => exact ⟨j + 1, _, by omega, by go_num, rfl, hE2.trans X5⟩
            case measure => simp [intOf]; omega
        · have hge2 : ¬ (j : Int) < v.subs.length := by omega
          go_wp2
          go_ret
          exact ⟨_, rfl, X0.trans hE2⟩

set_option maxRecDepth 100000 in
set_option maxHeartbeats 2000000 in
theorem tSizeM {x : MsgR} (ih : ∀ v ∈ x.vals, ∀ (deep : Int) (w : World), 0 ≤ deep → deep ≤ 1000 → ValAt w v → Calls Tryz.prog 14 #[tvalV v, .int .i64 deep] w (SomeInt w)) : TSize x := by
  intro deep w h0 h1 hx
  have Ih := Lib.hid ih
  have tmax := hx.unk.at_.max
  have tcap := hx.unk.at_.cap
  have smax := hx.vals.max
  have scap := hx.vals.cap
  unfold maxLen at tmax smax
  clear ih
  unfold treeV
  by_cases hneg : deep < 0
  · go_enter Tryz.func18, Tryz.ntmps18
    go_wp2
    go_ret
    exact ⟨_, rfl, (by repeat with_reducible (first | exact Ext.refl _ | refine Ext.alloc ?_ _ | refine Ext.drew ?_ | refine Ext.drewN ?_ _ | refine Ext.setCell ?_ (by first | exact Nat.le_refl _ | omega | (simp; done) | (simp; omega)) _))⟩
  · go_enter Tryz.func18, Tryz.ntmps18
    go_wp2
    have BV := BlkT.new w 43 #[.slice x.a.1 x.vals.length x.a.2, .slice x.b.1 x.unk.length x.b.2] rfl
    have X0 : Ext w (w.alloc (.cells #[.slice x.a.1 x.vals.length x.a.2, .slice x.b.1 x.unk.length x.b.2] 43)) := (by repeat with_reducible (first | exact Ext.refl _ | refine Ext.alloc ?_ _ | refine Ext.drew ?_ | refine Ext.drewN ?_ _ | refine Ext.setCell ?_ (by first | exact Nat.le_refl _ | omega | (simp; done) | (simp; omega)) _))
    generalize w.alloc (.cells #[.slice x.a.1 x.vals.length x.a.2, .slice x.b.1 x.unk.length x.b.2] 43) = w1 at *
    have z2 : w1.cell? ⟨w.heap.size, 1, none⟩ = some (.slice x.b.1 x.unk.length x.b.2) := BV.cell 1
    have z3 : w1.cell? ⟨w.heap.size, 0, none⟩ = some (.slice x.a.1 x.vals.length x.a.2) := BV.cell 0
    clear BV
    go_loopw [5, 6] (fun a i wr => ∃ (k : Nat) (n : Int), k ≤ x.unk.length ∧ i = .int .i64 (k : Int) ∧ a = .int .i64 n ∧ Ext w1 wr) (fun _ i _ => x.unk.length - (intOf i).toNat)
    case atStart => exact ⟨0, _, Nat.zero_le _, rfl, rfl, Ext.refl _⟩
    case round =>
      obtain ⟨k, n, hk, rfl, rfl, hE⟩ := hrel
      have z2r := hE.of_cell z2
      by_cases hlt : k < x.unk.length
      · have hltI : (k : Int) < x.unk.length := by omega
        obtain ⟨b, off, t, hA, ht, hb, hts, e0⟩ := (hx.unk.up (X0.trans hE)).text hlt
        rw [hA] at z2r
        clear ht hA
        go_wp2
        go_roundw
        case rel => exact ⟨k + 1, _, by omega, by go_num, rfl, hE.trans (by repeat with_reducible (first | exact Ext.refl _ | refine Ext.alloc ?_ _ | refine Ext.drew ?_ | refine Ext.drewN ?_ _ | refine Ext.setCell ?_ (by first | exact Nat.le_refl _ | omega | (simp; done) | (simp; omega)) _))⟩
        case measure => simp [intOf]; omega
      · have hge : ¬ (k : Int) < x.unk.length := by omega
        go_wp2
        go_loopw [4, 5, 7] (fun _ a i wr => ∃ (k : Nat) (n : Int), k ≤ x.vals.length ∧ i = .int .i64 (k : Int) ∧ a = .int .i64 n ∧ Ext w1 wr) (fun _ _ i _ => x.vals.length - (intOf i).toNat)
        case atStart => exact ⟨0, _, Nat.zero_le _, rfl, rfl, hE⟩
        case round =>
          rename World => wq
          obtain ⟨j, n2, hj, rfl, rfl, hE2⟩ := hrel
          have z3r := hE2.of_cell z3
          by_cases hlt2 : j < x.vals.length
          · have hltI : (j : Int) < x.vals.length := by omega
            obtain ⟨b, off, v, hA, hy, hb, e0, e1, e2, e3⟩ := valCells (hx.vals.ext (X0.trans hE2)) hlt2
            have hym := List.mem_of_getElem? hy
            have hcall := fun W (h : Ext w W) => Ih.out v hym deep W (by omega) (by omega) ((hx.val hym).up h)
            unfold tvalV at hcall
            have Hcall := Lib.hid hcall
            rw [hA] at z3r
            clear hy hA hcall
            go_wp2_with (go_at_call 14; refine (Hcall.out _ ((X0.trans hE2).trans (by repeat with_reducible (first | exact Ext.refl _ | refine Ext.alloc ?_ _ | refine Ext.drew ?_ | refine Ext.drewN ?_ _ | refine Ext.setCell ?_ (by first | exact Nat.le_refl _ | omega | (simp; done) | (simp; omega)) _)))).mono ?_; rintro e w5 ⟨s, rfl, E5⟩; have X5 : Ext wq w5 := Ext.trans (by repeat with_reducible (first | exact Ext.refl _ | refine Ext.alloc ?_ _ | refine Ext.drew ?_ | refine Ext.drewN ?_ _ | refine Ext.setCell ?_ (by first | exact Nat.le_refl _ | omega | (simp; done) | (simp; omega)) _)) E5)
            · go_ret
              exact ⟨_, rfl, X0.trans (hE2.trans X5)⟩
            · go_roundw
              case rel => exact ⟨j + 1, _, by omega, by go_num, rfl, hE2.trans X5⟩
              case measure => simp [intOf]; omega
          · have hge2 : ¬ (j : Int) < x.vals.length := by omega
            go_wp2
            go_ret
            exact ⟨_, rfl, X0.trans hE2⟩

theorem tSize (x : MsgR) : TSize x := by
  refine MsgX.ind (P := TSize) (fun x ih => ?_) x
  exact tSizeM (fun v hv deep w h0 h1 h => tSizeV (ih v hv) deep w h0 h1 h)

end Go.Proofs.YtgjhglehghjoeaaGreat
