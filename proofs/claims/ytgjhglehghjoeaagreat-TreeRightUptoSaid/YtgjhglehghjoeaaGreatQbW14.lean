/- Contracts of layer 14: depths. -/
import Derived.Test.YtgjhglehghjoeaaGreatQbM14
import Derived.Test.YtgjhglehghjoeaaGreatQbW10

/- Contracts of layer 14: how deep a meaning is. -/
namespace Go.Proofs.YtgjhglehghjoeaaGreat
open Go.RowKit
set_option linter.unusedVariables false

def TDepth (x : MsgR) : Prop := ∀ w : World, TreeAt w x → Calls Tryz.prog 27 #[treeV x] w fun e w' => e = .returned (.int .i64 (depthI x)) ∧ Ext w w'

set_option maxRecDepth 100000 in
set_option maxHeartbeats 1000000 in
theorem tDepth (x : MsgR) : TDepth x := by
  refine MsgX.ind (P := TDepth) (fun x ih => ?_) x
  intro w hx
  have Ih := Lib.hid ih
  have hd : depthI x = depthU 0 x.vals := depthI_eq x
  have hmax := hx.vals.max
  have hcap := hx.vals.cap
  unfold maxLen at hmax
  obtain ⟨D, hD⟩ : ∃ D, D = depthI x := ⟨_, rfl⟩
  rw [← hD]
  have HD := Lib.hid (hD.trans hd)
  clear ih hd hD
  unfold treeV
  generalize hn : x.vals.length = n at *
  have Hn := Lib.hid hn
  clear hn
  go_enter Tryz.func27, Tryz.ntmps27
  go_wp2
  have X0 : Ext w (w.alloc (.cells #[.slice x.a.1 n x.a.2, .slice x.b.1 x.unk.length x.b.2] 43)) := (by repeat with_reducible (first | exact Ext.refl _ | refine Ext.alloc ?_ _ | refine Ext.drew ?_ | refine Ext.drewN ?_ _ | refine Ext.setCell ?_ (by first | exact Nat.le_refl _ | omega | (simp; done) | (simp; omega)) _))
  generalize w.alloc (.cells #[.slice x.a.1 n x.a.2, .slice x.b.1 x.unk.length x.b.2] 43) = w1 at *
  go_loopw [3, 5, 7, 11, 18] (fun d _ _ i _ wr => ∃ k : Nat, k ≤ n ∧ i = .int .i64 (k : Int) ∧ d = .int .i64 (depthU 0 (x.vals.take k)) ∧ Ext w1 wr) (fun _ _ _ i _ _ => n - (intOf i).toNat)
  case atStart => exact ⟨0, Nat.zero_le _, rfl, rfl, Ext.refl _⟩
  case round =>
    obtain ⟨k, hk, rfl, rfl, hE⟩ := hrel
    by_cases hlt : k < n
    · have hltI : (k : Int) < n := by omega
      have hxr := hx.up (X0.trans hE)
      have hvr := hxr.vals
      rw [Hn.out] at hvr
      obtain ⟨b, off, v, hA, hv, hb, c0, c1, c2, c3⟩ := valCells hvr hlt
      have hmem := List.mem_of_getElem? hv
      have hval := hxr.val hmem
      have hsn := depthU_snoc 0 hv
      have Hih := Lib.hid (Ih.out v hmem)
      have hsm := hval.own.subs.max
      have hsc := hval.own.subs.cap
      unfold maxLen at hsm
      generalize hm : v.subs.length = m at *
      have Hm := Lib.hid hm
      have Hsn := Lib.hid hsn
      generalize depthU 0 (x.vals.take k) = d0 at *
      rw [hA]
      clear hv hm hsn
      go_wp2
      go_loopw [3, 7, 18] (fun d _ i wq => ∃ q : Nat, q ≤ m ∧ i = .int .i64 (q : Int) ∧ d = .int .i64 (depthS d0 (v.subs.take q)) ∧ Ext wr wq) (fun _ _ i _ => m - (intOf i).toNat)
      case atStart => exact ⟨0, Nat.zero_le _, rfl, rfl, (by repeat with_reducible (first | exact Ext.refl _ | refine Ext.alloc ?_ _ | refine Ext.drew ?_ | refine Ext.drewN ?_ _ | refine Ext.setCell ?_ (by first | exact Nat.le_refl _ | omega | (simp; done) | (simp; omega)) _))⟩
      case round =>
        obtain ⟨q, hq, rfl, rfl, hE2⟩ := hrel
        rename World => wq
        by_cases hlt2 : q < m
        · have hlt2I : (q : Int) < m := by omega
          have hvq := hval.up hE2
          have hsr := hvq.own.subs
          rw [Hm.out] at hsr
          obtain ⟨b2, off2, y, hA2, hy, hb2, e0, e1⟩ := treeCells hsr hlt2
          have hymem := List.mem_of_getElem? hy
          have hty := hvq.sub y hymem
          have hcall : ∀ W, TreeAt W y → Calls Tryz.prog 27 #[treeV y] W fun e w' => e = .returned (.int .i64 (depthI y)) ∧ Ext W w' := Hih.out y hymem
          unfold treeV at hcall
          have hsn2 := depthS_snoc d0 hy
          have Hcall := Lib.hid hcall
          have Hsn2 := Lib.hid hsn2
          generalize depthS d0 (v.subs.take q) = d1 at *
          generalize depthI y = dy at *
          rw [hA2]
          clear hcall hy hsn2
          go_wp2_with (go_at_call 27; refine (Hcall.out _ (hty.up (by repeat with_reducible (first | exact Ext.refl _ | refine Ext.alloc ?_ _ | refine Ext.drew ?_ | refine Ext.drewN ?_ _ | refine Ext.setCell ?_ (by first | exact Nat.le_refl _ | omega | (simp; done) | (simp; omega)) _)))).mono ?_; rintro e w5 ⟨rfl, E5⟩)
          go_roundw
          case rel =>
            refine ⟨q + 1, by omega, by go_num, ?_, hE2.trans (Ext.trans (by repeat with_reducible (first | exact Ext.refl _ | refine Ext.alloc ?_ _ | refine Ext.drew ?_ | refine Ext.drewN ?_ _ | refine Ext.setCell ?_ (by first | exact Nat.le_refl _ | omega | (simp; done) | (simp; omega)) _)) E5)⟩
            rw [Hsn2.out]
            refine congrArg (Value.int .i64) ?_
            split <;> omega
          case measure => simp [intOf]; omega
        · obtain rfl : q = m := by omega
          have hfin : depthS d0 (v.subs.take q) = depthU 0 (x.vals.take (k + 1)) := by rw [Hsn.out, ← Hm.out, List.take_length]
          have Hfin := Lib.hid hfin
          clear hfin
          go_wp2
          go_roundw
          case rel => exact ⟨k + 1, by omega, by go_num, by rw [Hfin.out], hE.trans hE2⟩
          case measure => simp [intOf]; omega
    · obtain rfl : k = n := by omega
      rw [← Hn.out, List.take_length, ← HD.out]
      go_wp2
      go_ret
      exact ⟨rfl, X0.trans hE⟩

end Go.Proofs.YtgjhglehghjoeaaGreat

/- Contracts of layer 14: how deep a meaning is, as the reference has it. -/
namespace Go.Proofs.YtgjhglehghjoeaaGreat
open Go.RowKit
set_option linter.unusedVariables false

def RDepth (x : MsgR) : Prop := ∀ w : World, TreeAt w x → Calls Tryz.prog 28 #[treeV x] w fun e w' => e = .returned (.int .i64 (depthI x)) ∧ Ext w w'

set_option maxRecDepth 100000 in
set_option maxHeartbeats 1000000 in
theorem rDepth (x : MsgR) : RDepth x := by
  refine MsgX.ind (P := RDepth) (fun x ih => ?_) x
  intro w hx
  have Ih := Lib.hid ih
  have hd : depthI x = depthU 0 x.vals := depthI_eq x
  have hmax := hx.vals.max
  have hcap := hx.vals.cap
  unfold maxLen at hmax
  obtain ⟨D, hD⟩ : ∃ D, D = depthI x := ⟨_, rfl⟩
  rw [← hD]
  have HD := Lib.hid (hD.trans hd)
  clear ih hd hD
  unfold treeV
  generalize hn : x.vals.length = n at *
  have Hn := Lib.hid hn
  clear hn
  go_enter Tryz.func28, Tryz.ntmps28
  go_wp2
  have X0 : Ext w (w.alloc (.cells #[.slice x.a.1 n x.a.2, .slice x.b.1 x.unk.length x.b.2] 47)) := (by repeat with_reducible (first | exact Ext.refl _ | refine Ext.alloc ?_ _ | refine Ext.drew ?_ | refine Ext.drewN ?_ _ | refine Ext.setCell ?_ (by first | exact Nat.le_refl _ | omega | (simp; done) | (simp; omega)) _))
  have BX : BlkT (w.alloc (.cells #[.slice x.a.1 n x.a.2, .slice x.b.1 x.unk.length x.b.2] 47)) w.heap.size 47 #[.slice x.a.1 n x.a.2, .slice x.b.1 x.unk.length x.b.2] := BlkT.new w _ _ rfl
  generalize w.alloc (.cells #[.slice x.a.1 n x.a.2, .slice x.b.1 x.unk.length x.b.2] 47) = w1 at *
  have q00 : w1.cell? ⟨w.heap.size, 0, none⟩ = some (.slice x.a.1 n x.a.2) := BX.cell 0
  go_loopw [3, 4, 5] (fun d i _ wr => ∃ k : Nat, k ≤ n ∧ i = .int .i64 (k : Int) ∧ d = .int .i64 (depthU 0 (x.vals.take k)) ∧ Ext w1 wr) (fun _ i _ _ => n - (intOf i).toNat)
  case atStart => exact ⟨0, Nat.zero_le _, rfl, rfl, Ext.refl _⟩
  case round =>
    obtain ⟨k, hk, rfl, rfl, hE⟩ := hrel
    have q0 := hE.of_cell q00
    by_cases hlt : k < n
    · have hltI : (k : Int) < n := by omega
      have hxr := hx.up (X0.trans hE)
      have hvr := hxr.vals
      rw [Hn.out] at hvr
      obtain ⟨b, off, v, hA, hv, hb, c0, c1, c2, c3⟩ := valCells hvr hlt
      have hmem := List.mem_of_getElem? hv
      have hval := hxr.val hmem
      have hsn := depthU_snoc 0 hv
      have Hih := Lib.hid (Ih.out v hmem)
      have hsm := hval.own.subs.max
      have hsc := hval.own.subs.cap
      unfold maxLen at hsm
      generalize hm : v.subs.length = m at *
      have Hm := Lib.hid hm
      have Hsn := Lib.hid hsn
      generalize depthU 0 (x.vals.take k) = d0 at *
      rw [hA] at q0
      clear hv hm hsn
      go_wp2
      go_loopw [3, 5] (fun d i wq => ∃ q : Nat, q ≤ m ∧ i = .int .i64 (q : Int) ∧ d = .int .i64 (depthS d0 (v.subs.take q)) ∧ Ext wr wq) (fun _ i _ => m - (intOf i).toNat)
      case atStart => exact ⟨0, Nat.zero_le _, rfl, rfl, (by repeat with_reducible (first | exact Ext.refl _ | refine Ext.alloc ?_ _ | refine Ext.drew ?_ | refine Ext.drewN ?_ _ | refine Ext.setCell ?_ (by first | exact Nat.le_refl _ | omega | (simp; done) | (simp; omega)) _))⟩
      case round =>
        obtain ⟨q, hq, rfl, rfl, hE2⟩ := hrel
        rename World => wq
        have q1 := hE2.of_cell q0
        have c31 := hE2.of_cell c3
        by_cases hlt2 : q < m
        · have hlt2I : (q : Int) < m := by omega
          have hvq := hval.up hE2
          have hsr := hvq.own.subs
          rw [Hm.out] at hsr
          obtain ⟨b2, off2, y, hA2, hy, hb2, e0, e1⟩ := treeCells hsr hlt2
          have hymem := List.mem_of_getElem? hy
          have hty := hvq.sub y hymem
          have hcall : ∀ W, TreeAt W y → Calls Tryz.prog 28 #[treeV y] W fun e w' => e = .returned (.int .i64 (depthI y)) ∧ Ext W w' := Hih.out y hymem
          unfold treeV at hcall
          have hsn2 := depthS_snoc d0 hy
          have Hcall := Lib.hid hcall
          have Hsn2 := Lib.hid hsn2
          generalize depthS d0 (v.subs.take q) = d1 at *
          generalize depthI y = dy at *
          rw [hA2] at c31
          clear hcall hy hsn2
          go_wp2_with (go_at_call 28; refine (Hcall.out _ (hty.up (by repeat with_reducible (first | exact Ext.refl _ | refine Ext.alloc ?_ _ | refine Ext.drew ?_ | refine Ext.drewN ?_ _ | refine Ext.setCell ?_ (by first | exact Nat.le_refl _ | omega | (simp; done) | (simp; omega)) _)))).mono ?_; rintro e w5 ⟨rfl, E5⟩)
          all_goals
            go_roundw
            case rel =>
              refine ⟨q + 1, by omega, by go_num, ?_, hE2.trans (Ext.trans (by repeat with_reducible (first | exact Ext.refl _ | refine Ext.alloc ?_ _ | refine Ext.drew ?_ | refine Ext.drewN ?_ _ | refine Ext.setCell ?_ (by first | exact Nat.le_refl _ | omega | (simp; done) | (simp; omega)) _)) E5)⟩
              rw [Hsn2.out, Int.add_comm dy 1]
              generalize wrap64 (1 + dy) = z at *
              (try refine congrArg (Value.int .i64) ?_)
              omega
            case measure => simp [intOf]; omega
        · have hge2 : ¬ ((q : Int) < (m : Int)) := by omega
          have hqm : q = m := by omega
          have hfin : depthS d0 (v.subs.take q) = depthU 0 (x.vals.take (k + 1)) := by rw [Hsn.out, hqm, ← Hm.out, List.take_length]
          have Hfin := Lib.hid hfin
          clear hfin
          go_wp2
          go_roundw
          case rel => exact ⟨k + 1, by omega, by go_num, by rw [Hfin.out], hE.trans hE2⟩
          case measure => simp [intOf]; omega
    · have hge : ¬ ((k : Int) < (n : Int)) := by omega
      have hkn : k = n := by omega
      have hfin : depthU 0 (x.vals.take k) = D := by rw [hkn, ← Hn.out, List.take_length, ← HD.out]
      rw [hfin]
      go_wp2
      go_ret
      exact ⟨rfl, X0.trans hE⟩

end Go.Proofs.YtgjhglehghjoeaaGreat
