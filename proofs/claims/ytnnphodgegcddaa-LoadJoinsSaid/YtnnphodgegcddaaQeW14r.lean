/- Contracts of layer 14: the same meanings, as the reference has it. -/
import Derived.Test.YtnnphodgegcddaaQeW14s

namespace Go.Proofs.Ytnnphodgegcddaa
open Go.RowKit
set_option linter.unusedVariables false

set_option maxRecDepth 100000 in
set_option maxHeartbeats 4000000 in
theorem rsameV {v u : ValR} {w : World} (hv : ValAt w v) (hu : ValAt w u) (hp : ∀ y ∈ v.subs, ∀ z ∈ u.subs, ∀ W : World, Ext w W → Calls Try.prog 17 #[treeV y, treeV z] W fun e W' => e = .returned (.bool (eqB (bare y = bare z))) ∧ Ext W W') :
    Calls Try.prog 8 #[tvalV v, tvalV u] w fun e w' => e = .returned (.bool (eqB (bareV v = bareV u))) ∧ Ext w w' := by
  have Hp := Lib.hid hp
  clear hp
  have hvw := hv.own.words.max
  have hvw' := hv.own.words.cap
  have hvt := hv.own.texts.at_.max
  have hvt' := hv.own.texts.at_.cap
  have hvs := hv.own.subs.max
  have hvs' := hv.own.subs.cap
  have huw' := hu.own.words.cap
  have hut' := hu.own.texts.at_.cap
  have hus' := hu.own.subs.cap
  have huw := hu.own.words.max
  have hut := hu.own.texts.at_.max
  have hus := hu.own.subs.max
  unfold maxLen at hvw hvt hvs huw hut hus
  unfold tvalV
  by_cases e0 : v.number = u.number
  · by_cases e1 : v.words.length = u.words.length
    · by_cases e2 : v.texts.length = u.texts.length
      · by_cases e3 : v.subs.length = u.subs.length
        · rw [← e1, ← e2, ← e3]
          rw [← e1] at huw'
          rw [← e2] at hut'
          rw [← e3] at hus'
          have t0 : (v.number != u.number) = false := by simp [e0]
          have t1 : ((v.words.length : Int) != (v.words.length : Int)) = false := by simp
          have t2 : ((v.texts.length : Int) != (v.texts.length : Int)) = false := by simp
          have t3 : ((v.subs.length : Int) != (v.subs.length : Int)) = false := by simp
          have E0 := Lib.hid e0
          have E1 := Lib.hid e1
          have E2 := Lib.hid e2
          have E3 := Lib.hid e3
          clear e0 e1 e2 e3
          go_enter Try.func8, Try.ntmps8
          go_wp2
          have B1 : BlkT ((w.alloc (.cells #[.int .i64 v.number, .slice v.a.1 v.words.length v.a.2, .slice v.b.1 v.texts.length v.b.2, .slice v.c.1 v.subs.length v.c.2] 39)).alloc (.cells #[.int .i64 u.number, .slice u.a.1 v.words.length u.a.2, .slice u.b.1 v.texts.length u.b.2, .slice u.c.1 v.subs.length u.c.2] 39)) w.heap.size 39 #[.int .i64 v.number, .slice v.a.1 v.words.length v.a.2, .slice v.b.1 v.texts.length v.b.2, .slice v.c.1 v.subs.length v.c.2] := (BlkT.new w _ _ rfl).alloc _
          have B2 : BlkT ((w.alloc (.cells #[.int .i64 v.number, .slice v.a.1 v.words.length v.a.2, .slice v.b.1 v.texts.length v.b.2, .slice v.c.1 v.subs.length v.c.2] 39)).alloc (.cells #[.int .i64 u.number, .slice u.a.1 v.words.length u.a.2, .slice u.b.1 v.texts.length u.b.2, .slice u.c.1 v.subs.length u.c.2] 39)) (w.heap.size + 1) 39 #[.int .i64 u.number, .slice u.a.1 v.words.length u.a.2, .slice u.b.1 v.texts.length u.b.2, .slice u.c.1 v.subs.length u.c.2] := BlkT.new _ _ _ (by simp)
          have X0 : Ext w ((w.alloc (.cells #[.int .i64 v.number, .slice v.a.1 v.words.length v.a.2, .slice v.b.1 v.texts.length v.b.2, .slice v.c.1 v.subs.length v.c.2] 39)).alloc (.cells #[.int .i64 u.number, .slice u.a.1 v.words.length u.a.2, .slice u.b.1 v.texts.length u.b.2, .slice u.c.1 v.subs.length u.c.2] 39)) := (by repeat with_reducible (first | exact Ext.refl _ | refine Ext.alloc ?_ _ | refine Ext.drew ?_ | refine Ext.drewN ?_ _ | refine Ext.setCell ?_ (by first | exact Nat.le_refl _ | omega | (simp; done) | (simp; omega)) _))
          generalize ((w.alloc (.cells #[.int .i64 v.number, .slice v.a.1 v.words.length v.a.2, .slice v.b.1 v.texts.length v.b.2, .slice v.c.1 v.subs.length v.c.2] 39)).alloc (.cells #[.int .i64 u.number, .slice u.a.1 v.words.length u.a.2, .slice u.b.1 v.texts.length u.b.2, .slice u.c.1 v.subs.length u.c.2] 39)) = w2 at *
          have a1 : w2.cell? ⟨w.heap.size, 1, none⟩ = some (.slice v.a.1 v.words.length v.a.2) := B1.cell 1
          have b1 : w2.cell? ⟨w.heap.size + 1, 1, none⟩ = some (.slice u.a.1 v.words.length u.a.2) := B2.cell 1
          have a2 : w2.cell? ⟨w.heap.size, 2, none⟩ = some (.slice v.b.1 v.texts.length v.b.2) := B1.cell 2
          have b2 : w2.cell? ⟨w.heap.size + 1, 2, none⟩ = some (.slice u.b.1 v.texts.length u.b.2) := B2.cell 2
          have a3 : w2.cell? ⟨w.heap.size, 3, none⟩ = some (.slice v.c.1 v.subs.length v.c.2) := B1.cell 3
          have b3 : w2.cell? ⟨w.heap.size + 1, 3, none⟩ = some (.slice u.c.1 v.subs.length u.c.2) := B2.cell 3
          go_loopw [4, 5] (fun _ i wr => ∃ j : Nat, j ≤ v.words.length ∧ i = .int .i64 (j : Int) ∧ Ext w2 wr ∧ Hid (v.words.take j = u.words.take j)) (fun _ i _ => v.words.length - (intOf i).toNat)
          case atStart => exact ⟨0, Nat.zero_le _, rfl, Ext.refl _, rfl⟩
          case round =>
            obtain ⟨j, hj, rfl, hE1, hT1⟩ := hrel
            have ar := hE1.of_cell a1
            have br := hE1.of_cell b1
            by_cases hlt : j < v.words.length
            · have hltI : (j : Int) < (v.words.length : Int) := by omega
              have hlu : j < u.words.length := by have := E1.out; omega
              obtain ⟨c1, off1, f1, hA, h1, hb1, d0⟩ := wordCell (hv.own.words.ext (X0.trans hE1)) (k := j) hlt
              obtain ⟨c2, off2, f2, hB, h2, hb2, g0⟩ := wordCell (hu.own.words.ext (X0.trans hE1)) (k := j) hlu
              rw [hA] at ar
              rw [hB] at br
              have H1 := Lib.hid h1
              have H2 := Lib.hid h2
              by_cases hf : f1 = f2
              · have q2 : ((f1 : Int) != (f2 : Int)) = false := by simp [hf]
                have Hf := Lib.hid hf
                clear h1 h2 hf
                go_wp2
                go_quiet (fail)
                go_wp2
                go_roundw
                case rel => exact ⟨j + 1, by omega, by go_num, hE1.trans (by repeat with_reducible (first | exact Ext.refl _ | refine Ext.alloc ?_ _ | refine Ext.drew ?_ | refine Ext.drewN ?_ _ | refine Ext.setCell ?_ (by first | exact Nat.le_refl _ | omega | (simp; done) | (simp; omega)) _)), by show _ = _; rw [take_snoc _ _ _ H1.out, take_snoc _ _ _ H2.out, hT1.out, Hf.out]⟩
                case measure => simp [intOf]; omega
              · have q2 : ((f1 : Int) != (f2 : Int)) = true := by rw [bne_iff_ne]; omega
                have Hf := Lib.hid hf
                clear h1 h2 hf
                go_wp2
                go_quiet (fail)
                go_wp2
                go_ret
                refine ⟨ret_bool (eqB_no ?_).symm, (X0.trans hE1).trans (by repeat with_reducible (first | exact Ext.refl _ | refine Ext.alloc ?_ _ | refine Ext.drew ?_ | refine Ext.drewN ?_ _ | refine Ext.setCell ?_ (by first | exact Nat.le_refl _ | omega | (simp; done) | (simp; omega)) _))⟩
                intro hh
                have hh := (bareV_iff.1 hh).2.1
                have h1 := H1.out
                rw [hh] at h1
                have := h1.symm.trans H2.out
                exact Hf.out (by simpa using this)
            · have hge : ¬ ((j : Int) < (v.words.length : Int)) := by omega
              have hfin1 : v.words = u.words := by
                have := hT1.out
                have hn := E1.out
                rwa [List.take_of_length_le (by omega), List.take_of_length_le (by omega)] at this
              have F1 := Lib.hid hfin1
              clear hfin1
              go_wp2
              go_loopw [4, 6] (fun _ i wr => ∃ j : Nat, j ≤ v.texts.length ∧ i = .int .i64 (j : Int) ∧ Ext w2 wr ∧ Hid (v.texts.take j = u.texts.take j)) (fun _ i _ => v.texts.length - (intOf i).toNat)
              case atStart => exact ⟨0, Nat.zero_le _, rfl, hE1, rfl⟩
              case round =>
                obtain ⟨j, hj, rfl, hE2, hT2⟩ := hrel
                have ar := hE2.of_cell a2
                have br := hE2.of_cell b2
                by_cases hlt : j < v.texts.length
                · have hltI : (j : Int) < (v.texts.length : Int) := by omega
                  have hlu : j < u.texts.length := by have := E2.out; omega
                  obtain ⟨c1, off1, f1, hA, h1, hb1, _, d0⟩ := (hv.own.texts.up (X0.trans hE2)).text (k := j) hlt
                  obtain ⟨c2, off2, f2, hB, h2, hb2, _, g0⟩ := (hu.own.texts.up (X0.trans hE2)).text (k := j) hlu
                  rw [hA] at ar
                  rw [hB] at br
                  have H1 := Lib.hid h1
                  have H2 := Lib.hid h2
                  by_cases hf : f1 = f2
                  · have q2 : (f1.toList == f2.toList) = true := by rw [str_eq]; exact decide_eq_true hf
                    have Hf := Lib.hid hf
                    clear h1 h2 hf
                    go_wp2
                    go_quiet (fail)
                    go_wp2
                    go_roundw
                    case rel => exact ⟨j + 1, by omega, by go_num, hE2.trans (by repeat with_reducible (first | exact Ext.refl _ | refine Ext.alloc ?_ _ | refine Ext.drew ?_ | refine Ext.drewN ?_ _ | refine Ext.setCell ?_ (by first | exact Nat.le_refl _ | omega | (simp; done) | (simp; omega)) _)), by show _ = _; rw [take_snoc _ _ _ H1.out, take_snoc _ _ _ H2.out, hT2.out, Hf.out]⟩
                    case measure => simp [intOf]; omega
                  · have q2 := str_ne hf
                    have Hf := Lib.hid hf
                    clear h1 h2 hf
                    go_wp2
                    go_quiet (fail)
                    go_wp2
                    go_ret
                    refine ⟨ret_bool (eqB_no ?_).symm, (X0.trans hE2).trans (by repeat with_reducible (first | exact Ext.refl _ | refine Ext.alloc ?_ _ | refine Ext.drew ?_ | refine Ext.drewN ?_ _ | refine Ext.setCell ?_ (by first | exact Nat.le_refl _ | omega | (simp; done) | (simp; omega)) _))⟩
                    intro hh
                    have hh := (bareV_iff.1 hh).2.2.1
                    have h1 := H1.out
                    rw [hh] at h1
                    have := h1.symm.trans H2.out
                    exact Hf.out (by simpa using this)
                · have hge : ¬ ((j : Int) < (v.texts.length : Int)) := by omega
                  have hfin2 : v.texts = u.texts := by
                    have := hT2.out
                    have hn := E2.out
                    rwa [List.take_of_length_le (by omega), List.take_of_length_le (by omega)] at this
                  have F2 := Lib.hid hfin2
                  clear hfin2
                  go_wp2
                  go_loopw [4, 7] (fun _ i wr => ∃ j : Nat, j ≤ v.subs.length ∧ i = .int .i64 (j : Int) ∧ Ext w2 wr ∧ Hid ((v.subs.map bare).take j = (u.subs.map bare).take j)) (fun _ i _ => v.subs.length - (intOf i).toNat)
                  case atStart => exact ⟨0, Nat.zero_le _, rfl, hE2, rfl⟩
                  case round =>
                    obtain ⟨j, hj, rfl, hE3, hT3⟩ := hrel
                    have ar := hE3.of_cell a3
                    have br := hE3.of_cell b3
                    by_cases hlt : j < v.subs.length
                    · have hltI : (j : Int) < (v.subs.length : Int) := by omega
                      have hlu : j < u.subs.length := by have := E3.out; omega
                      obtain ⟨c1, off1, f1, hA, h1, hb1, d0, d1⟩ := treeCells (hv.own.subs.ext (X0.trans hE3)) hlt
                      obtain ⟨c2, off2, f2, hB, h2, hb2, g0, g1⟩ := treeCells (hu.own.subs.ext (X0.trans hE3)) hlu
                      rw [hA] at ar
                      rw [hB] at br
                      have H1 := Lib.hid h1
                      have H2 := Lib.hid h2
                      have M1 : Hid ((v.subs.map bare)[j]? = some (bare f1)) := by show _ = _; rw [List.getElem?_map, h1]; rfl
                      have M2 : Hid ((u.subs.map bare)[j]? = some (bare f2)) := by show _ = _; rw [List.getElem?_map, h2]; rfl
                      have hc := Hp.out f1 (List.mem_of_getElem? h1) f2 (List.mem_of_getElem? h2)
                      unfold treeV at hc
                      by_cases hf : bare f1 = bare f2
                      · rw [eqB_yes hf] at hc
                        have Hf := Lib.hid hf
                        have Hc := Lib.hid hc
                        clear h1 h2 hf hc hA hB
                        have k1 := World.block_lt_of_cell? _ _ ar
                        have k2 := World.block_lt_of_cell? _ _ br
                        simp only at k1 k2
                        go_wp2
                        have Xw : Ext wr wr := Ext.refl wr
                        go_region_held3 (fun W => Ext wr W ∧ ∀ b o, b < wr.heap.size → W.cell? ⟨b, o, none⟩ = wr.cell? ⟨b, o, none⟩) ((refine Ext.keep ?_; repeat with_reducible (first | assumption | exact Ext.refl _ | refine Ext.alloc ?_ _ | refine Ext.drew ?_ | refine Ext.drewN ?_ _ | refine Ext.setCell ?_ (by first | exact Nat.le_refl _ | omega | (simp; done) | (simp; omega)) _))) (first | (go_split_ands; go_at_call 17; refine (Hc.out _ ((X0.trans hE3).trans (by with_reducible assumption))).mono ?_; rintro e w9 ⟨rfl, E9⟩; have q0 : Ext wr w9 := Ext.trans (by with_reducible assumption) E9))
                        go_wp2
                        go_roundw
                        case rel => exact ⟨j + 1, by omega, by go_num, hE3.trans q0, by show _ = _; rw [take_snoc _ _ _ M1.out, take_snoc _ _ _ M2.out, hT3.out, Hf.out]⟩
                        case measure => simp [intOf]; omega
                      · rw [eqB_no hf] at hc
                        have Hf := Lib.hid hf
                        have Hc := Lib.hid hc
                        clear h1 h2 hf hc hA hB
                        have k1 := World.block_lt_of_cell? _ _ ar
                        have k2 := World.block_lt_of_cell? _ _ br
                        simp only at k1 k2
                        go_wp2
                        have Xw : Ext wr wr := Ext.refl wr
                        go_region_held3 (fun W => Ext wr W ∧ ∀ b o, b < wr.heap.size → W.cell? ⟨b, o, none⟩ = wr.cell? ⟨b, o, none⟩) ((refine Ext.keep ?_; repeat with_reducible (first | assumption | exact Ext.refl _ | refine Ext.alloc ?_ _ | refine Ext.drew ?_ | refine Ext.drewN ?_ _ | refine Ext.setCell ?_ (by first | exact Nat.le_refl _ | omega | (simp; done) | (simp; omega)) _))) (first | (go_split_ands; go_at_call 17; refine (Hc.out _ ((X0.trans hE3).trans (by with_reducible assumption))).mono ?_; rintro e w9 ⟨rfl, E9⟩; have q0 : Ext wr w9 := Ext.trans (by with_reducible assumption) E9))
                        go_wp2
                        go_ret
                        refine ⟨ret_bool (eqB_no ?_).symm, (X0.trans hE3).trans q0⟩
                        intro hh
                        have hh := (bareV_iff.1 hh).2.2.2
                        have h1 := M1.out
                        rw [hh] at h1
                        have := h1.symm.trans M2.out
                        exact Hf.out (by simpa using this)
                    · have hge : ¬ ((j : Int) < (v.subs.length : Int)) := by omega
                      have hfin3 : v.subs.map bare = u.subs.map bare := by
                        have := hT3.out
                        have hn := E3.out
                        rwa [List.take_of_length_le (by simp; omega), List.take_of_length_le (by simp; omega)] at this
                      have F3 := Lib.hid hfin3
                      clear hfin3
                      go_wp2
                      go_ret
                      exact ⟨ret_bool (eqB_yes (bareV_iff.2 ⟨E0.out, F1.out, F2.out, F3.out⟩)).symm, (X0.trans hE3).trans (by repeat with_reducible (first | exact Ext.refl _ | refine Ext.alloc ?_ _ | refine Ext.drew ?_ | refine Ext.drewN ?_ _ | refine Ext.setCell ?_ (by first | exact Nat.le_refl _ | omega | (simp; done) | (simp; omega)) _))⟩
        · have t0 : (v.number != u.number) = false := by simp [e0]
          have t1 : ((v.words.length : Int) != (u.words.length : Int)) = false := by simp [e1]
          have t2 : ((v.texts.length : Int) != (u.texts.length : Int)) = false := by simp [e2]
          have t3 : ((v.subs.length : Int) != (u.subs.length : Int)) = true := by simp; omega
          have E0 := Lib.hid e0
          have E1 := Lib.hid e1
          have E2 := Lib.hid e2
          have E3 := Lib.hid e3
          clear e0 e1 e2 e3
          go_enter Try.func8, Try.ntmps8
          go_wp2
          go_ret
          refine ⟨ret_bool (eqB_no ?_).symm, (by repeat with_reducible (first | exact Ext.refl _ | refine Ext.alloc ?_ _ | refine Ext.drew ?_ | refine Ext.drewN ?_ _ | refine Ext.setCell ?_ (by first | exact Nat.le_refl _ | omega | (simp; done) | (simp; omega)) _))⟩
          intro hh
          have hh := bareV_iff.1 hh
          refine E3.out ?_
          have := congrArg List.length hh.2.2.2
          simpa using this
      · have t0 : (v.number != u.number) = false := by simp [e0]
        have t1 : ((v.words.length : Int) != (u.words.length : Int)) = false := by simp [e1]
        have t2 : ((v.texts.length : Int) != (u.texts.length : Int)) = true := by simp; omega
        have E0 := Lib.hid e0
        have E1 := Lib.hid e1
        have E2 := Lib.hid e2
        clear e0 e1 e2
        go_enter Try.func8, Try.ntmps8
        go_wp2
        go_ret
        refine ⟨ret_bool (eqB_no ?_).symm, (by repeat with_reducible (first | exact Ext.refl _ | refine Ext.alloc ?_ _ | refine Ext.drew ?_ | refine Ext.drewN ?_ _ | refine Ext.setCell ?_ (by first | exact Nat.le_refl _ | omega | (simp; done) | (simp; omega)) _))⟩
        intro hh
        have hh := bareV_iff.1 hh
        exact E2.out (by rw [hh.2.2.1])
    · have t0 : (v.number != u.number) = false := by simp [e0]
      have t1 : ((v.words.length : Int) != (u.words.length : Int)) = true := by simp; omega
      have E0 := Lib.hid e0
      have E1 := Lib.hid e1
      clear e0 e1
      go_enter Try.func8, Try.ntmps8
      go_wp2
      go_ret
      refine ⟨ret_bool (eqB_no ?_).symm, (by repeat with_reducible (first | exact Ext.refl _ | refine Ext.alloc ?_ _ | refine Ext.drew ?_ | refine Ext.drewN ?_ _ | refine Ext.setCell ?_ (by first | exact Nat.le_refl _ | omega | (simp; done) | (simp; omega)) _))⟩
      intro hh
      have hh := bareV_iff.1 hh
      exact E1.out (by rw [hh.2.1])
  · have t0 : (v.number != u.number) = true := by simp [e0]
    have E0 := Lib.hid e0
    clear e0
    go_enter Try.func8, Try.ntmps8
    go_wp2
    go_ret
    refine ⟨ret_bool (eqB_no ?_).symm, (by repeat with_reducible (first | exact Ext.refl _ | refine Ext.alloc ?_ _ | refine Ext.drew ?_ | refine Ext.drewN ?_ _ | refine Ext.setCell ?_ (by first | exact Nat.le_refl _ | omega | (simp; done) | (simp; omega)) _))⟩
    intro hh
    have hh := bareV_iff.1 hh
    exact E0.out hh.1

set_option maxRecDepth 100000 in
set_option maxHeartbeats 4000000 in
theorem rsameM {x y : MsgR} {w : World} (hx : TreeAt w x) (hy : TreeAt w y) (hp : ∀ v ∈ x.vals, ∀ u ∈ y.vals, ∀ W : World, Ext w W → Calls Try.prog 8 #[tvalV v, tvalV u] W fun e W' => e = .returned (.bool (eqB (bareV v = bareV u))) ∧ Ext W W') :
    Calls Try.prog 17 #[treeV x, treeV y] w fun e w' => e = .returned (.bool (eqB (bare x = bare y))) ∧ Ext w w' := by
  have Hp := Lib.hid hp
  clear hp
  have hxv := hx.vals.max
  have hxv' := hx.vals.cap
  have hxu := hx.unk.at_.max
  have hxu' := hx.unk.at_.cap
  have hyv := hy.vals.max
  have hyv' := hy.vals.cap
  have hyu := hy.unk.at_.max
  have hyu' := hy.unk.at_.cap
  unfold maxLen at hxv hxu hyv hyu
  unfold treeV
  by_cases e0 : x.vals.length = y.vals.length
  · by_cases e1 : x.unk.length = y.unk.length
    · rw [← e0, ← e1]
      rw [← e0] at hyv'
      rw [← e1] at hyu'
      have t0 : ((x.vals.length : Int) != (x.vals.length : Int)) = false := by simp
      have t1 : ((x.unk.length : Int) != (x.unk.length : Int)) = false := by simp
      have E0 := Lib.hid e0
      have E1 := Lib.hid e1
      clear e0 e1
      go_enter Try.func17, Try.ntmps17
      go_wp2
      have B1 : BlkT ((w.alloc (.cells #[.slice x.a.1 x.vals.length x.a.2, .slice x.b.1 x.unk.length x.b.2] 66)).alloc (.cells #[.slice y.a.1 x.vals.length y.a.2, .slice y.b.1 x.unk.length y.b.2] 66)) w.heap.size 66 #[.slice x.a.1 x.vals.length x.a.2, .slice x.b.1 x.unk.length x.b.2] := (BlkT.new w _ _ rfl).alloc _
      have B2 : BlkT ((w.alloc (.cells #[.slice x.a.1 x.vals.length x.a.2, .slice x.b.1 x.unk.length x.b.2] 66)).alloc (.cells #[.slice y.a.1 x.vals.length y.a.2, .slice y.b.1 x.unk.length y.b.2] 66)) (w.heap.size + 1) 66 #[.slice y.a.1 x.vals.length y.a.2, .slice y.b.1 x.unk.length y.b.2] := BlkT.new _ _ _ (by simp)
      have X0 : Ext w ((w.alloc (.cells #[.slice x.a.1 x.vals.length x.a.2, .slice x.b.1 x.unk.length x.b.2] 66)).alloc (.cells #[.slice y.a.1 x.vals.length y.a.2, .slice y.b.1 x.unk.length y.b.2] 66)) := (by repeat with_reducible (first | exact Ext.refl _ | refine Ext.alloc ?_ _ | refine Ext.drew ?_ | refine Ext.drewN ?_ _ | refine Ext.setCell ?_ (by first | exact Nat.le_refl _ | omega | (simp; done) | (simp; omega)) _))
      generalize ((w.alloc (.cells #[.slice x.a.1 x.vals.length x.a.2, .slice x.b.1 x.unk.length x.b.2] 66)).alloc (.cells #[.slice y.a.1 x.vals.length y.a.2, .slice y.b.1 x.unk.length y.b.2] 66)) = w2 at *
      have a1 : w2.cell? ⟨w.heap.size, 0, none⟩ = some (.slice x.a.1 x.vals.length x.a.2) := B1.cell 0
      have b1 : w2.cell? ⟨w.heap.size + 1, 0, none⟩ = some (.slice y.a.1 x.vals.length y.a.2) := B2.cell 0
      have a2 : w2.cell? ⟨w.heap.size, 1, none⟩ = some (.slice x.b.1 x.unk.length x.b.2) := B1.cell 1
      have b2 : w2.cell? ⟨w.heap.size + 1, 1, none⟩ = some (.slice y.b.1 x.unk.length y.b.2) := B2.cell 1
      go_loopw [4, 5] (fun _ i wr => ∃ j : Nat, j ≤ x.vals.length ∧ i = .int .i64 (j : Int) ∧ Ext w2 wr ∧ Hid ((x.vals.map bareV).take j = (y.vals.map bareV).take j)) (fun _ i _ => x.vals.length - (intOf i).toNat)
      case atStart => exact ⟨0, Nat.zero_le _, rfl, Ext.refl _, rfl⟩
      case round =>
        obtain ⟨j, hj, rfl, hE1, hT1⟩ := hrel
        have ar := hE1.of_cell a1
        have br := hE1.of_cell b1
        by_cases hlt : j < x.vals.length
        · have hltI : (j : Int) < (x.vals.length : Int) := by omega
          have hlu : j < y.vals.length := by have := E0.out; omega
          obtain ⟨c1, off1, f1, hA, h1, hb1, d0, d1, d2, d3⟩ := valCells (hx.vals.ext (X0.trans hE1)) hlt
          obtain ⟨c2, off2, f2, hB, h2, hb2, g0, g1, g2, g3⟩ := valCells (hy.vals.ext (X0.trans hE1)) hlu
          rw [hA] at ar
          rw [hB] at br
          have M1 : Hid ((x.vals.map bareV)[j]? = some (bareV f1)) := by show _ = _; rw [List.getElem?_map, h1]; rfl
          have M2 : Hid ((y.vals.map bareV)[j]? = some (bareV f2)) := by show _ = _; rw [List.getElem?_map, h2]; rfl
          have hc := Hp.out f1 (List.mem_of_getElem? h1) f2 (List.mem_of_getElem? h2)
          unfold tvalV at hc
          by_cases hf : bareV f1 = bareV f2
          · rw [eqB_yes hf] at hc
            have Hf := Lib.hid hf
            have Hc := Lib.hid hc
            clear h1 h2 hf hc hA hB
            have k1 := World.block_lt_of_cell? _ _ ar
            have k2 := World.block_lt_of_cell? _ _ br
            simp only at k1 k2
            go_wp2
            have Xw : Ext wr wr := Ext.refl wr
            go_region_held3 (fun W => Ext wr W ∧ ∀ b o, b < wr.heap.size → W.cell? ⟨b, o, none⟩ = wr.cell? ⟨b, o, none⟩) ((refine Ext.keep ?_; repeat with_reducible (first | assumption | exact Ext.refl _ | refine Ext.alloc ?_ _ | refine Ext.drew ?_ | refine Ext.drewN ?_ _ | refine Ext.setCell ?_ (by first | exact Nat.le_refl _ | omega | (simp; done) | (simp; omega)) _))) (first | (go_split_ands; go_at_call 8; refine (Hc.out _ ((X0.trans hE1).trans (by with_reducible assumption))).mono ?_; rintro e w9 ⟨rfl, E9⟩; have q0 : Ext wr w9 := Ext.trans (by with_reducible assumption) E9))
            go_wp2
            go_roundw
            case rel => exact ⟨j + 1, by omega, by go_num, hE1.trans q0, by show _ = _; rw [take_snoc _ _ _ M1.out, take_snoc _ _ _ M2.out, hT1.out, Hf.out]⟩
            case measure => simp [intOf]; omega
          · rw [eqB_no hf] at hc
            have Hf := Lib.hid hf
            have Hc := Lib.hid hc
            clear h1 h2 hf hc hA hB
            have k1 := World.block_lt_of_cell? _ _ ar
            have k2 := World.block_lt_of_cell? _ _ br
            simp only at k1 k2
            go_wp2
            have Xw : Ext wr wr := Ext.refl wr
            go_region_held3 (fun W => Ext wr W ∧ ∀ b o, b < wr.heap.size → W.cell? ⟨b, o, none⟩ = wr.cell? ⟨b, o, none⟩) ((refine Ext.keep ?_; repeat with_reducible (first | assumption | exact Ext.refl _ | refine Ext.alloc ?_ _ | refine Ext.drew ?_ | refine Ext.drewN ?_ _ | refine Ext.setCell ?_ (by first | exact Nat.le_refl _ | omega | (simp; done) | (simp; omega)) _))) (first | (go_split_ands; go_at_call 8; refine (Hc.out _ ((X0.trans hE1).trans (by with_reducible assumption))).mono ?_; rintro e w9 ⟨rfl, E9⟩; have q0 : Ext wr w9 := Ext.trans (by with_reducible assumption) E9))
            go_wp2
            go_ret
            refine ⟨ret_bool (eqB_no ?_).symm, (X0.trans hE1).trans q0⟩
            intro hh
            have hh := (bare_iff.1 hh).2
            have h1 := M1.out
            rw [hh] at h1
            have := h1.symm.trans M2.out
            exact Hf.out (by simpa using this)
        · have hge : ¬ ((j : Int) < (x.vals.length : Int)) := by omega
          have hfin1 : x.vals.map bareV = y.vals.map bareV := by
            have := hT1.out
            have hn := E0.out
            rwa [List.take_of_length_le (by simp; omega), List.take_of_length_le (by simp; omega)] at this
          have F1 := Lib.hid hfin1
          clear hfin1
          go_wp2
          go_loopw [4, 6] (fun _ i wr => ∃ j : Nat, j ≤ x.unk.length ∧ i = .int .i64 (j : Int) ∧ Ext w2 wr ∧ Hid (x.unk.take j = y.unk.take j)) (fun _ i _ => x.unk.length - (intOf i).toNat)
          case atStart => exact ⟨0, Nat.zero_le _, rfl, hE1, rfl⟩
          case round =>
            obtain ⟨j, hj, rfl, hE2, hT2⟩ := hrel
            have ar := hE2.of_cell a2
            have br := hE2.of_cell b2
            by_cases hlt : j < x.unk.length
            · have hltI : (j : Int) < (x.unk.length : Int) := by omega
              have hlu : j < y.unk.length := by have := E1.out; omega
              obtain ⟨c1, off1, f1, hA, h1, hb1, _, d0⟩ := (hx.unk.up (X0.trans hE2)).text (k := j) hlt
              obtain ⟨c2, off2, f2, hB, h2, hb2, _, g0⟩ := (hy.unk.up (X0.trans hE2)).text (k := j) hlu
              rw [hA] at ar
              rw [hB] at br
              have H1 := Lib.hid h1
              have H2 := Lib.hid h2
              by_cases hf : f1 = f2
              · have q2 : (f1.toList == f2.toList) = true := by rw [str_eq]; exact decide_eq_true hf
                have Hf := Lib.hid hf
                clear h1 h2 hf
                go_wp2
                go_quiet (fail)
                go_wp2
                go_roundw
                case rel => exact ⟨j + 1, by omega, by go_num, hE2.trans (by repeat with_reducible (first | exact Ext.refl _ | refine Ext.alloc ?_ _ | refine Ext.drew ?_ | refine Ext.drewN ?_ _ | refine Ext.setCell ?_ (by first | exact Nat.le_refl _ | omega | (simp; done) | (simp; omega)) _)), by show _ = _; rw [take_snoc _ _ _ H1.out, take_snoc _ _ _ H2.out, hT2.out, Hf.out]⟩
                case measure => simp [intOf]; omega
              · have q2 := str_ne hf
                have Hf := Lib.hid hf
                clear h1 h2 hf
                go_wp2
                go_quiet (fail)
                go_wp2
                go_ret
                refine ⟨ret_bool (eqB_no ?_).symm, (X0.trans hE2).trans (by repeat with_reducible (first | exact Ext.refl _ | refine Ext.alloc ?_ _ | refine Ext.drew ?_ | refine Ext.drewN ?_ _ | refine Ext.setCell ?_ (by first | exact Nat.le_refl _ | omega | (simp; done) | (simp; omega)) _))⟩
                intro hh
                have hh := (bare_iff.1 hh).1
                have h1 := H1.out
                rw [hh] at h1
                have := h1.symm.trans H2.out
                exact Hf.out (by simpa using this)
            · have hge : ¬ ((j : Int) < (x.unk.length : Int)) := by omega
              have hfin2 : x.unk = y.unk := by
                have := hT2.out
                have hn := E1.out
                rwa [List.take_of_length_le (by omega), List.take_of_length_le (by omega)] at this
              have F2 := Lib.hid hfin2
              clear hfin2
              go_wp2
              go_ret
              exact ⟨ret_bool (eqB_yes (bare_iff.2 ⟨F2.out, F1.out⟩)).symm, (X0.trans hE2).trans (by repeat with_reducible (first | exact Ext.refl _ | refine Ext.alloc ?_ _ | refine Ext.drew ?_ | refine Ext.drewN ?_ _ | refine Ext.setCell ?_ (by first | exact Nat.le_refl _ | omega | (simp; done) | (simp; omega)) _))⟩
    · have t0 : ((x.vals.length : Int) != (y.vals.length : Int)) = false := by simp [e0]
      have t1 : ((x.unk.length : Int) != (y.unk.length : Int)) = true := by simp; omega
      have E0 := Lib.hid e0
      have E1 := Lib.hid e1
      clear e0 e1
      go_enter Try.func17, Try.ntmps17
      go_wp2
      go_ret
      refine ⟨ret_bool (eqB_no ?_).symm, (by repeat with_reducible (first | exact Ext.refl _ | refine Ext.alloc ?_ _ | refine Ext.drew ?_ | refine Ext.drewN ?_ _ | refine Ext.setCell ?_ (by first | exact Nat.le_refl _ | omega | (simp; done) | (simp; omega)) _))⟩
      intro hh
      exact E1.out (by rw [(bare_iff.1 hh).1])
  · have t0 : ((x.vals.length : Int) != (y.vals.length : Int)) = true := by simp; omega
    have E0 := Lib.hid e0
    clear e0
    go_enter Try.func17, Try.ntmps17
    go_wp2
    go_ret
    refine ⟨ret_bool (eqB_no ?_).symm, (by repeat with_reducible (first | exact Ext.refl _ | refine Ext.alloc ?_ _ | refine Ext.drew ?_ | refine Ext.drewN ?_ _ | refine Ext.setCell ?_ (by first | exact Nat.le_refl _ | omega | (simp; done) | (simp; omega)) _))⟩
    intro hh
    refine E0.out ?_
    have := congrArg List.length (bare_iff.1 hh).2
    simpa using this

def RSame (x : MsgR) : Prop := ∀ (y : MsgR) (w : World), TreeAt w x → TreeAt w y → Calls Try.prog 17 #[treeV x, treeV y] w fun e w' => e = .returned (.bool (eqB (bare x = bare y))) ∧ Ext w w'

theorem rSame (x : MsgR) : RSame x := by
  refine MsgX.ind (P := RSame) (fun x ih => ?_) x
  intro y w hx hy
  refine rsameM hx hy (fun v hv u hu W hW => ?_)
  exact rsameV ((hx.val hv).up hW) ((hy.val hu).up hW) (fun y' hy' z hz W' hW' => ih v hv y' hy' z W' ((((hx.val hv).up hW).sub y' hy').up hW') ((((hy.val hu).up hW).sub z hz).up hW'))

end Go.Proofs.Ytnnphodgegcddaa
