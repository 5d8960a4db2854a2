/- Contracts of layer 10: views are struck out of a slice of the call's own, in place. -/
import Derived.Test.YtlmmlmmadgcmcaaW10d
namespace Go.Proofs.Ytlmmlmmadgcmcaa
open Go.RowKit Go.Shelf
set_option linter.unusedVariables false

theorem zeroView (w : World) : (zeroValue 48).run Try.prog w = .ok (.agg #[.int .i64 0, .int .i64 0, .int .i64 0, .int .i64 0, .int .i64 0, .int .i64 0, .bool false]) w := by kernel_rfl

theorem clearView (w : World) (b o n c : Nat) (hc : ∀ j, j < n * 7 → (w.cell? ⟨b, o + j, none⟩).isSome = true) (hf : ∀ j, j < n * 7 → w.frozen? ⟨b, o + j, none⟩ = false) :
    ∃ vs, ∀ ty, (Builtin.clear_ #[56] ty #[.slice (some ⟨b, o, none⟩) n c]).run Try.prog w = .ok (.tuple #[]) (w.setCells b o vs) := by
  refine run_clear_any w _ _ _ Try.underlying56 zeroView (fun n v hv => ?_) b o n c hc hf
  simp only [Builtin.zeroCells, Array.toList_map, List.mem_map] at hv
  obtain ⟨i, _, rfl⟩ := hv
  have : ∀ k, k < 7 → ((Value.agg #[.int .i64 0, .int .i64 0, .int .i64 0, .int .i64 0, .int .i64 0, .int .i64 0, .bool false]).cells[k]!).oneCell' = true := by decide
  exact this _ (Nat.mod_lt _ (by decide))

theorem take_filter {α : Type} {p : α → Bool} {l : List α} {k : Nat} {x : α} (h : l[k]? = some x) : (l.take (k + 1)).filter p = (l.take k).filter p ++ (if p x = true then [x] else []) := by
  rw [List.take_add_one, h, List.filter_append]
  congr 1
  simp only [Option.toList_some, List.filter_cons, List.filter_nil]

theorem filter_before {α : Type} {p : α → Bool} {l : List α} {k : Nat} (h : ∀ (j : Nat) y, j < k → l[j]? = some y → p y = false) : (l.take k).filter (fun x => !p x) = l.take k := by
  rw [List.filter_eq_self]
  intro x hx
  obtain ⟨j, hj, rfl⟩ := List.getElem_of_mem hx
  rw [List.length_take] at hj
  have := h j _ (by omega) (by rw [List.getElem?_eq_getElem (by omega)])
  rw [List.getElem_take, this]
  rfl

/-- What lies at the cells of the row: each is there, none is frozen. -/
theorem Own.there {w0 w : World} {e : TypeId} {size g n c : Nat} {xs : List Value} (h : Own w0 w e size (some ⟨g, 0, none⟩) n c xs) : (∀ i, i < n * size → (w.cell? ⟨g, i, none⟩).isSome = true) ∧ ∀ i, w.frozen? ⟨g, i, none⟩ = false := by
  rcases h.row.2 with ⟨hv, _⟩ | ⟨g', cap, cur, hv, hg, hh, hnc, hcm, hcs, ht⟩
  · cases hv
  · cases hv
    refine ⟨fun i hi => ?_, fun i => by simp [World.frozen?, hh]⟩
    have hlt : i < cur.size := by rw [hcs]; exact Nat.lt_of_lt_of_le hi (Nat.mul_le_mul_right _ hnc)
    simp [World.cell?, hh, hlt]

set_option maxHeartbeats 1000000 in
set_option maxRecDepth 100000 in
theorem delView {A : Option Addr} {n c : Nat} {X : List ViewD} {w0 w : World} {f : FuncId} {lb : Array Value} {p : ViewD → Bool} (eg : ∀ args w, (callFunc f args).run Try.prog w = .ok (.enter f args) w)
    (own : Own w0 w 48 7 A n c (X.flatMap viewC)) (hn : n ≤ 1000000000)
    (hp : ∀ (g : Nat) (W : World) (v : ViewD), A = some ⟨g, 0, none⟩ → Only g w W → Calls Try.prog f (#[viewV v] ++ lb) W fun e W' => e = .returned (.bool (p v)) ∧ Ext W W')
    (hp0 : ∀ (W : World) (v : ViewD), Ext w W → Calls Try.prog f (#[viewV v] ++ lb) W fun e W' => e = .returned (.bool (p v)) ∧ Ext W W') :
    Calls Try.prog 107 #[.slice A n c, .func (.func f) #[] lb] w fun e w' => ∃ A', e = .returned (.slice A' (X.filter fun v => !p v).length c) ∧ Own w0 w' 48 7 A' (X.filter fun v => !p v).length c ((X.filter fun v => !p v).flatMap viewC) := by
  have hl : X.length = n := by have := own.reads.len; rw [flat_length (size := 7) (fun _ => rfl)] at this; omega
  have Hl := Lib.hid hl
  have Hp := Lib.hid hp
  have hix := idxView (p := p) eg own.reads (by omega) hp0
  obtain ⟨I, hI⟩ : ∃ I, I = idxB p X := ⟨_, rfl⟩
  rw [← hI] at hix
  have Hix := Lib.hid hix
  rcases idxB_cases p X with ⟨i1, i2⟩ | ⟨k, x, i1, i2, i3, i4⟩
  · have hall : X.filter (fun v => !p v) = X := by
      rw [List.filter_eq_self]
      intro v hv
      rw [i2 v hv]
      rfl
    rw [hall, hl]
    have hI1 : I = -1 := by rw [hI, i1]
    subst hI1
    clear hix hI i1 i2 hall hp hp0 hl Hp
    go_enter Try.func107, Try.ntmps107
    go_wp2_with (go_at_call 113; refine Hix.out.mono ?_; rintro e w1 ⟨rfl, E1⟩)
    go_ret
    exact ⟨A, rfl, own.up E1⟩
  · have hkn : k < n := by have := (List.getElem?_eq_some_iff.1 i2).1; omega
    obtain ⟨g, rfl⟩ : ∃ g, A = some ⟨g, 0, none⟩ := by
      rcases own.row.2 with ⟨hv, h0⟩ | ⟨g, cap, cur, hv, _⟩
      · omega
      · cases hv; exact ⟨g, rfl⟩
    have hbase := own.base
    have hI1 : I = (k : Int) := by rw [hI, i1]
    subst hI1
    have hq : ((k : Int) == -1) = false := by rw [beq_eq_false_iff_ne]; omega
    have hfb := filter_before i4
    have h2 := i2
    have hf2 : (X.take (k + 1)).filter (fun v => !p v) = X.take k := by
      rw [take_filter h2, hfb, if_neg (by rw [i3]; simp), List.append_nil]
    have Hf2 := Lib.hid hf2
    clear hix hI i1 i2 i3 i4 hfb h2 hf2 hp hp0 hl
    go_enter Try.func107, Try.ntmps107
    go_wp2_with (go_at_call 113; refine Hix.out.mono ?_; rintro e w1 ⟨rfl, E1⟩)
    go_loopw [5, 6, 7] (fun i j _ wr => ∃ (iN jN : Nat) (Y : List ViewD), i = .int .i64 iN ∧ j = .int .i64 jN ∧ iN < jN ∧ jN ≤ n ∧ Own w0 wr 48 7 (some ⟨g, 0, none⟩) n c (Y.flatMap viewC) ∧ Y.length = n ∧
      Hid (Y.take iN = (X.take jN).filter (fun v => !p v)) ∧ Hid (Y.drop jN = X.drop jN) ∧ Only g w wr) (fun _ j _ _ => n - (intOf j).toNat)
    case atStart => exact ⟨k, k + 1, X, rfl, by go_num, by omega, by omega, own.up E1, Hl.out, Hf2.out.symm, rfl, (Only.refl g w).ext E1⟩
    case round =>
      obtain ⟨iN, jN, Y, rfl, rfl, hij, hj, ownY, hYl, hT, hD, hO⟩ := hrel
      by_cases hlt : jN < n
      · obtain ⟨b, off, v, hA, hv, hb1, c0, c1, c2, c3, c4, c5, c6⟩ := ownY.reads.view' hlt
        cases hA
        have hlt2 : (jN : Int) < n := by omega
        have hXv : X[jN]? = some v := by
          have h := congrArg (fun l => l[0]?) hD.out
          simp only [List.getElem?_drop, Nat.add_zero] at h
          rw [← h]; exact hv
        have htf := take_filter (p := fun v => !p v) hXv
        have hD2 : Y.drop (jN + 1) = X.drop (jN + 1) := by
          have h := congrArg (List.drop 1) hD.out
          simpa [List.drop_drop] using h
        have hgw := ownY.base
        have hcall := Hp.out g wr v rfl hO
        have HD2 := Lib.hid hD2
        have HYl := Lib.hid hYl
        have Hv := Lib.hid hv
        simp only [Nat.zero_add] at c0 c1 c2 c3 c4 c5 c6
        obtain ⟨⟨vn, vw, vf, va, vt⟩, vfi, vr⟩ := v
        simp only at c0 c1 c2 c3 c4 c5 c6
        have hcall2 := fun W (h : Only g w W) => Hp.out g W ⟨⟨vn, vw, vf, va, vt⟩, vfi, vr⟩ rfl h
        unfold viewV at hcall2
        rcases hq2 : p ⟨⟨vn, vw, vf, va, vt⟩, vfi, vr⟩ with _ | _
        · rw [hq2] at htf hcall2
          have Hc := Lib.hid hcall2
          have Htf := Lib.hid htf
          clear hcall hcall2 hq2 htf hD2 hv hXv hYl
          go_wp2_with (go_at_fn f; refine (Hc.out _ (hO.ext (by repeat with_reducible (first | exact Ext.refl _ | refine Ext.alloc ?_ _ | refine Ext.drew ?_ | refine Ext.drewN ?_ _ | refine Ext.setCell ?_ (by first | exact Nat.le_refl _ | omega | (simp; done) | (simp; omega)) _)))).mono ?_; rintro e w2 ⟨rfl, E2⟩; have D2 := E2.new_blk; have y0 : w2.cell? ⟨wr.heap.size, 0, none⟩ = some (.int .i64 (vn : Int)) := D2.cell 0; have y1 : w2.cell? ⟨wr.heap.size, 1, none⟩ = some (.int .i64 (vw : Int)) := D2.cell 1; have y2 : w2.cell? ⟨wr.heap.size, 2, none⟩ = some (.int .i64 (vf : Int)) := D2.cell 2; have y3 : w2.cell? ⟨wr.heap.size, 3, none⟩ = some (.int .i64 (va : Int)) := D2.cell 3; have y4 : w2.cell? ⟨wr.heap.size, 4, none⟩ = some (.int .i64 (vt : Int)) := D2.cell 4; have y5 : w2.cell? ⟨wr.heap.size, 5, none⟩ = some (.int .i64 vfi) := D2.cell 5; have y6 : w2.cell? ⟨wr.heap.size, 6, none⟩ = some (.bool vr) := D2.cell 6; clear D2; have own2 := ownY.up (Ext.trans (by repeat with_reducible (first | exact Ext.refl _ | refine Ext.alloc ?_ _ | refine Ext.drew ?_ | refine Ext.drewN ?_ _ | refine Ext.setCell ?_ (by first | exact Nat.le_refl _ | omega | (simp; done) | (simp; omega)) _)) E2); have hO2 := (hO.ext (by repeat with_reducible (first | exact Ext.refl _ | refine Ext.alloc ?_ _ | refine Ext.drew ?_ | refine Ext.drewN ?_ _ | refine Ext.setCell ?_ (by first | exact Nat.le_refl _ | omega | (simp; done) | (simp; omega)) _))).ext E2; have fr := own2.there.2; obtain ⟨b', off', u, hA', hu, hb2, z0, z1, z2, z3, z4, z5, z6⟩ := own2.reads.view' (k := iN) (by omega); cases hA'; simp only [Nat.zero_add] at z0 z1 z2 z3 z4 z5 z6; have Hu := Lib.hid hu; clear hu)
          go_roundw
          case rel =>
            refine ⟨iN + 1, jN + 1, Y.set iN ⟨⟨vn, vw, vf, va, vt⟩, vfi, vr⟩, by go_num, by go_num, by omega, by omega, ?_, by rw [List.length_set]; exact HYl.out, ?_, ?_, ?_⟩
            · rw [← set_view Y (by have := HYl.out; omega)]
              exact ((((((own2.put _ _).put _ _).put _ _).put _ _).put _ _).put _ _).put _ _
            · show _ = _
              have hYi : iN < Y.length := by have := HYl.out; omega
              rw [Htf.out, ← hT.out, List.take_add_one, List.getElem?_set_self hYi, List.take_set_of_le (Nat.le_refl _)]
              simp
            · show _ = _
              rw [List.drop_set_of_lt (by omega)]
              exact HD2.out
            · exact ((((((hO2.set _ _).set _ _).set _ _).set _ _).set _ _).set _ _).set _ _
          case measure => simp [intOf]; omega
        · rw [hq2] at htf hcall2
          have Hc := Lib.hid hcall2
          have Htf := Lib.hid htf
          clear hcall hcall2 hq2 htf hD2 hv hXv hYl
          go_wp2_with (go_at_fn f; refine (Hc.out _ (hO.ext (by repeat with_reducible (first | exact Ext.refl _ | refine Ext.alloc ?_ _ | refine Ext.drew ?_ | refine Ext.drewN ?_ _ | refine Ext.setCell ?_ (by first | exact Nat.le_refl _ | omega | (simp; done) | (simp; omega)) _)))).mono ?_; rintro e w2 ⟨rfl, E2⟩)
          go_roundw
          case rel =>
            refine ⟨iN, jN + 1, Y, rfl, by go_num, by omega, by omega, ownY.up (Ext.trans (by repeat with_reducible (first | exact Ext.refl _ | refine Ext.alloc ?_ _ | refine Ext.drew ?_ | refine Ext.drewN ?_ _ | refine Ext.setCell ?_ (by first | exact Nat.le_refl _ | omega | (simp; done) | (simp; omega)) _)) E2), HYl.out, ?_, HD2.out, (hO.ext (by repeat with_reducible (first | exact Ext.refl _ | refine Ext.alloc ?_ _ | refine Ext.drew ?_ | refine Ext.drewN ?_ _ | refine Ext.setCell ?_ (by first | exact Nat.le_refl _ | omega | (simp; done) | (simp; omega)) _))).ext E2⟩
            show _ = _
            rw [Htf.out, hT.out]
            simp
          case measure => simp [intOf]; omega
      · have hjn : jN = n := by omega
        subst hjn
        have hTn := hT.out
        rw [show X.take jN = X from List.take_of_length_le (by rw [Hl.out]; exact Nat.le_refl _)] at hTn
        have hlen : (X.filter fun v => !p v).length = iN := by rw [← hTn, List.length_take, hYl]; omega
        have hth := ownY.there
        have Hlen := Lib.hid hlen
        have HTn := Lib.hid hTn
        have hci : ¬ c = iN := by have := ownY.reads.cap; omega
        obtain ⟨vs, hcl⟩ := clearView wr g (iN * 7) (jN - iN) (c - iN) (fun i hi => hth.1 _ (by omega)) (fun i _ => hth.2 _)
        have hijI : (iN : Int) ≤ jN := by omega
        have hcapI : (iN : Int) ≤ c := by have := ownY.reads.cap; omega
        clear hlen hTn hT hD
        go_wp2
        go_ret
        rw [Hlen.out, ← HTn.out]
        have hd := ownY.head (k := iN) (o := iN * 7) (by omega) (Nat.le_refl _) vs
        refine ⟨_, rfl, ?_⟩
        rw [flat_take (size := 7) (fun _ => rfl)] at hd
        exact hd

end Go.Proofs.Ytlmmlmmadgcmcaa
