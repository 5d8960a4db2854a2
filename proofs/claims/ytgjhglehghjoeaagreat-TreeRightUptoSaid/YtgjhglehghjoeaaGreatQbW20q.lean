/- Contracts of layer 14: is a meaning right, as the reference has it? (Printed by gen_rright.py.) -/
import Derived.Test.YtgjhglehghjoeaaGreatQbW20r
import Derived.Test.YtgjhglehghjoeaaGreatQbW20h
import Derived.Test.YtgjhglehghjoeaaGreatQbW20p

namespace Go.Proofs.YtgjhglehghjoeaaGreat
open Go.RowKit Go.Shelf
set_option linter.unusedVariables false

theorem next_strange {fs : List FieldD} {t : ByteArray} {r : Rec} {C : Nat} (h : nextI t.data.toList 0 = (r, C)) : StrangeP fs t ↔ C = 0 ∧ (r.t : Int) = t.data.toList.length ∧ idxB (numP (r.n : Int)) fs = -1 := by
  unfold nextI at h
  by_cases h0 : (0 : Int) < 0 ∨ (t.data.toList.length : Int) ≤ 0
  · rw [if_pos h0] at h
    injection h with e1 e2
    have hl : t.data.toList = [] := List.eq_nil_of_length_eq_zero (by omega)
    constructor
    · rintro ⟨T, V, a, q, _⟩
      have := headV_bd q
      rw [hl] at this
      simp at this
      omega
    · rintro ⟨q, _⟩
      omega
  · rw [if_neg h0] at h
    have h' : nextV t.data.toList 0 = (r, C) := h
    by_cases hC : C = 0
    · subst hC
      have q := (nextV_ok h').1
      have qf := (nextV_ok h').2.1
      rw [List.drop_zero] at q
      constructor
      · rintro ⟨T, V, a, q2, q3⟩
        rw [q] at q2
        simp only [Prod.mk.injEq, and_true] at q2
        refine ⟨rfl, by omega, ?_⟩
        rw [← q2.1] at q3
        rcases idxB_cases (numP (r.n : Int)) fs with ⟨p, _⟩ | ⟨k, f, p1, p2, _⟩
        · exact p
        · have := (find_of_idx (p := numP (r.n : Int)) (l := fs)).2 k f p1 p2
          have hf' : fs.find? (numP (r.n : Int)) = none := q3
          rw [hf'] at this
          cases this
      · rintro ⟨_, q2, q3⟩
        refine ⟨r.n, r.w, r.a, ?_, (find_of_idx (p := numP (r.n : Int)) (l := fs)).1 q3⟩
        rw [q]
        have : r.t = t.data.toList.length := by omega
        rw [this]
        simp
    · constructor
      · rintro ⟨T, V, a, q2, q3⟩
        have : nextV t.data.toList 0 = (⟨T, V, 0, a, t.data.toList.length⟩, 0) := by
          unfold nextV
          rw [List.drop_zero, q2]
          simp [shiftR]
        rw [this] at h'
        injection h' with _ e
        exact absurd e.symm hC
      · rintro ⟨q, _⟩
        exact absurd q hC

set_option maxRecDepth 100000 in
set_option maxHeartbeats 4000000 in
theorem rRightM {A : Option Addr} {n c : Nat} {S : List MsgV} {root : Int} {x : MsgR} {w : World} (hR : rightS (S.map MsgV.d) = true) (hs : SchemaAt w A n c S) (hx : TreeAt w x) (hvl : x.vals.length ≤ 1000000000000) (hul : x.unk.length ≤ 1000000000000) (hut : ∀ t ∈ x.unk, t.data.toList.length ≤ 1000000000)
    (hp : ∀ v ∈ x.vals, ∀ (f : FieldD) (W : World), Ext w W → Calls Tryz.prog 16 #[.slice A n c, fieldV f, tvalV v] W fun e W' => e = .returned (.bool (eqB (FitP (S.map MsgV.d) f (bareV v)))) ∧ Ext W W') :
    Calls Tryz.prog 20 #[.slice A n c, .int .i64 root, treeV x] w fun e w' => e = .returned (.bool (eqB (RI (S.map MsgV.d) root (bare x)))) ∧ Ext w w' := by
  have hSl := hs.length
  have hcap := hs.1.cap
  have hmax := hs.1.max
  have vcap := hx.vals.cap
  have ucap := hx.unk.at_.cap
  have vmax := hx.vals.max
  have umax := hx.unk.at_.max
  unfold maxLen at hmax vmax umax
  obtain ⟨R0, hR0⟩ : ∃ R0, R0 = eqB (RI (S.map MsgV.d) root (bare x)) := ⟨_, rfl⟩
  rw [← hR0]
  unfold treeV
  by_cases hneg : root < 0
  · have hst : R0 = false := by
      rw [hR0]
      exact eqB_no (fun h => by have := h.1; omega)
    subst hst
    clear hR0
    go_enter Tryz.func20, Tryz.ntmps20
    go_wp2
    go_ret
    exact ⟨rfl, (by repeat with_reducible (first | exact Ext.refl _ | refine Ext.alloc ?_ _ | refine Ext.drew ?_ | refine Ext.drewN ?_ _ | refine Ext.setCell ?_ (by first | exact Nat.le_refl _ | omega | (simp; done) | (simp; omega)) _))⟩
  · obtain ⟨m, rfl⟩ := Int.eq_ofNat_of_zero_le (show 0 ≤ root by omega)
    by_cases hml : m < n
    · obtain ⟨b1, off1, M, hSA, hM, hf, hnm, hb1, s0, s1⟩ := hs.msg (k := m) hml
      subst hSA
      have hMd : (S.map MsgV.d)[m]? = some M.d := by rw [List.getElem?_map, hM]; rfl
      have hMn : M.n ≤ 1000000 := by have := (right_msg hR hMd).2.2.1; have := hf.length; omega
      have hiff := ri_iff hR hMd (x := bare x) (by
        rw [bare_eq]
        intro v hv
        obtain ⟨u, hu, rfl⟩ := List.mem_map.1 (show v ∈ x.vals.map bareV from hv)
        exact (hx.each u hu).small)
      have hbv : (bare x).vals = x.vals.map bareV := by rw [bare_eq]; rfl
      have hbu : (bare x).unk = x.unk := by rw [bare_eq]; rfl
      rw [hbv, hbu] at hiff
      have hiff2 := hR0.trans (eqB_congr hiff)
      have HI := Lib.hid hiff2
      have hpos : ∀ (i : Nat) (f : FieldD), M.d.fields[i]? = some f → 1 ≤ f.number := fun i f hfi => (usableB_pos (faultV_inv ((right_msg hR hMd).2.2.2 i f hfi)).2.2.1).1
      have hfie := fun (W : World) (y I : Int) (h : Ext w W) (hi : idxB (numP y) M.d.fields = I) => rFieldE (s := M.d.name) (x := y) (hf.up h) (show M.n ≤ 1000000000000 by omega) hi
      have Hfie := Lib.hid hfie
      have HPos := Lib.hid hpos
      have Hp := Lib.hid hp
      have Hf := Lib.hid hf
      have Hx := Lib.hid hx
      have Hut := Lib.hid hut
      have mI : (m : Int) < n := by omega
      have mN : ¬ n ≤ m := by omega
      clear hiff hiff2 hR0 hfie hpos hp hf hx hut hbv hbu hMd hM hR hs hneg hnm
      go_enter Tryz.func20, Tryz.ntmps20
      go_wp2
      have BX := BlkT.new w 47 #[.slice x.a.1 x.vals.length x.a.2, .slice x.b.1 x.unk.length x.b.2] rfl
      have X0 : Ext w (w.alloc (.cells #[.slice x.a.1 x.vals.length x.a.2, .slice x.b.1 x.unk.length x.b.2] 47)) := (Ext.refl w).alloc _
      generalize w.alloc (.cells #[.slice x.a.1 x.vals.length x.a.2, .slice x.b.1 x.unk.length x.b.2] 47) = wx at *
      have x0 : wx.cell? ⟨w.heap.size, 0, none⟩ = some (.slice x.a.1 x.vals.length x.a.2) := BX.cell 0
      have x1 : wx.cell? ⟨w.heap.size, 1, none⟩ = some (.slice x.b.1 x.unk.length x.b.2) := BX.cell 1
      have lx := BX.lt
      have s0x := X0.of_cell s0
      have s1x := X0.of_cell s1
      have hb1x := Nat.lt_of_lt_of_le hb1 X0.size
      clear BX s0 s1 hb1
      go_loopw [6, 7, 8] (fun _ i _ wr => ∃ (k : Nat) (last : Int), k ≤ x.vals.length ∧ i = .int .i64 (k : Int) ∧ Ext wx wr ∧ Hid (valsP (OkP (S.map MsgV.d) M.d) 0 (x.vals.map bareV) ↔ valsP (OkP (S.map MsgV.d) M.d) last ((x.vals.map bareV).drop k)) ∧ (k = 0 → last = 0) ∧ (∀ (j : Nat) (p : ValR), k = j + 1 → x.vals[j]? = some p → last = p.number)) (fun _ i _ _ => x.vals.length - (intOf i).toNat)
      case atStart => exact ⟨0, 0, Nat.zero_le _, rfl, Ext.refl _, Iff.rfl, fun _ => rfl, fun j p h => by omega⟩
      case round =>
        rename World => wr
        obtain ⟨k, last, hk, rfl, hE, hV, hl0, hl1⟩ := hrel
        have HL1 := Lib.hid hl1
        clear hl1
        by_cases hlt : k < x.vals.length
        · have hltI : (k : Int) < x.vals.length := by omega
          obtain ⟨b5, off5, v, hA, hvk, hb5, e0, e1, e2, e3⟩ := valCells (Hx.out.vals.ext (X0.trans hE)) hlt
          have hvm := List.mem_of_getElem? hvk
          have hvb : (x.vals.map bareV)[k]? = some (bareV v) := by rw [List.getElem?_map, hvk]; rfl
          have hstep := valsP_drop (ok := OkP (S.map MsgV.d) M.d) (last := last) hvb
          have hnv : (bareV v).number = v.number := rfl
          rw [hnv] at hstep
          have hval := Hp.out v hvm
          unfold tvalV at hval
          have Hval := Lib.hid hval
          have Hst := Lib.hid hstep
          have Hvk : Hid (x.vals[k]? = some v) := hvk
          have x0r := hE.of_cell x0
          have s0r := hE.of_cell s0x
          have s1r := hE.of_cell s1x
          have hb1r := Nat.lt_of_lt_of_le hb1x hE.size
          have lxr := Nat.lt_of_lt_of_le lx hE.size
          rw [hA] at x0r
          have HA := Lib.hid hA
          clear hvb hstep hnv hval hvk hA
          go_wp2
          have Xr : Ext wr wr := Ext.refl wr
          rcases idxB_cases (numP v.number) M.d.fields with ⟨hi, hno⟩ | ⟨i, f, hi, hfi, hfn, _⟩
          · have hfie2 := fun (W : World) (h : Ext w W) => Hfie.out W v.number (-1) h hi
            have Hfie2 := Lib.hid hfie2
            have hst : R0 = false := by
              rw [HI.out]
              refine eqB_no ?_
              rintro ⟨h, _⟩
              rw [hV.out, Hst.out] at h
              obtain ⟨_, ⟨f, hf, _⟩, _⟩ := h
              have h1 := hno f (List.mem_of_find?_eq_some hf)
              have h2 := List.find?_some hf
              have h3 : numP v.number f = true := h2
              rw [h3] at h1
              cases h1
            have HS := Lib.hid hst
            clear hi hno hfie2 hst
            go_region_held3 (fun W => Ext wr W ∧ ∀ b o, b < wr.heap.size → W.cell? ⟨b, o, none⟩ = wr.cell? ⟨b, o, none⟩) ((refine Ext.keep ?_; repeat with_reducible (first | assumption | exact Ext.refl _ | refine Ext.alloc ?_ _ | refine Ext.drew ?_ | refine Ext.drewN ?_ _ | refine Ext.setCell ?_ (by first | exact Nat.le_refl _ | omega | (simp; done) | (simp; omega)) _))) (first | (go_split_ands; go_at_call 72; refine (Hfie2.out _ (X0.trans (hE.trans (by with_reducible assumption)))).mono ?_; rintro e w5 ⟨rfl, E5⟩; have q5 : Ext wr w5 := Ext.trans (by with_reducible assumption) E5))
            go_wp2
            go_quiet (fail)
            go_wp2
            go_ret
            exact ⟨ret_bool HS.out.symm, X0.trans (hE.trans (Ext.trans q5 (by repeat with_reducible (first | exact Ext.refl _ | refine Ext.alloc ?_ _ | refine Ext.drew ?_ | refine Ext.drewN ?_ _ | refine Ext.setCell ?_ (by first | exact Nat.le_refl _ | omega | (simp; done) | (simp; omega)) _))))⟩
          · have hfind : M.d.fields.find? (fun g => g.number == v.number) = some f := (find_of_idx (p := numP v.number) (l := M.d.fields)).2 i f hi hfi
            have Hfind := Lib.hid hfind
            have hin : i < M.n := by have := (List.getElem?_eq_some_iff.1 hfi).1; have := Hf.out.length; omega
            have iI : (i : Int) < M.n := by omega
            have iN : decide ((i : Int) < 0) = false := by rw [decide_eq_false_iff_not]; omega
            obtain ⟨b8, off8, f', hA8, hff, hok8, hb8, g0, g1, g2, g3, g4, g5⟩ := (Hf.out.up (X0.trans hE)).field hin
            rw [hfi] at hff
            cases hff
            have hnum : f.number = v.number := by unfold numP at hfn; simpa using hfn
            have hpos := HPos.out i f hfi
            rw [hnum] at hpos
            have Hpos := Lib.hid hpos
            have hfie2 := fun (W : World) (h : Ext w W) => Hfie.out W v.number (i : Int) h hi
            rw [hA8] at hfie2 s1r
            have Hfie2 := Lib.hid hfie2
            have hfit := fun (W : World) (h : Ext w W) => Hval.out f W h
            unfold fieldV at hfit
            have Hfit := Lib.hid hfit
            clear hi hfi hfn hfind hA8 hfie2 hfit hnum hpos
            by_cases hk0 : k = 0
            · have Hlast : Hid (last = 0 ∨ last < v.number) := .inl (hl0 hk0)
              have kN : decide ((0 : Int) < (k : Int)) = false := by rw [decide_eq_false_iff_not]; omega
              have kN2 : decide (0 < k) = false := by rw [decide_eq_false_iff_not]; omega
              have Hk0 := Lib.hid hk0
              clear hl0 hk0
              go_region_held3 (fun W => Ext wr W ∧ ∀ b o, b < wr.heap.size → W.cell? ⟨b, o, none⟩ = wr.cell? ⟨b, o, none⟩) ((refine Ext.keep ?_; repeat with_reducible (first | assumption | exact Ext.refl _ | refine Ext.alloc ?_ _ | refine Ext.drew ?_ | refine Ext.drewN ?_ _ | refine Ext.setCell ?_ (by first | exact Nat.le_refl _ | omega | (simp; done) | (simp; omega)) _))) (first | (go_split_ands; go_at_call 72; refine (Hfie2.out _ (X0.trans (hE.trans (by with_reducible assumption)))).mono ?_; rintro e w5 ⟨rfl, E5⟩; have q5 : Ext wr w5 := Ext.trans (by with_reducible assumption) E5))
              rename Ext wr w5 ∧ _ => hS5
              clear hS5
              have X5 : Ext w w5 := X0.trans (hE.trans q5)
              have x05 := q5.of_cell x0r
              have s05 := q5.of_cell s0r
              have s15 := q5.of_cell s1r
              have z05 := q5.of_cell e0
              have z15 := q5.of_cell e1
              have z25 := q5.of_cell e2
              have z35 := q5.of_cell e3
              have g05 := q5.of_cell g0
              have g15 := q5.of_cell g1
              have g25 := q5.of_cell g2
              have g35 := q5.of_cell g3
              have g45 := q5.of_cell g4
              have g55 := q5.of_cell g5
              have m0 := Nat.lt_of_lt_of_le hb1r q5.size
              have m1 := Nat.lt_of_lt_of_le lxr q5.size
              have m2 := Nat.lt_of_lt_of_le hb5 q5.size
              have m3 := Nat.lt_of_lt_of_le hb8 q5.size
              clear x0r s0r s1r e0 e1 e2 e3 g0 g1 g2 g3 g4 g5
              have Q5 : Ext w5 w5 := Ext.refl w5
              go_wp2
              rcases hq : eqB (FitP (S.map MsgV.d) f (bareV v)) with _ | _
              · have hcall := Hfit.out
                rw [hq] at hcall
                have Hcall := Lib.hid hcall
                have hst : R0 = false := by
                  rw [HI.out]
                  refine eqB_no ?_
                  rintro ⟨h, _⟩
                  rw [hV.out, Hst.out] at h
                  obtain ⟨_, ⟨g, hg, hF⟩, _⟩ := h
                  have hg' := Hfind.out.symm.trans hg
                  cases hg'
                  rw [eqB_yes hF] at hq
                  cases hq
                have HS := Lib.hid hst
                clear hcall hq hst
                refine calm (fun _ _ _ hd h => ⟨hd, h.2⟩) (rreg7a (q := false) (f := f) (v := v) (by omega) hin hMn hlt Hk0.out hvl x05 s15 g05 g15 g25 g35 g45 g55 z05 z15 z25 z35 m0 m3 m2 m1 (Lib.hid (fun W h => Hcall.out W (X5.trans h))) ?_)
                intro v38 v39 v40 v41 v42 v43 v44 v45 v46 v47 v48 v49 v50 v51 v52 v53 v54 v55 v56 v57 v58 v59 v60 v61 v62 v63 v64 v65 v66 v67 v68 v69 v70 v71 v72 v73 v74 v75 v76 w6 q6
                go_wp2
                go_ret
                exact ⟨ret_bool HS.out.symm, X5.trans (Ext.trans q6 (by repeat with_reducible (first | exact Ext.refl _ | refine Ext.alloc ?_ _ | refine Ext.drew ?_ | refine Ext.drewN ?_ _ | refine Ext.setCell ?_ (by first | exact Nat.le_refl _ | omega | (simp; done) | (simp; omega)) _)))⟩
              · have hcall := Hfit.out
                rw [hq] at hcall
                have Hcall := Lib.hid hcall
                have hF : FitP (S.map MsgV.d) f (bareV v) := by
                  by_cases c : FitP (S.map MsgV.d) f (bareV v)
                  · exact c
                  · rw [eqB_no c] at hq
                    cases hq
                have hnext : valsP (OkP (S.map MsgV.d) M.d) 0 (x.vals.map bareV) ↔ valsP (OkP (S.map MsgV.d) M.d) v.number ((x.vals.map bareV).drop (k + 1)) := by
                  rw [hV.out, Hst.out]
                  exact ⟨fun h => h.2.2, fun h => ⟨by have := Hlast.out; have := Hpos.out; omega, ⟨f, Hfind.out, hF⟩, h⟩⟩
                have HN := Lib.hid hnext
                clear hcall hq hnext hF
                refine calm (fun _ _ _ hd h => ⟨hd, h.2⟩) (rreg7a (q := true) (f := f) (v := v) (by omega) hin hMn hlt Hk0.out hvl x05 s15 g05 g15 g25 g35 g45 g55 z05 z15 z25 z35 m0 m3 m2 m1 (Lib.hid (fun W h => Hcall.out W (X5.trans h))) ?_)
                intro v38 v39 v40 v41 v42 v43 v44 v45 v46 v47 v48 v49 v50 v51 v52 v53 v54 v55 v56 v57 v58 v59 v60 v61 v62 v63 v64 v65 v66 v67 v68 v69 v70 v71 v72 v73 v74 v75 v76 w6 q6
                go_wp2
                go_roundw
                case rel => exact ⟨k + 1, v.number, by omega, by go_num, hE.trans (q5.trans (Ext.trans q6 (by repeat with_reducible (first | exact Ext.refl _ | refine Ext.alloc ?_ _ | refine Ext.drew ?_ | refine Ext.drewN ?_ _ | refine Ext.setCell ?_ (by first | exact Nat.le_refl _ | omega | (simp; done) | (simp; omega)) _)))), HN.out, fun h => absurd h (Nat.succ_ne_zero _), fun j p hj hp => by obtain rfl : j = k := (by omega); have := Hvk.out.symm.trans hp; cases this; rfl⟩
                case measure => simp [intOf]; omega
            · obtain ⟨j, hj⟩ : ∃ j, k = j + 1 := ⟨k - 1, by omega⟩
              have hjl : j < x.vals.length := by omega
              obtain ⟨b6, off6, p, hA6, hpk, hb6, p0, p1, p2, p3⟩ := valCells (Hx.out.vals.ext (X0.trans hE)) hjl
              rw [HA.out] at hA6
              cases hA6
              have hlp := HL1.out j p hj hpk
              have kP : decide ((0 : Int) < (k : Int)) = true := by rw [decide_eq_true_iff]; omega
              have kP2 : decide (0 < k) = true := by rw [decide_eq_true_iff]; omega
              have jI : (j : Int) < x.vals.length := by omega
              have jw : IntKind.i64.wrap ((k : Int) - 1) = (j : Int) := by rw [IntWalk.i64_in _ (by omega)]; omega
              have jw2 : IntKind.i64.wrap (j : Int) = (j : Int) := IntWalk.i64_in _ (by omega)
              by_cases hle : v.number ≤ last
              · have hst : R0 = false := by
                  rw [HI.out]
                  refine eqB_no ?_
                  rintro ⟨h, _⟩
                  rw [hV.out, Hst.out] at h
                  omega
                have HS := Lib.hid hst
                rw [hlp] at hle
                have hled : decide (v.number ≤ p.number) = true := decide_eq_true hle
                clear hst hj hk0 hl0 hpk hlp p1 p2 p3 hle
                go_region_held3 (fun W => Ext wr W ∧ ∀ b o, b < wr.heap.size → W.cell? ⟨b, o, none⟩ = wr.cell? ⟨b, o, none⟩) ((refine Ext.keep ?_; repeat with_reducible (first | assumption | exact Ext.refl _ | refine Ext.alloc ?_ _ | refine Ext.drew ?_ | refine Ext.drewN ?_ _ | refine Ext.setCell ?_ (by first | exact Nat.le_refl _ | omega | (simp; done) | (simp; omega)) _))) (first | (go_split_ands; go_at_call 72; refine (Hfie2.out _ (X0.trans (hE.trans (by with_reducible assumption)))).mono ?_; rintro e w5 ⟨rfl, E5⟩; have q5 : Ext wr w5 := Ext.trans (by with_reducible assumption) E5))
                rename Ext wr w5 ∧ _ => hS5
                clear hS5
                have X5 : Ext w w5 := X0.trans (hE.trans q5)
                have x05 := q5.of_cell x0r
                have z05 := q5.of_cell e0
                have p05 := q5.of_cell p0
                go_wp2
                go_quiet (fail)
                go_wp2
                go_ret
                exact ⟨ret_bool HS.out.symm, X5.trans (by repeat with_reducible (first | exact Ext.refl _ | refine Ext.alloc ?_ _ | refine Ext.drew ?_ | refine Ext.drewN ?_ _ | refine Ext.setCell ?_ (by first | exact Nat.le_refl _ | omega | (simp; done) | (simp; omega)) _))⟩
              · have Hlast : Hid (last = 0 ∨ last < v.number) := .inr (by omega)
                rw [hlp] at hle
                have hled : decide (v.number ≤ p.number) = false := decide_eq_false hle
                have Hj := Lib.hid hj
                clear hj hk0 hl0 hpk hlp p1 p2 p3 hle
                go_region_held3 (fun W => Ext wr W ∧ ∀ b o, b < wr.heap.size → W.cell? ⟨b, o, none⟩ = wr.cell? ⟨b, o, none⟩) ((refine Ext.keep ?_; repeat with_reducible (first | assumption | exact Ext.refl _ | refine Ext.alloc ?_ _ | refine Ext.drew ?_ | refine Ext.drewN ?_ _ | refine Ext.setCell ?_ (by first | exact Nat.le_refl _ | omega | (simp; done) | (simp; omega)) _))) (first | (go_split_ands; go_at_call 72; refine (Hfie2.out _ (X0.trans (hE.trans (by with_reducible assumption)))).mono ?_; rintro e w5 ⟨rfl, E5⟩; have q5 : Ext wr w5 := Ext.trans (by with_reducible assumption) E5))
                have p05 := q5.of_cell p0
                clear p0
                rename Ext wr w5 ∧ _ => hS5
                clear hS5
                have X5 : Ext w w5 := X0.trans (hE.trans q5)
                have x05 := q5.of_cell x0r
                have s05 := q5.of_cell s0r
                have s15 := q5.of_cell s1r
                have z05 := q5.of_cell e0
                have z15 := q5.of_cell e1
                have z25 := q5.of_cell e2
                have z35 := q5.of_cell e3
                have g05 := q5.of_cell g0
                have g15 := q5.of_cell g1
                have g25 := q5.of_cell g2
                have g35 := q5.of_cell g3
                have g45 := q5.of_cell g4
                have g55 := q5.of_cell g5
                have m0 := Nat.lt_of_lt_of_le hb1r q5.size
                have m1 := Nat.lt_of_lt_of_le lxr q5.size
                have m2 := Nat.lt_of_lt_of_le hb5 q5.size
                have m3 := Nat.lt_of_lt_of_le hb8 q5.size
                clear x0r s0r s1r e0 e1 e2 e3 g0 g1 g2 g3 g4 g5
                have Q5 : Ext w5 w5 := Ext.refl w5
                go_wp2
                rcases hq : eqB (FitP (S.map MsgV.d) f (bareV v)) with _ | _
                · have hcall := Hfit.out
                  rw [hq] at hcall
                  have Hcall := Lib.hid hcall
                  have hst : R0 = false := by
                    rw [HI.out]
                    refine eqB_no ?_
                    rintro ⟨h, _⟩
                    rw [hV.out, Hst.out] at h
                    obtain ⟨_, ⟨g, hg, hF⟩, _⟩ := h
                    have hg' := Hfind.out.symm.trans hg
                    cases hg'
                    rw [eqB_yes hF] at hq
                    cases hq
                  have HS := Lib.hid hst
                  clear hcall hq hst
                  refine calm (fun _ _ _ hd h => ⟨hd, h.2⟩) (rreg7b (q := false) (f := f) (v := v) (by omega) hin hMn hlt Hj.out hvl x05 s15 g05 g15 g25 g35 g45 g55 z05 z15 z25 z35 p05 hled m0 m3 m2 m1 (Lib.hid (fun W h => Hcall.out W (X5.trans h))) ?_)
                  intro v38 v39 v40 v41 v42 v43 v44 v45 v46 v47 v48 v49 v50 v51 v52 v53 v54 v55 v56 v57 v58 v59 v60 v61 v62 v63 v64 v65 v66 v67 v68 v69 v70 v71 v72 v73 v74 v75 v76 w6 q6
                  go_wp2
                  go_ret
                  exact ⟨ret_bool HS.out.symm, X5.trans (Ext.trans q6 (by repeat with_reducible (first | exact Ext.refl _ | refine Ext.alloc ?_ _ | refine Ext.drew ?_ | refine Ext.drewN ?_ _ | refine Ext.setCell ?_ (by first | exact Nat.le_refl _ | omega | (simp; done) | (simp; omega)) _)))⟩
                · have hcall := Hfit.out
                  rw [hq] at hcall
                  have Hcall := Lib.hid hcall
                  have hF : FitP (S.map MsgV.d) f (bareV v) := by
                    by_cases c : FitP (S.map MsgV.d) f (bareV v)
                    · exact c
                    · rw [eqB_no c] at hq
                      cases hq
                  have hnext : valsP (OkP (S.map MsgV.d) M.d) 0 (x.vals.map bareV) ↔ valsP (OkP (S.map MsgV.d) M.d) v.number ((x.vals.map bareV).drop (k + 1)) := by
                    rw [hV.out, Hst.out]
                    exact ⟨fun h => h.2.2, fun h => ⟨by have := Hlast.out; have := Hpos.out; omega, ⟨f, Hfind.out, hF⟩, h⟩⟩
                  have HN := Lib.hid hnext
                  clear hcall hq hnext hF
                  refine calm (fun _ _ _ hd h => ⟨hd, h.2⟩) (rreg7b (q := true) (f := f) (v := v) (by omega) hin hMn hlt Hj.out hvl x05 s15 g05 g15 g25 g35 g45 g55 z05 z15 z25 z35 p05 hled m0 m3 m2 m1 (Lib.hid (fun W h => Hcall.out W (X5.trans h))) ?_)
                  intro v38 v39 v40 v41 v42 v43 v44 v45 v46 v47 v48 v49 v50 v51 v52 v53 v54 v55 v56 v57 v58 v59 v60 v61 v62 v63 v64 v65 v66 v67 v68 v69 v70 v71 v72 v73 v74 v75 v76 w6 q6
                  go_wp2
                  go_roundw
                  case rel => exact ⟨k + 1, v.number, by omega, by go_num, hE.trans (q5.trans (Ext.trans q6 (by repeat with_reducible (first | exact Ext.refl _ | refine Ext.alloc ?_ _ | refine Ext.drew ?_ | refine Ext.drewN ?_ _ | refine Ext.setCell ?_ (by first | exact Nat.le_refl _ | omega | (simp; done) | (simp; omega)) _)))), HN.out, fun h => absurd h (Nat.succ_ne_zero _), fun j p hj hp => by obtain rfl : j = k := (by omega); have := Hvk.out.symm.trans hp; cases this; rfl⟩
                  case measure => simp [intOf]; omega
        · have hend : (x.vals.map bareV).drop k = [] := by rw [List.drop_eq_nil_iff, List.length_map]; omega
          have hV0 : valsP (OkP (S.map MsgV.d) M.d) 0 (x.vals.map bareV) := by rw [hV.out, hend]; trivial
          have hI2 := HI.out.trans (eqB_congr ⟨fun h => h.2, fun h => ⟨hV0, h⟩⟩)
          have HI2 := Lib.hid hI2
          have hge : ¬ ((k : Int) < (x.vals.length : Int)) := by omega
          have x0r := hE.of_cell x0
          have lxr := Nat.lt_of_lt_of_le lx hE.size
          clear hend hV0 hI2 hV hl0 HL1
          go_wp2
          go_loopw [6, 9, 10, 11] (fun _ i _ _ wu => ∃ q : Nat, q ≤ x.unk.length ∧ i = .int .i64 (q : Int) ∧ Ext wx wu ∧ Hid (∀ t ∈ x.unk.take q, StrangeP M.d.fields t)) (fun _ i _ _ _ => x.unk.length - (intOf i).toNat)
          case atStart => exact ⟨0, Nat.zero_le _, rfl, hE, fun t h => by simp at h⟩
          case round =>
            rename World => wu
            obtain ⟨q, hq, rfl, hEu, hT⟩ := hrel
            have x1u := hEu.of_cell x1
            have lxu := Nat.lt_of_lt_of_le lx hEu.size
            by_cases hqt : q < x.unk.length
            · have hqI : (q : Int) < x.unk.length := by omega
              obtain ⟨b9, off9, t, hA9, ht, hb9, hmax9, t0⟩ := (Hx.out.unk.up (X0.trans hEu)).text hqt
              have htm := List.mem_of_getElem? ht
              have htl := Hut.out t htm
              have hts : t.size = t.data.toList.length := Array.length_toList.symm
              have Hts := Lib.hid hts
              rw [hA9] at x1u
              obtain ⟨A7, c7, W7, run7, X7, hb7⟩ := conv_text wu t (by unfold maxLen; omega)
              rcases hnx : nextI t.data.toList 0 with ⟨r, C⟩
              have hsg := next_strange (fs := M.d.fields) hnx
              have hnext := fun (W : World) (h : Ext W7 W) => rNextRI' (hb7.up h) (by omega) hnx
              unfold recV at hnext
              have Hnext := Lib.hid hnext
              have Hsg := Lib.hid hsg
              have Ht := Lib.hid ht
              have XW : Ext w W7 := X0.trans (hEu.trans X7)
              have x1w := X7.of_cell x1u
              have s0w := (hEu.trans X7).of_cell s0x
              have s1w := (hEu.trans X7).of_cell s1x
              have t0w := X7.of_cell t0
              have lxw := Nat.lt_of_lt_of_le lxu X7.size
              have hb9w := Nat.lt_of_lt_of_le hb9 X7.size
              have hb1w := Nat.lt_of_lt_of_le hb1x (hEu.trans X7).size
              have XwW : Ext wx W7 := hEu.trans X7
              clear hnext hsg hnx ht hts hb7 hA9
              go_wp2_with (go_at_call 73; refine (Hnext.out _ (by repeat with_reducible (first | exact Ext.refl _ | refine Ext.alloc ?_ _ | refine Ext.drew ?_ | refine Ext.drewN ?_ _ | refine Ext.setCell ?_ (by first | exact Nat.le_refl _ | omega | (simp; done) | (simp; omega)) _))).mono ?_; rintro e w8 ⟨rfl, E8⟩; have X8 : Ext W7 w8 := Ext.trans (by repeat with_reducible (first | exact Ext.refl _ | refine Ext.alloc ?_ _ | refine Ext.drew ?_ | refine Ext.drewN ?_ _ | refine Ext.setCell ?_ (by first | exact Nat.le_refl _ | omega | (simp; done) | (simp; omega)) _)) E8)
              have BR := BlkT.new w8 118 #[.int .i64 (r.n : Int), .int .i64 (r.w : Int), .int .i64 (r.f : Int), .int .i64 (r.a : Int), .int .i64 (r.t : Int)] rfl
              have XR := X8.alloc (.cells #[.int .i64 (r.n : Int), .int .i64 (r.w : Int), .int .i64 (r.f : Int), .int .i64 (r.a : Int), .int .i64 (r.t : Int)] 118)
              generalize w8.alloc (.cells #[.int .i64 (r.n : Int), .int .i64 (r.w : Int), .int .i64 (r.f : Int), .int .i64 (r.a : Int), .int .i64 (r.t : Int)] 118) = w9 at *
              generalize w8.heap.size = br at *
              have c0 : w9.cell? ⟨br, 0, none⟩ = some (.int .i64 (r.n : Int)) := BR.cell 0
              have c4 : w9.cell? ⟨br, 4, none⟩ = some (.int .i64 (r.t : Int)) := BR.cell 4
              have brl := BR.lt
              have x19 := XR.of_cell x1w
              have s09 := XR.of_cell s0w
              have s19 := XR.of_cell s1w
              have t09 := XR.of_cell t0w
              have lx9 := Nat.lt_of_lt_of_le lxw XR.size
              have hb99 := Nat.lt_of_lt_of_le hb9w XR.size
              have hb19 := Nat.lt_of_lt_of_le hb1w XR.size
              have X9 : Ext w w9 := XW.trans XR
              have bad : ¬ StrangeP M.d.fields t → R0 = false := fun h => by
                rw [HI2.out]
                exact eqB_no (fun q => h (q t (List.mem_of_getElem? Ht.out)))
              have Bad := Lib.hid bad
              clear BR E8 X8 x1w s0w s1w t0w x1u t0 bad
              by_cases hC : (C : Int) = 0
              · have hCb : ((C : Int) != 0) = false := by simp [hC]
                have hCc : ((C : Int) == 0) = true := by simp [hC]
                by_cases hrt : (r.t : Int) = (t.size : Int)
                · have rb : ((r.t : Int) != (t.size : Int)) = false := by simp [hrt]
                  have rc : ((r.t : Int) == (t.size : Int)) = true := by simp [hrt]
                  rcases idxB_cases (numP (r.n : Int)) M.d.fields with ⟨hi, hno⟩ | ⟨i, f, hi, hfi, hfn, _⟩
                  · have hstr : StrangeP M.d.fields t := Hsg.out.2 ⟨by omega, by rw [hrt, Hts.out], hi⟩
                    have hT2 : ∀ u ∈ x.unk.take (q + 1), StrangeP M.d.fields u := by
                      rw [take_snoc _ _ _ Ht.out]
                      intro u hu
                      rcases List.mem_append.1 hu with hu | hu
                      · exact hT.out u hu
                      · rw [List.mem_singleton] at hu
                        rw [hu]
                        exact hstr
                    have HT2 := Lib.hid hT2
                    have hfie2 := fun (W : World) (h : Ext w W) => Hfie.out W (r.n : Int) (-1) h hi
                    have Hfie2 := Lib.hid hfie2
                    clear hi hno hstr hT2 hfie2 hT hC hrt
                    go_region_held3 (fun W => Ext w9 W ∧ ∀ b o, b < w9.heap.size → W.cell? ⟨b, o, none⟩ = w9.cell? ⟨b, o, none⟩) ((refine Ext.keep ?_; repeat with_reducible (first | assumption | exact Ext.refl _ | refine Ext.alloc ?_ _ | refine Ext.drew ?_ | refine Ext.drewN ?_ _ | refine Ext.setCell ?_ (by first | exact Nat.le_refl _ | omega | (simp; done) | (simp; omega)) _))) (first | (go_split_ands; go_at_call 72; refine (Hfie2.out _ (X9.trans (by with_reducible assumption))).mono ?_; rintro e w10 ⟨rfl, E10⟩; have q10 : Ext w9 w10 := Ext.trans (by with_reducible assumption) E10))
                    go_wp2
                    go_roundw
                    case rel => exact ⟨q + 1, by omega, by go_num, XwW.trans (XR.trans (Ext.trans q10 (by repeat with_reducible (first | exact Ext.refl _ | refine Ext.alloc ?_ _ | refine Ext.drew ?_ | refine Ext.drewN ?_ _ | refine Ext.setCell ?_ (by first | exact Nat.le_refl _ | omega | (simp; done) | (simp; omega)) _)))), HT2.out⟩
                    case measure => simp [intOf]; omega
                  · have hst := Bad.out (fun h => by have := (Hsg.out.1 h).2.2; rw [hi] at this; omega)
                    have HS := Lib.hid hst
                    have hfie2 := fun (W : World) (h : Ext w W) => Hfie.out W (r.n : Int) (i : Int) h hi
                    have Hfie2 := Lib.hid hfie2
                    have iN : decide ((i : Int) < 0) = false := by rw [decide_eq_false_iff_not]; omega
                    clear hi hfi hfn hst hfie2 hT hC hrt
                    go_region_held3 (fun W => Ext w9 W ∧ ∀ b o, b < w9.heap.size → W.cell? ⟨b, o, none⟩ = w9.cell? ⟨b, o, none⟩) ((refine Ext.keep ?_; repeat with_reducible (first | assumption | exact Ext.refl _ | refine Ext.alloc ?_ _ | refine Ext.drew ?_ | refine Ext.drewN ?_ _ | refine Ext.setCell ?_ (by first | exact Nat.le_refl _ | omega | (simp; done) | (simp; omega)) _))) (first | (go_split_ands; go_at_call 72; refine (Hfie2.out _ (X9.trans (by with_reducible assumption))).mono ?_; rintro e w10 ⟨rfl, E10⟩; have q10 : Ext w9 w10 := Ext.trans (by with_reducible assumption) E10))
                    go_wp2
                    go_ret
                    exact ⟨ret_bool HS.out.symm, X9.trans (Ext.trans q10 (by repeat with_reducible (first | exact Ext.refl _ | refine Ext.alloc ?_ _ | refine Ext.drew ?_ | refine Ext.drewN ?_ _ | refine Ext.setCell ?_ (by first | exact Nat.le_refl _ | omega | (simp; done) | (simp; omega)) _)))⟩
                · have hst := Bad.out (fun h => hrt (by have := (Hsg.out.1 h).2.1; rw [Hts.out]; exact this))
                  have HS := Lib.hid hst
                  have rb : ((r.t : Int) != (t.size : Int)) = true := by simpa using hrt
                  have rc : ((r.t : Int) == (t.size : Int)) = false := by simpa using hrt
                  clear hst hC hrt
                  go_quiet (fail)
                  go_wp2
                  go_ret
                  exact ⟨ret_bool HS.out.symm, X9.trans (by repeat with_reducible (first | exact Ext.refl _ | refine Ext.alloc ?_ _ | refine Ext.drew ?_ | refine Ext.drewN ?_ _ | refine Ext.setCell ?_ (by first | exact Nat.le_refl _ | omega | (simp; done) | (simp; omega)) _))⟩
              · have hst := Bad.out (fun h => hC (by have := (Hsg.out.1 h).1; omega))
                have HS := Lib.hid hst
                have hCb : ((C : Int) != 0) = true := by simpa using hC
                have hCc : ((C : Int) == 0) = false := by simpa using hC
                clear hst
                go_quiet (fail)
                go_wp2
                go_ret
                exact ⟨ret_bool HS.out.symm, X9.trans (by repeat with_reducible (first | exact Ext.refl _ | refine Ext.alloc ?_ _ | refine Ext.drew ?_ | refine Ext.drewN ?_ _ | refine Ext.setCell ?_ (by first | exact Nat.le_refl _ | omega | (simp; done) | (simp; omega)) _))⟩
            · have hst : R0 = true := by
                rw [HI2.out]
                refine eqB_yes ?_
                have h := hT.out
                rw [List.take_of_length_le (by omega)] at h
                exact h
              have HS := Lib.hid hst
              have hge2 : ¬ ((q : Int) < (x.unk.length : Int)) := by omega
              clear hst
              go_wp2
              go_ret
              exact ⟨ret_bool HS.out.symm, X0.trans (hEu.trans (by repeat with_reducible (first | exact Ext.refl _ | refine Ext.alloc ?_ _ | refine Ext.drew ?_ | refine Ext.drewN ?_ _ | refine Ext.setCell ?_ (by first | exact Nat.le_refl _ | omega | (simp; done) | (simp; omega)) _)))⟩
    · have hst : R0 = false := by
        rw [hR0]
        refine eqB_no ?_
        rintro ⟨_, h⟩
        rw [Int.toNat_natCast, rr_iff] at h
        obtain ⟨M, hM, _⟩ := h
        have := (List.getElem?_eq_some_iff.1 hM).1
        rw [List.length_map] at this
        omega
      have mI : ¬ ((m : Int) < (n : Int)) := by omega
      subst hst
      clear hR0
      go_enter Tryz.func20, Tryz.ntmps20
      go_wp2
      go_ret
      exact ⟨rfl, (by repeat with_reducible (first | exact Ext.refl _ | refine Ext.alloc ?_ _ | refine Ext.drew ?_ | refine Ext.drewN ?_ _ | refine Ext.setCell ?_ (by first | exact Nat.le_refl _ | omega | (simp; done) | (simp; omega)) _))⟩

end Go.Proofs.YtgjhglehghjoeaaGreat
