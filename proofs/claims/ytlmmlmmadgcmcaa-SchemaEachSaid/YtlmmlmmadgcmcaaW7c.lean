/- Contracts of layer 7: a field's fault, and the map of what fields share with none. -/
import Derived.Test.YtlmmlmmadgcmcaaW7b
import Derived.Test.YtlmmlmmadgcmcaaLib6
import Derived.Test.YtlmmlmmadgcmcaaLib3
import Derived.Deep.RegionHeld3
import Derived.DeepKeys4
import Derived.Deep.RegionLaw
import Derived.Deep.DeepCutAuto
import Derived.BigQuiet
namespace Go.Proofs.Ytlmmlmmadgcmcaa
open Go.RowKit
set_option linter.unusedVariables false

theorem Only.trans {g : Nat} {w w' w'' : World} (h : Only g w w') (k : Only g w' w'') : Only g w w'' :=
  ⟨k.os.trans h.os, k.tape.trans h.tape, k.output.trans h.output, Nat.le_trans h.size k.size, fun r hr hn => (k.block r (Nat.lt_of_lt_of_le hr h.size) hn).trans (h.block r hr hn)⟩

theorem Only.of_ext {g : Nat} {w w' : World} (h : Ext w w') : Only g w w' := (Only.refl g w).ext h

/-! The keys of the map. -/

theorem laidOut7 : laidOutB Try.prog = true := by kernel_rfl

theorem keyLawMet : WideMaps.KeyLaw Try.prog 138 := deep_law_laid laidOut7 (m := 3) (by omega) (of_decide_eq_true (by kernel_rfl)) (by kernel_rfl) (by kernel_rfl)

theorem keyMet (x : MetK) (h : okMet x) : ∃ l, keyOf Try.prog 138 (encMet x) = some l := by
  obtain ⟨h1, h2, h3⟩ := h
  obtain ⟨m, hm⟩ : ∃ m, Try.prog.types.size = m + 1 := ⟨Try.prog.types.size - 1, by have : 0 < Try.prog.types.size := of_decide_eq_true (by kernel_rfl); omega⟩
  have hk : Try.prog.keyType 138 = true := by kernel_rfl
  have hc : Try.prog.cellsOf 138 = 3 := by kernel_rfl
  have c3 : Try.prog.cellsOf 3 = 1 := by kernel_rfl
  have c9 : Try.prog.cellsOf 9 = 1 := by kernel_rfl
  have hf : (encMet x).formed Try.prog 138 = true := by simp [Value.formed, Try.underlying138, hc, encMet]
  unfold keyOf
  rw [Try.underlying138]
  simp only [hk, hf, Bool.and_self, if_true]
  rw [hm]
  simp [Program.keyLits, Try.underlying138, Try.underlying3, Try.underlying9, hc, c3, c9, encMet, Value.cells, h1, h2, h3]

theorem keyB_met : KeyB Try.prog 138 encMet okMet :=
  ⟨Maps.Keyed.of_law keyLawMet, keyMet, fun x y h => by
    obtain ⟨a, b, c⟩ := x
    obtain ⟨a', b', c'⟩ := y
    simp [encMet] at h
    obtain ⟨rfl, rfl, rfl⟩ := h
    rfl⟩

theorem zeroInt7 (w : World) : (zeroValue 3).run Try.prog w = .ok (.int .i64 0) w := by kernel_rfl

theorem MapV.ne {K : Type} {w : World} {b b2 : Nat} {enc : K → Value} {ok : K → Prop} {M : List (K × Value)} {t : TypeId} {cs : Array Value} (h : MapV w b enc ok M) (hB : BlkT w b2 t cs) : b2 ≠ b := by
  rintro rfl
  obtain ⟨es, clock, hb, _⟩ := h
  unfold BlkT at hB
  rw [hB] at hb
  injection hb with hb
  cases hb

theorem BlkT.grown {w w' : World} {b b2 : Nat} {t : TypeId} {cs : Array Value} (h : BlkT w b2 t cs) (g : w.grownBy w' (some b)) (hne : b2 ≠ b) : BlkT w' b2 t cs :=
  (g.block b2 h.lt (fun e => hne (by injection e))).trans h

theorem getV_of_all {K : Type} [DecidableEq K] {x : K} {M : List (K × Value)} (h : ∀ q ∈ M, q.1 ≠ x) : getV x M = none := getV_none h

theorem okMet_name {i : Nat} {s : ByteArray} (hi : i ≤ 1000) (hs : s.size ≤ 9223372036854775807) : okMet ((i : Int), s, 0) := by
  refine ⟨?_, by unfold maxLen; omega, show (Lit.int .i64 0).wf = true by decide⟩
  simp [Lit.wf, IntKind.min, IntKind.max, IntKind.signed, IntKind.bits]
  omega

theorem okMet_number {i : Nat} {x : Int} (hi : i ≤ 1000) (h1 : -9223372036854775808 ≤ x) (h2 : x < 9223372036854775808) : okMet ((i : Int), ⟨#[]⟩, x) := by
  refine ⟨?_, show (⟨#[]⟩ : ByteArray).size ≤ maxLen by decide, ?_⟩
  · simp [Lit.wf, IntKind.min, IntKind.max, IntKind.signed, IntKind.bits]; omega
  · simp [Lit.wf, IntKind.min, IntKind.max, IntKind.signed, IntKind.bits]; omega

set_option maxRecDepth 100000 in
set_option maxHeartbeats 2000000 in
theorem sField {A : Option Addr} {n c i b : Nat} {f : FieldD} {P : List (Nat × FieldD)} {before : List FieldD} {w : World} (hn : n ≤ 100) (hf : f.Ok) (hi : i ≤ 1000) (hM : MapV w b encMet okMet (metM P)) (hP : ∀ p ∈ P, okF p.2)
    (hn1 : (P.any fun p => decide (p.1 = i) && decide (p.2.name = f.name)) = before.any fun g => decide (g.name = f.name))
    (hn2 : (P.any fun p => decide (p.1 = i) && decide (p.2.number = f.number)) = before.any fun g => decide (g.number = f.number)) :
    Calls Try.prog 58 #[.slice A n c, .int .i64 i, fieldV f, .map (some b)] w fun e w' => e = .returned (.int .i64 (faultV n before f : Nat)) ∧ Only b w w' ∧
      (faultV n before f = 0 → MapV w' b encMet okMet (metM (P ++ [(i, f)]))) := by
  obtain ⟨fn, fx, fk, fr, fp, fo⟩ := f
  have hsz := hf.name
  have hnum := hf.number
  have hbl := hM.lt
  have hst := fun h => met_name (i := i) (s := fn) hP h
  have hsu := fun h => met_number (i := i) (x := fx) hP h
  simp only at hn1 hn2 hsz hnum
  rw [hn1] at hst
  rw [hn2] at hsu
  have Hst := Lib.hid hst
  have Hsu := Lib.hid hsu
  have HM := Lib.hid hM
  have HP := Lib.hid hP
  clear hst hsu hn1 hn2 hM hP hf
  obtain ⟨W, hW⟩ : ∃ W, faultV n before ⟨fn, fx, fk, fr, fp, fo⟩ = W := ⟨_, rfl⟩
  rw [hW]
  have HW := Lib.hid hW
  clear hW
  unfold fieldV
  go_enter Try.func58, Try.ntmps58
  go_wp2
  go_cut [9, 10] (fun u v wz => ∃ b1 b2, u = .pointer (some ⟨b1, 0, none⟩) ∧ v = .pointer (some ⟨b2, 0, none⟩) ∧ Ext w wz ∧ BlkT wz w.heap.size 39 #[.string fn, .int .i64 fx, .int .i64 fk, .bool fr, .bool fp, .int .i64 fo] ∧
    BlkT wz b1 138 #[.int .i64 i, .string fn, .int .i64 0] ∧ BlkT wz b2 138 #[.int .i64 i, .string ⟨#[]⟩, .int .i64 fx])
  case first =>
    have X0 : Ext w (w.alloc (.cells #[.string fn, .int .i64 fx, .int .i64 fk, .bool fr, .bool fp, .int .i64 fo] 39)) := (by repeat with_reducible (first | exact Ext.refl _ | refine Ext.alloc ?_ _ | refine Ext.drew ?_ | refine Ext.drewN ?_ _ | refine Ext.setCell ?_ (by first | exact Nat.le_refl _ | omega | (simp; done) | (simp; omega)) _))
    have B0 := BlkT.new w 39 #[.string fn, .int .i64 fx, .int .i64 fk, .bool fr, .bool fp, .int .i64 fo] rfl
    generalize w.alloc (.cells #[.string fn, .int .i64 fx, .int .i64 fk, .bool fr, .bool fp, .int .i64 fo] 39) = wx at *
    have d0 : wx.cell? ⟨w.heap.size, 0, none⟩ = some (.string fn) := B0.cell 0
    have d1 : wx.cell? ⟨w.heap.size, 1, none⟩ = some (.int .i64 fx) := B0.cell 1
    have dl := B0.lt
    go_region_held3 (fun W => Ext wx W ∧ ∀ b o, b < wx.heap.size → W.cell? ⟨b, o, none⟩ = wx.cell? ⟨b, o, none⟩) ((refine Ext.keep ?_; repeat with_reducible (first | assumption | exact Ext.refl _ | refine Ext.alloc ?_ _ | refine Ext.drew ?_ | refine Ext.drewN ?_ _ | refine Ext.setCell ?_ (by first | exact Nat.le_refl _ | omega | (simp; done) | (simp; omega)) _))) (fail)
    all_goals
      go_wp2
      go_meet
      first
        | exact ⟨_, _, rfl, rfl, (X0.trans (Ext.alloc (Ext.alloc (Ext.refl _) _) _)).drew, ((B0.alloc _).alloc _).drew, ((BlkT.new wx _ _ rfl).alloc _).drew, (BlkT.new _ _ _ (by simp)).drew⟩
        | exact ⟨_, _, rfl, rfl, (X0.trans (Ext.alloc (Ext.alloc (Ext.refl _) _) _)).drew, ((B0.alloc _).alloc _).drew, (BlkT.new _ _ _ (by simp)).drew, ((BlkT.new wx _ _ rfl).alloc _).drew⟩
  case rest =>
    obtain ⟨b1, b2, rfl, rfl, X, B, B1, B2⟩ := hcut
    have d0 : wc.cell? ⟨w.heap.size, 0, none⟩ = some (.string fn) := B.cell 0
    have d1 : wc.cell? ⟨w.heap.size, 1, none⟩ = some (.int .i64 fx) := B.cell 1
    have d2 : wc.cell? ⟨w.heap.size, 2, none⟩ = some (.int .i64 fk) := B.cell 2
    have d3 : wc.cell? ⟨w.heap.size, 3, none⟩ = some (.bool fr) := B.cell 3
    have d4 : wc.cell? ⟨w.heap.size, 4, none⟩ = some (.bool fp) := B.cell 4
    have d5 : wc.cell? ⟨w.heap.size, 5, none⟩ = some (.int .i64 fo) := B.cell 5
    have e0 : wc.cell? ⟨b1, 0, none⟩ = some (.int .i64 i) := B1.cell 0
    have e1 : wc.cell? ⟨b1, 1, none⟩ = some (.string fn) := B1.cell 1
    have e2 : wc.cell? ⟨b1, 2, none⟩ = some (.int .i64 0) := B1.cell 2
    have g0 : wc.cell? ⟨b2, 0, none⟩ = some (.int .i64 i) := B2.cell 0
    have g1 : wc.cell? ⟨b2, 1, none⟩ = some (.string ⟨#[]⟩) := B2.cell 1
    have g2 : wc.cell? ⟨b2, 2, none⟩ = some (.int .i64 fx) := B2.cell 2
    have l0 := B.lt
    have l1 := B1.lt
    have l2 := B2.lt
    have hMc := HM.out.up X
    have HMc := Lib.hid hMc
    have hk1 := okMet_name (s := fn) hi hsz
    have hk2 := okMet_number (x := fx) hi hnum.1 hnum.2
    have hlk1 := (hMc.look keyB_met Try.underlying103 zeroInt7 hk1).1
    have hlk2 := (hMc.look keyB_met Try.underlying103 zeroInt7 hk2).1
    have Hk1 := Lib.hid hlk1
    have Hk2 := Lib.hid hlk2
    have HO := Lib.hid (Only.of_ext (g := b) X)
    clear hMc hlk1 hlk2 hk1 hk2
    rcases h1 : nameB fn with _ | _
    · obtain rfl : W = 5 := by rw [← HW.out]; simp [faultV, h1]
      have H1 := Lib.hid h1
      clear h1
      go_wp2_with (go_at_call 57; refine (sNamed hsz _).mono ?_; rintro e w1 ⟨rfl, rfl⟩; rw [H1.out])
      go_ret
      exact ⟨rfl, HO.out, fun h => by omega⟩
    have hne : fn ≠ ⟨#[]⟩ := fun e => by have := (nameB_size h1).1; rw [e] at this; have h0 : (⟨#[]⟩ : ByteArray).size = 0 := rfl; omega
    rcases Hst.out hne with ⟨h2, hg⟩ | ⟨h2, hg⟩
    · obtain rfl : W = 6 := by rw [← HW.out]; simp [faultV, h1, h2]
      have hl1 : (Instr.lookup 103 (.map (some b)) (.agg #[.int .i64 (i : Int), .string fn, .int .i64 0]) false).run Try.prog wc = .ok (.int .i64 1) wc := by have := Hk1.out; rw [hg] at this; exact this
      have H1 := Lib.hid h1
      clear h1 h2 hg
      go_wp2_with (go_at_call 57; refine (sNamed hsz _).mono ?_; rintro e w1 ⟨rfl, rfl⟩; rw [H1.out])
      go_ret
      exact ⟨rfl, HO.out, fun h => by omega⟩
    have hl1 : (Instr.lookup 103 (.map (some b)) (.agg #[.int .i64 (i : Int), .string fn, .int .i64 0]) false).run Try.prog wc = .ok (.int .i64 0) wc := by have := Hk1.out; rw [getV_none hg] at this; exact this
    rcases h3 : usableB fx with _ | _
    · obtain rfl : W = 7 := by rw [← HW.out]; simp [faultV, h1, h2, h3]
      have H1 := Lib.hid h1
      have H3 := Lib.hid h3
      clear h1 h2 h3 hg
      go_wp2_with (first | (go_at_call 57; refine (sNamed hsz _).mono ?_; rintro e w1 ⟨rfl, rfl⟩; rw [H1.out]) | (go_at_call 94; refine (sUsable _ _).mono ?_; rintro e w1 ⟨rfl, rfl⟩; rw [H3.out]))
      go_ret
      exact ⟨rfl, HO.out, fun h => by omega⟩
    have hg1 := hg
    have Hg1 := Lib.hid hg1
    clear hg hg1
    rcases Hsu.out (usableB_pos h3).1 with ⟨h4, hg⟩ | ⟨h4, hg⟩
    · obtain rfl : W = 8 := by rw [← HW.out]; simp [faultV, h1, h2, h3, h4]
      have hl2 : (Instr.lookup 103 (.map (some b)) (.agg #[.int .i64 (i : Int), .string ⟨#[]⟩, .int .i64 fx]) false).run Try.prog wc = .ok (.int .i64 1) wc := by have := Hk2.out; rw [hg] at this; exact this
      have H1 := Lib.hid h1
      have H3 := Lib.hid h3
      clear h1 h2 h3 h4 hg
      go_wp2_with (first | (go_at_call 57; refine (sNamed hsz _).mono ?_; rintro e w1 ⟨rfl, rfl⟩; rw [H1.out]) | (go_at_call 94; refine (sUsable _ _).mono ?_; rintro e w1 ⟨rfl, rfl⟩; rw [H3.out]))
      go_ret
      exact ⟨rfl, HO.out, fun h => by omega⟩
    have hl2 : (Instr.lookup 103 (.map (some b)) (.agg #[.int .i64 (i : Int), .string ⟨#[]⟩, .int .i64 fx]) false).run Try.prog wc = .ok (.int .i64 0) wc := by have := Hk2.out; rw [getV_none hg] at this; exact this
    have Hg2 := Lib.hid hg
    clear hg
    rcases h5 : kindB fk with _ | _
    · obtain rfl : W = 9 := by rw [← HW.out]; simp [faultV, h1, h2, h3, h4, h5]
      have H1 := Lib.hid h1
      have H3 := Lib.hid h3
      have H5 := Lib.hid h5
      clear h1 h2 h3 h4 h5
      go_wp2_with (first | (go_at_call 57; refine (sNamed hsz _).mono ?_; rintro e w1 ⟨rfl, rfl⟩; rw [H1.out]) | (go_at_call 94; refine (sUsable _ _).mono ?_; rintro e w1 ⟨rfl, rfl⟩; rw [H3.out]) | (go_at_call 95; refine (kRight _ _).mono ?_; rintro e w1 ⟨rfl, rfl⟩; rw [H5.out]))
      go_ret
      exact ⟨rfl, HO.out, fun h => by omega⟩
    have hv : W = if (fp && !(fr && numberB fk)) = true then 10 else if ofB n ⟨fn, fx, fk, fr, fp, fo⟩ = true then 11 else 0 := by rw [← HW.out]; simp [faultV, h1, h2, h3, h4, h5]
    have hnm := nameB_size h1
    have hub := usableB_pos h3
    have H1 := Lib.hid h1
    have H3 := Lib.hid h3
    have H5 := Lib.hid h5
    have HV := Lib.hid hv
    have Hne := Lib.hid hne
    clear h1 h2 h3 h4 h5 hv hne
    go_upto_region 12 with (first | (go_at_call 57; refine (sNamed hsz _).mono ?_; rintro e w1 ⟨rfl, rfl⟩; rw [H1.out]) | (go_at_call 94; refine (sUsable _ _).mono ?_; rintro e w1 ⟨rfl, rfl⟩; rw [H3.out]) | (go_at_call 95; refine (kRight _ _).mono ?_; rintro e w1 ⟨rfl, rfl⟩; rw [H5.out]))
    go_cut [44] (fun t wz => t = .bool (fp && !(fr && numberB fk)) ∧ Ext wc wz)
    case first =>
      rcases fp with _ | _
      · go_wp2
        go_meet
        exact ⟨rfl, Ext.refl _⟩
      · rcases fr with _ | _
        · go_wp2
          go_meet
          exact ⟨rfl, Ext.refl _⟩
        · go_wp2_with (go_at_call 68; refine (kNumber _ _).mono ?_; rintro e w1 ⟨rfl, E1⟩)
          go_meet
          exact ⟨by simp, E1⟩
    case rest =>
      rename World => wd
      obtain ⟨rfl, Xd⟩ := hcut
      replace d2 := Xd.of_cell d2
      replace d5 := Xd.of_cell d5
      replace e0 := Xd.of_cell e0
      replace e1 := Xd.of_cell e1
      replace e2 := Xd.of_cell e2
      replace g0 := Xd.of_cell g0
      replace g1 := Xd.of_cell g1
      replace g2 := Xd.of_cell g2
      replace l0 := Nat.lt_of_lt_of_le l0 Xd.size
      replace l1 := Nat.lt_of_lt_of_le l1 Xd.size
      replace l2 := Nat.lt_of_lt_of_le l2 Xd.size
      have HOd := Lib.hid (HO.out.ext Xd)
      rcases h6 : (fp && !(fr && numberB fk)) with _ | _
      · rcases h7 : ofB n ⟨fn, fx, fk, fr, fp, fo⟩ with _ | _
        · obtain rfl : W = 0 := by rw [HV.out, h6, h7]; rfl
          have hMd := (HMc.out.up Xd).up (Ext.drew (Ext.refl wd))
          have hb2 := (hMd.ne ((B2.up Xd).drew))
          obtain ⟨st, we, run1, me, ge⟩ := hMd.entry keyB_met Try.underlying103 zeroInt7 (okMet_name (s := fn) hi hsz)
          have run0 := (hMd.look keyB_met Try.underlying103 zeroInt7 (okMet_name (s := fn) hi hsz)).1
          rw [getV_none Hg1.out, Option.getD_none] at run0
          rw [getV_none Hg1.out, Option.getD_none] at run1 me
          have run0b := (me.map.look keyB_met Try.underlying103 zeroInt7 (okMet_name (s := fn) hi hsz)).1
          rw [getV_put_self, Option.getD_some] at run0b
          obtain ⟨wf, run2, mf, gf⟩ := me.store (P := Try.prog) (t := 103) keyB_met.inj (okMet_name (s := fn) hi hsz) (.int .i64 1)
          rw [putV_put, putV_new Hg1.out] at mf
          have Bf := (((B2.up Xd).drew.grown ge hb2).grown gf hb2)
          have hnew : ∀ q ∈ metM P ++ [(((i : Int), fn, 0), Value.int .i64 1)], q.1 ≠ ((i : Int), ⟨#[]⟩, fx) := by
            intro q hq
            rcases List.mem_append.1 hq with hq | hq
            · exact Hg2.out q hq
            · simp only [List.mem_singleton] at hq
              subst hq
              intro e
              simp only [Prod.mk.injEq] at e
              exact Hne.out e.2.1
          have hMf := mf.up (Ext.drew (Ext.refl wf))
          obtain ⟨st2, wg, run4, mg, gg⟩ := hMf.entry keyB_met Try.underlying103 zeroInt7 (okMet_number (x := fx) hi hnum.1 hnum.2)
          have run3 := (hMf.look keyB_met Try.underlying103 zeroInt7 (okMet_number (x := fx) hi hnum.1 hnum.2)).1
          rw [getV_none hnew, Option.getD_none] at run3
          rw [getV_none hnew, Option.getD_none] at run4 mg
          have run3b := (mg.map.look keyB_met Try.underlying103 zeroInt7 (okMet_number (x := fx) hi hnum.1 hnum.2)).1
          rw [getV_put_self, Option.getD_some] at run3b
          obtain ⟨wh, run5, mh, gh⟩ := mg.store (P := Try.prog) (t := 103) keyB_met.inj (okMet_number (x := fx) hi hnum.1 hnum.2) (.int .i64 1)
          rw [putV_put, putV_new hnew, ← metM_snoc P i ⟨fn, fx, fk, fr, fp, fo⟩] at mh
          have hall := (((((HOd.out.ext (Ext.drew (Ext.refl wd))).trans ge).trans gf).ext (Ext.drew (Ext.refl wf))).trans gg).trans gh
          have Hmh := Lib.hid mh
          have Hall := Lib.hid hall
          unfold encMet at run0 run1 run3 run4 run0b run3b
          simp only at run0 run1 run3 run4 run0b run3b
          have f0 : wf.cell? ⟨b2, 0, none⟩ = some (.int .i64 i) := Bf.cell 0
          have f1 : wf.cell? ⟨b2, 1, none⟩ = some (.string ⟨#[]⟩) := Bf.cell 1
          have f2 : wf.cell? ⟨b2, 2, none⟩ = some (.int .i64 fx) := Bf.cell 2
          have fl := Bf.lt
          have H7 : ofB n ⟨fn, fx, fk, fr, fp, fo⟩ = false := h7
          unfold ofB at h7
          simp only at h7
          clear mh hall mf hMf mg hnew me hMd ge gf gg gh h6 Bf B B1 B2 X H7 HP Hst Hsu
          have ways : (((fk : Int) == 17) = true ∧ (fk != 17) = false ∧ decide (fo < 0) = false ∧ decide ((n : Int) ≤ fo) = false) ∨ (((fk : Int) == 17) = false ∧ (fk != 17) = true ∧ (fo != 0) = false) := by
            rcases hk : ((fk : Int) == 17) with _ | _
            · have : (fk != 17) = true := by simp only [bne, hk]; rfl
              rw [hk, this] at h7
              simp only [Bool.false_and, Bool.true_and, Bool.false_or] at h7
              exact .inr ⟨rfl, this, h7⟩
            · have : (fk != 17) = false := by simp only [bne, hk]; rfl
              rw [hk, this] at h7
              simp only [Bool.false_and, Bool.true_and, Bool.or_false, Bool.or_eq_false_iff] at h7
              exact .inl ⟨rfl, this, h7.1, h7.2⟩
          clear h7
          have hw1 : IntKind.i64.wrap 1 = 1 := by decide
          rcases ways with ⟨k1, k2, k3, k4⟩ | ⟨k1, k2, k3⟩
          all_goals
            go_wp2
            go_region_law (fail)
            all_goals
              go_wp2
              go_region_law (fail)
              all_goals
                go_wp2
                go_ret
                exact ⟨rfl, Hall.out, Hmh.out⟩
        · obtain rfl : W = 11 := by rw [HV.out, h6, h7]; rfl
          unfold ofB at h7
          simp only at h7
          have ways : (((fk : Int) == 17) = true ∧ (decide (fo < 0) = true ∨ decide (fo < 0) = false ∧ decide ((n : Int) ≤ fo) = true)) ∨ (((fk : Int) == 17) = false ∧ (fk != 17) = true ∧ (fo != 0) = true) := by
            rcases hk : ((fk : Int) == 17) with _ | _
            · have : (fk != 17) = true := by simp only [bne, hk]; rfl
              rw [hk, this] at h7
              simp only [Bool.false_and, Bool.true_and, Bool.false_or] at h7
              exact .inr ⟨rfl, this, h7⟩
            · have : (fk != 17) = false := by simp only [bne, hk]; rfl
              rw [hk, this] at h7
              simp only [Bool.false_and, Bool.true_and, Bool.or_false] at h7
              refine .inl ⟨rfl, ?_⟩
              rcases h8 : decide (fo < 0) with _ | _
              · rw [h8, Bool.false_or] at h7; exact .inr ⟨rfl, h7⟩
              · exact .inl rfl
          clear h7 h6
          rcases ways with ⟨k1, k3 | ⟨k3, k4⟩⟩ | ⟨k1, k2, k3⟩
          all_goals
            go_wp2
            go_ret
            exact ⟨rfl, HOd.out, fun h => by omega⟩
      · obtain rfl : W = 10 := by rw [HV.out, h6]; rfl
        clear h6
        go_wp2
        go_ret
        exact ⟨rfl, HOd.out, fun h => by omega⟩

end Go.Proofs.Ytlmmlmmadgcmcaa
