/- Contracts of layer 7: the same schemas. -/
import Derived.Test.YtalhnggfilgmjaaW7f
namespace Go.Proofs.Ytalhnggfilgmjaa
open Go.RowKit
set_option linter.unusedVariables false

theorem eqFields_step {P : Program} {d : Nat} {xs ys : Array Value} {f : Field} {fs : List Field} {w : World} {v u : Value} {r : Bool} (hn : f.name ≠ "_") (hp : P.plainKey f.type = true) (hx : xs[f.offset]? = some v) (hy : ys[f.offset]? = some u) (he : (Op.equalIn d f.type v u).run P w = .ok r w) :
    (Op.eqFields d xs ys (f :: fs)).run P w = if r = true then (Op.eqFields d xs ys fs).run P w else .ok false w := by
  simp only [Op.eqFields, hn, ne_eq, not_false_eq_true, if_true, Sem.run_bind, run_part_plain w hp hx, run_part_plain w hp hy, he, Result.andThen_ok]
  cases r <;> simp

set_option maxRecDepth 100000 in
/-- '!=' of two fields. -/
theorem neqField (a b : FieldD) : ∀ W : World, (Go.binOp .neq 56 (fieldV a) (fieldV b)).run Try.prog W = .ok (.bool (!decide (a = b))) W := by
  intro W
  have u0 := Try.underlying9
  have u1 := Try.underlying3
  have u2 := Try.underlying4
  have u3 := Try.underlying56
  obtain ⟨n1, x1, k1, r1, p1, o1⟩ := a
  obtain ⟨n2, x2, k2, r2, p2, o2⟩ := b
  unfold fieldV
  have hs : Try.prog.stoodInHeld 56 = false := by kernel_rfl
  have hfs : Try.prog.underlying 56 = some (.struct (Try.prog.fieldsOf 56)) := by kernel_rfl
  rw [run_neq_struct, run_equalIn_struct W 9999 56 _ _ hfs hs]
  have hf : (Try.prog.fieldsOf 56).toList = (match Try.prog.underlying 56 with | some (.struct fs) => fs.toList | _ => []) := by rw [hfs]
  rw [hf, u3]
  show ((Sem.run Try.prog (Op.eqFields 9999 _ _ [_, _, _, _, _, _]) W).andThen _) = _
  rw [eqFields_step (by simp) (by kernel_rfl) rfl rfl (run_equalIn_string (P := Try.prog) W 9998 _ _ _ u0),
    eqFields_step (by simp) (by kernel_rfl) rfl rfl (run_equalIn_int (P := Try.prog) W 9998 _ .i64 .i64 _ _ u1),
    eqFields_step (by simp) (by kernel_rfl) rfl rfl (run_equalIn_int (P := Try.prog) W 9998 _ .i64 .i64 _ _ u1),
    eqFields_step (by simp) (by kernel_rfl) rfl rfl (run_equalIn_bool' (P := Try.prog) W 9998 _ _ _ u2),
    eqFields_step (by simp) (by kernel_rfl) rfl rfl (run_equalIn_bool' (P := Try.prog) W 9998 _ _ _ u2),
    eqFields_step (by simp) (by kernel_rfl) rfl rfl (run_equalIn_int (P := Try.prog) W 9998 _ .i64 .i64 _ _ u1)]
  have hstr : (n1.toList == n2.toList) = decide (n1 = n2) := by rw [str_eq]
  simp only [hstr, FieldD.mk.injEq, Op.eqFields]
  by_cases h1 : n1 = n2 <;> by_cases h2 : x1 = x2 <;> by_cases h3 : k1 = k2 <;> by_cases h4 : r1 = r2 <;> by_cases h5 : p1 = p2 <;> by_cases h6 : o1 = o2 <;> simp [h1, h2, h3, h4, h5, h6, Result.andThen]

set_option maxRecDepth 100000 in
theorem sEqFields {A B : Option Addr} {n c m d : Nat} {l k : List FieldD} {w : World} (ha : FieldsAt w A n c l) (hb : FieldsAt w B m d k) (hn : n ≤ 4000000000000) :
    Calls Try.prog 58 #[.slice A n c, .slice B m d] w fun e w' => e = .returned (.bool (decide (l = k))) ∧ Ext w w' := by
  have hx := ha.length
  have hy := hb.length
  by_cases hnm : n = m
  · subst hnm
    have q1 : ((n : Int) != (n : Int)) = false := by simp
    go_enter Try.func58, Try.ntmps58
    go_wp2
    go_loopw [5, 13] (fun _ i wr => ∃ j : Nat, j ≤ n ∧ i = .int .i64 j ∧ Ext w wr ∧ Hid (l.take j = k.take j)) (fun _ i _ => n - (intOf i).toNat)
    case atStart => exact ⟨0, Nat.zero_le _, rfl, Ext.refl _, rfl⟩
    case round =>
      obtain ⟨j, hj, rfl, hE, hT⟩ := hrel
      by_cases hlt : j < n
      · obtain ⟨b1, off1, f1, rfl, h1, _, hb1, d0, d1, d2, d3, d4, d5⟩ := (ha.up hE).field hlt
        obtain ⟨b2, off2, f2, rfl, h2, _, hb2, e0, e1, e2, e3, e4, e5⟩ := (hb.up hE).field hlt
        have hltI : (j : Int) < n := by omega
        have H1 := Lib.hid h1
        have H2 := Lib.hid h2
        have Hx := Lib.hid hx
        have Hy := Lib.hid hy
        have hq := neqField f1 f2
        unfold fieldV at hq
        by_cases hf : f1 = f2
        · rw [decide_eq_true hf] at hq
          have Hf := Lib.hid hf
          clear h1 h2 hf hx hy
          simp only [Bool.not_true] at hq
          go_wp2
          go_quiet (fail)
          go_wp2
          go_roundw
          case rel => exact ⟨j + 1, by omega, by go_num, hE.drewN _, by show _ = _; rw [take_snoc _ _ _ H1.out, take_snoc _ _ _ H2.out, hT.out, Hf.out]⟩
          case measure => simp [intOf]; omega
        · rw [decide_eq_false hf] at hq
          have Hf := Lib.hid hf
          clear h1 h2 hf hx hy
          simp only [Bool.not_false] at hq
          go_wp2
          go_quiet (fail)
          go_wp2
          go_ret
          refine ⟨ret_bool (decide_eq_false ?_).symm, hE.drewN _⟩
          rintro rfl
          have := H1.out.symm.trans H2.out
          exact Hf.out (by simpa using this)
      · have hkn : j = n := by omega
        subst hkn
        have hfin : l = k := by
          have := hT.out
          rwa [List.take_of_length_le (by omega), List.take_of_length_le (by omega)] at this
        have Hf := Lib.hid hfin
        clear hfin hx hy
        go_wp2
        go_ret
        exact ⟨ret_bool (decide_eq_true Hf.out).symm, hE⟩
  · have q1 : ((n : Int) != (m : Int)) = true := by simp; omega
    have hne : ¬ l = k := by rintro rfl; omega
    have Hne := Lib.hid hne
    clear hne hnm hx hy
    go_enter Try.func58, Try.ntmps58
    go_wp2
    go_ret
    exact ⟨ret_bool (decide_eq_false Hne.out).symm, Ext.refl _⟩

theorem MsgD.eq_iff {x y : MsgD} : x = y ↔ x.name = y.name ∧ x.fields = y.fields := by
  constructor
  · rintro rfl
    exact ⟨rfl, rfl⟩
  · rintro ⟨h1, h2⟩
    obtain ⟨a, b⟩ := x
    obtain ⟨c, d⟩ := y
    simp only at h1 h2
    rw [h1, h2]

instance : DecidableEq MsgD := fun x y => decidable_of_iff _ MsgD.eq_iff.symm

set_option maxRecDepth 100000 in
theorem sSame1 {x y : MsgV} {w : World} (hx : FieldsAt w x.A x.n x.c x.d.fields) (hy : FieldsAt w y.A y.n y.c y.d.fields) (hn : x.n ≤ 4000000000000) :
    Calls Try.prog 57 #[msgV x, msgV y] w fun e w' => e = .returned (.bool (decide (x.d = y.d))) ∧ Ext w w' := by
  obtain ⟨⟨xn, xf⟩, xA, xl, xc⟩ := x
  obtain ⟨⟨yn, yf⟩, yA, yl, yc⟩ := y
  simp only at hx hy hn
  unfold msgV
  have hc := fun W (h : Ext w W) => sEqFields (hx.up h) (hy.up h) hn
  have Hc := Lib.hid hc
  clear hc
  by_cases h : xn = yn
  · subst h
    have hd : decide ((⟨xn, xf⟩ : MsgD) = ⟨xn, yf⟩) = decide (xf = yf) := by
      rw [decide_eq_decide, MsgD.eq_iff]
      simp
    rw [hd]
    go_enter Try.func57, Try.ntmps57
    go_wp2_with (go_at_call 58; refine (Hc.out _ (by repeat with_reducible (first | exact Ext.refl _ | refine Ext.alloc ?_ _ | refine Ext.drew ?_ | refine Ext.drewN ?_ _ | refine Ext.setCell ?_ (by first | exact Nat.le_refl _ | omega | (simp; done) | (simp; omega)) _))).mono ?_; rintro e w1 ⟨rfl, E1⟩)
    go_ret
    exact ⟨rfl, Ext.trans (by repeat with_reducible (first | exact Ext.refl _ | refine Ext.alloc ?_ _ | refine Ext.drew ?_ | refine Ext.drewN ?_ _ | refine Ext.setCell ?_ (by first | exact Nat.le_refl _ | omega | (simp; done) | (simp; omega)) _)) E1⟩
  · have hd : decide ((⟨xn, xf⟩ : MsgD) = ⟨yn, yf⟩) = false := by
      rw [decide_eq_false_iff_not, MsgD.eq_iff]
      exact fun q => h q.1
    have hne := str_ne h
    rw [hd]
    go_enter Try.func57, Try.ntmps57
    go_wp2
    go_ret
    exact ⟨rfl, (by repeat with_reducible (first | exact Ext.refl _ | refine Ext.alloc ?_ _ | refine Ext.drew ?_ | refine Ext.drewN ?_ _ | refine Ext.setCell ?_ (by first | exact Nat.le_refl _ | omega | (simp; done) | (simp; omega)) _))⟩

set_option maxRecDepth 100000 in
theorem sEqMsgs {A B : Option Addr} {n c m d : Nat} {S T : List MsgV} {w : World} (ha : SchemaAt w A n c S) (hb : SchemaAt w B m d T) (hn : n ≤ 4000000000000) (hS : ∀ x ∈ S, x.n ≤ 4000000000000) :
    Calls Try.prog 56 #[.slice A n c, .slice B m d, .func (.func 57) #[] #[]] w fun e w' => e = .returned (.bool (decide (S.map MsgV.d = T.map MsgV.d))) ∧ Ext w w' := by
  have eg : ∀ args w, (callFunc 57 args).run Try.prog w = .ok (.enter 57 args) w := enters_of Try.func57 (by kernel_rfl) rfl
  have hx := ha.length
  have hy := hb.length
  have HS := Lib.hid hS
  clear hS
  by_cases hnm : n = m
  · subst hnm
    have q1 : ((n : Int) != (n : Int)) = false := by simp
    go_enter Try.func56, Try.ntmps56
    go_wp2
    go_loopw [7, 8, 9, 17] (fun _ _ _ i wr => ∃ j : Nat, j ≤ n ∧ i = .int .i64 j ∧ Ext w wr ∧ Hid ((S.map MsgV.d).take j = (T.map MsgV.d).take j)) (fun _ _ _ i _ => n - (intOf i).toNat)
    case atStart => exact ⟨0, Nat.zero_le _, rfl, Ext.refl _, rfl⟩
    case round =>
      obtain ⟨j, hj, rfl, hE, hT⟩ := hrel
      by_cases hlt : j < n
      · obtain ⟨b1, off1, x, rfl, h1, hfx, _, hb1, c0, c1⟩ := (ha.up hE).msg hlt
        obtain ⟨b2, off2, y, rfl, h2, hfy, _, hb2, d0, d1⟩ := (hb.up hE).msg hlt
        have hltI : (j : Int) < n := by omega
        have H1 : Hid ((S.map MsgV.d)[j]? = some x.d) := by show _ = _; rw [List.getElem?_map, h1]; rfl
        have H2 : Hid ((T.map MsgV.d)[j]? = some y.d) := by show _ = _; rw [List.getElem?_map, h2]; rfl
        have hxn := HS.out x (List.mem_of_getElem? h1)
        have Hx := Lib.hid hx
        have Hy := Lib.hid hy
        have hc := fun W (h : Ext wr W) => sSame1 (hfx.up h) (hfy.up h) hxn
        unfold msgV at hc
        by_cases hf : x.d = y.d
        · rw [decide_eq_true hf] at hc
          have Hf := Lib.hid hf
          have Hc := Lib.hid hc
          clear h1 h2 hf hx hy hc hfx hfy
          go_wp2_with (go_at_fn 57; refine (Hc.out _ (by repeat with_reducible (first | exact Ext.refl _ | refine Ext.alloc ?_ _ | refine Ext.drew ?_ | refine Ext.drewN ?_ _ | refine Ext.setCell ?_ (by first | exact Nat.le_refl _ | omega | (simp; done) | (simp; omega)) _))).mono ?_; rintro e w1 ⟨rfl, E1⟩)
          go_roundw
          case rel => exact ⟨j + 1, by omega, by go_num, hE.trans (Ext.trans (by repeat with_reducible (first | exact Ext.refl _ | refine Ext.alloc ?_ _ | refine Ext.drew ?_ | refine Ext.drewN ?_ _ | refine Ext.setCell ?_ (by first | exact Nat.le_refl _ | omega | (simp; done) | (simp; omega)) _)) E1), by show _ = _; rw [take_snoc _ _ _ H1.out, take_snoc _ _ _ H2.out, hT.out, Hf.out]⟩
          case measure => simp [intOf]; omega
        · rw [decide_eq_false hf] at hc
          have Hf := Lib.hid hf
          have Hc := Lib.hid hc
          clear h1 h2 hf hx hy hc hfx hfy
          go_wp2_with (go_at_fn 57; refine (Hc.out _ (by repeat with_reducible (first | exact Ext.refl _ | refine Ext.alloc ?_ _ | refine Ext.drew ?_ | refine Ext.drewN ?_ _ | refine Ext.setCell ?_ (by first | exact Nat.le_refl _ | omega | (simp; done) | (simp; omega)) _))).mono ?_; rintro e w1 ⟨rfl, E1⟩)
          go_ret
          refine ⟨ret_bool (decide_eq_false ?_).symm, hE.trans (Ext.trans (by repeat with_reducible (first | exact Ext.refl _ | refine Ext.alloc ?_ _ | refine Ext.drew ?_ | refine Ext.drewN ?_ _ | refine Ext.setCell ?_ (by first | exact Nat.le_refl _ | omega | (simp; done) | (simp; omega)) _)) E1)⟩
          intro hh
          have := H1.out.symm.trans ((congrArg (fun q => q[j]?) hh).trans H2.out)
          exact Hf.out (by simpa using this)
      · have hkn : j = n := by omega
        subst hkn
        have hfin : S.map MsgV.d = T.map MsgV.d := by
          have := hT.out
          rwa [List.take_of_length_le (by simp; omega), List.take_of_length_le (by simp; omega)] at this
        have Hf := Lib.hid hfin
        clear hfin hx hy
        go_wp2
        go_ret
        exact ⟨ret_bool (decide_eq_true Hf.out).symm, hE⟩
  · have q1 : ((n : Int) != (m : Int)) = true := by simp; omega
    have hne : ¬ S.map MsgV.d = T.map MsgV.d := by
      intro hh
      have := congrArg List.length hh
      simp only [List.length_map] at this
      omega
    have Hne := Lib.hid hne
    clear hne hnm hx hy
    go_enter Try.func56, Try.ntmps56
    go_wp2
    go_ret
    exact ⟨ret_bool (decide_eq_false Hne.out).symm, Ext.refl _⟩

theorem sSameS {A B : Option Addr} {n c m d : Nat} {S T : List MsgV} {w : World} (ha : SchemaAt w A n c S) (hb : SchemaAt w B m d T) (hn : n ≤ 4000000000000) (hS : ∀ x ∈ S, x.n ≤ 4000000000000) :
    Calls Try.prog 25 #[.slice A n c, .slice B m d] w fun e w' => e = .returned (.bool (decide (S.map MsgV.d = T.map MsgV.d))) ∧ Ext w w' := by
  have hc := sEqMsgs ha hb hn hS
  have Hc := Lib.hid hc
  clear hc hS
  go_enter Try.func25, Try.ntmps25
  go_wp2_with (go_at_call 56; refine Hc.out.mono ?_; rintro e w1 ⟨rfl, E1⟩)
  go_ret
  exact ⟨rfl, E1⟩

set_option maxRecDepth 100000 in
set_option maxHeartbeats 2000000 in
theorem sSameR {A B : Option Addr} {n c m d : Nat} {S T : List MsgV} {w : World} (ha : SchemaAt w A n c S) (hb : SchemaAt w B m d T) (hn : n ≤ 4000000000000) (hS : ∀ x ∈ S, x.n ≤ 4000000000000) :
    Calls Try.prog 26 #[.slice A n c, .slice B m d] w fun e w' => e = .returned (.bool (decide (S.map MsgV.d = T.map MsgV.d))) ∧ Ext w w' := by
  have hx := ha.length
  have hy := hb.length
  have HS := Lib.hid hS
  clear hS
  by_cases hnm : n = m
  · subst hnm
    have q1 : ((n : Int) != (n : Int)) = false := by simp
    go_enter Try.func26, Try.ntmps26
    go_wp2
    go_loopw [5, 6] (fun i _ wr => ∃ j : Nat, j ≤ n ∧ i = .int .i64 j ∧ Ext w wr ∧ Hid ((S.map MsgV.d).take j = (T.map MsgV.d).take j)) (fun i _ _ => n - (intOf i).toNat)
    case atStart => exact ⟨0, Nat.zero_le _, rfl, Ext.refl _, rfl⟩
    case round =>
      obtain ⟨j, hj, rfl, hE, hT⟩ := hrel
      by_cases hlt : j < n
      · obtain ⟨b1, off1, x, rfl, h1, hfx, _, hb1, c0, c1⟩ := (ha.up hE).msg hlt
        obtain ⟨b2, off2, y, rfl, h2, hfy, _, hb2, d0, d1⟩ := (hb.up hE).msg hlt
        have hltI : (j : Int) < n := by omega
        have H1 : Hid ((S.map MsgV.d)[j]? = some x.d) := by show _ = _; rw [List.getElem?_map, h1]; rfl
        have H2 : Hid ((T.map MsgV.d)[j]? = some y.d) := by show _ = _; rw [List.getElem?_map, h2]; rfl
        have hxn := HS.out x (List.mem_of_getElem? h1)
        have Hx := Lib.hid hx
        have Hy := Lib.hid hy
        have hxl := hfx.length
        have hyl := hfy.length
        have hno : ¬ x.d = y.d → ¬ S.map MsgV.d = T.map MsgV.d := by
          intro hf hh
          have := H1.out.symm.trans ((congrArg (fun q => q[j]?) hh).trans H2.out)
          exact hf (by simpa using this)
        have hstep : x.d = y.d → (S.map MsgV.d).take (j + 1) = (T.map MsgV.d).take (j + 1) := fun hf => by rw [take_snoc _ _ _ H1.out, take_snoc _ _ _ H2.out, hT.out, hf]
        obtain ⟨⟨xn, xf⟩, xA, xl, xc⟩ := x
        obtain ⟨⟨yn, yf⟩, yA, yl, yc⟩ := y
        simp only at hfx hfy hxn c0 c1 d0 d1 hxl hyl hno hstep
        have Hno := Lib.hid hno
        have Hstep := Lib.hid hstep
        have Hxl := Lib.hid hxl
        have Hyl := Lib.hid hyl
        clear h1 h2 hno hstep H1 H2 hx hy hxl hyl
        by_cases hnn : xn = yn
        · subst hnn
          have s1 : (xn.toList != xn.toList) = false := by simp
          by_cases hll : xl = yl
          · subst hll
            have l1 : ((xl : Int) != xl) = false := by simp
            go_wp2
            go_quiet (fail)
            go_wp2
            go_loopw [6] (fun q wq => ∃ k : Nat, k ≤ xl ∧ q = .int .i64 k ∧ Ext wr wq ∧ Hid (xf.take k = yf.take k)) (fun q _ => xl - (intOf q).toNat)
            case atStart => exact ⟨0, Nat.zero_le _, rfl, (by repeat with_reducible (first | exact Ext.refl _ | refine Ext.alloc ?_ _ | refine Ext.drew ?_ | refine Ext.drewN ?_ _ | refine Ext.setCell ?_ (by first | exact Nat.le_refl _ | omega | (simp; done) | (simp; omega)) _)), rfl⟩
            case round =>
              obtain ⟨k, hk, rfl, hE2, hT2⟩ := hrel
              rename World => wq
              have z0 := hE2.of_cell c1
              have z1 := hE2.of_cell d1
              by_cases hlt2 : k < xl
              · obtain ⟨b3, off3, f1, rfl, g1, _, hb3, e0, e1, e2, e3, e4, e5⟩ := (hfx.up hE2).field hlt2
                obtain ⟨b4, off4, f2, rfl, g2, _, hb4, p0, p1, p2, p3, p4, p5⟩ := (hfy.up hE2).field hlt2
                have hlt2I : (k : Int) < xl := by omega
                have G1 := Lib.hid g1
                have G2 := Lib.hid g2
                have hq := neqField f1 f2
                unfold fieldV at hq
                by_cases hf : f1 = f2
                · rw [decide_eq_true hf] at hq
                  have Hf := Lib.hid hf
                  clear g1 g2 hf
                  simp only [Bool.not_true] at hq
                  go_wp2
                  go_quiet (fail)
                  go_wp2
                  go_roundw
                  case rel => exact ⟨k + 1, by omega, by go_num, hE2.trans (by repeat with_reducible (first | exact Ext.refl _ | refine Ext.alloc ?_ _ | refine Ext.drew ?_ | refine Ext.drewN ?_ _ | refine Ext.setCell ?_ (by first | exact Nat.le_refl _ | omega | (simp; done) | (simp; omega)) _)), by show _ = _; rw [take_snoc _ _ _ G1.out, take_snoc _ _ _ G2.out, hT2.out, Hf.out]⟩
                  case measure => simp [intOf]; omega
                · rw [decide_eq_false hf] at hq
                  have Hf := Lib.hid hf
                  clear g1 g2 hf
                  simp only [Bool.not_false] at hq
                  go_wp2
                  go_quiet (fail)
                  go_wp2
                  go_ret
                  refine ⟨ret_bool (decide_eq_false (Hno.out ?_)).symm, (hE.trans hE2).trans (by repeat with_reducible (first | exact Ext.refl _ | refine Ext.alloc ?_ _ | refine Ext.drew ?_ | refine Ext.drewN ?_ _ | refine Ext.setCell ?_ (by first | exact Nat.le_refl _ | omega | (simp; done) | (simp; omega)) _))⟩
                  rintro hh
                  rw [MsgD.eq_iff] at hh
                  have hh2 := congrArg (fun q => q[k]?) hh.2
                  simp only at hh2
                  rw [G1.out, G2.out] at hh2
                  exact Hf.out (by simpa using hh2)
              · have hkn : k = xl := by omega
                subst hkn
                have hfin : xf = yf := by
                  have := hT2.out
                  rwa [List.take_of_length_le (by have := Hxl.out; omega), List.take_of_length_le (by have := Hyl.out; omega)] at this
                have Hf := Lib.hid hfin
                clear hfin
                go_wp2
                go_roundw
                case rel => exact ⟨j + 1, by omega, by go_num, hE.trans (hE2.trans (by repeat with_reducible (first | exact Ext.refl _ | refine Ext.alloc ?_ _ | refine Ext.drew ?_ | refine Ext.drewN ?_ _ | refine Ext.setCell ?_ (by first | exact Nat.le_refl _ | omega | (simp; done) | (simp; omega)) _))), Hstep.out (by rw [Hf.out])⟩
                case measure => simp [intOf]; omega
          · have l1 : ((xl : Int) != yl) = true := by rw [bne_iff_ne]; omega
            have hne : ¬ (⟨xn, xf⟩ : MsgD) = ⟨xn, yf⟩ := by
              rw [MsgD.eq_iff]
              rintro ⟨_, hh⟩
              simp only at hh
              subst hh
              exact hll (Hxl.out.symm.trans Hyl.out)
            have Hne := Lib.hid hne
            clear hne hll
            go_wp2
            go_quiet (fail)
            go_wp2
            go_ret
            exact ⟨ret_bool (decide_eq_false (Hno.out Hne.out)).symm, hE.trans (by repeat with_reducible (first | exact Ext.refl _ | refine Ext.alloc ?_ _ | refine Ext.drew ?_ | refine Ext.drewN ?_ _ | refine Ext.setCell ?_ (by first | exact Nat.le_refl _ | omega | (simp; done) | (simp; omega)) _))⟩
        · have s0 := str_ne hnn
          have s1 : (xn.toList != yn.toList) = true := by rw [bne, s0]; rfl
          have hne : ¬ (⟨xn, xf⟩ : MsgD) = ⟨yn, yf⟩ := by
            rw [MsgD.eq_iff]
            exact fun hh => hnn hh.1
          have Hne := Lib.hid hne
          clear hne hnn s1
          go_wp2
          go_quiet (fail)
          go_wp2
          go_ret
          exact ⟨ret_bool (decide_eq_false (Hno.out Hne.out)).symm, hE.trans (by repeat with_reducible (first | exact Ext.refl _ | refine Ext.alloc ?_ _ | refine Ext.drew ?_ | refine Ext.drewN ?_ _ | refine Ext.setCell ?_ (by first | exact Nat.le_refl _ | omega | (simp; done) | (simp; omega)) _))⟩
      · have hkn : j = n := by omega
        subst hkn
        have hfin : S.map MsgV.d = T.map MsgV.d := by
          have := hT.out
          rwa [List.take_of_length_le (by simp; omega), List.take_of_length_le (by simp; omega)] at this
        have Hf := Lib.hid hfin
        clear hfin hx hy
        go_wp2
        go_ret
        exact ⟨ret_bool (decide_eq_true Hf.out).symm, hE⟩
  · have q1 : ((n : Int) != (m : Int)) = true := by simp; omega
    have hne : ¬ S.map MsgV.d = T.map MsgV.d := by
      intro hh
      have := congrArg List.length hh
      simp only [List.length_map] at this
      omega
    have Hne := Lib.hid hne
    clear hne hnm hx hy
    go_enter Try.func26, Try.ntmps26
    go_wp2
    go_ret
    exact ⟨ret_bool (decide_eq_false Hne.out).symm, Ext.refl _⟩

end Go.Proofs.Ytalhnggfilgmjaa
