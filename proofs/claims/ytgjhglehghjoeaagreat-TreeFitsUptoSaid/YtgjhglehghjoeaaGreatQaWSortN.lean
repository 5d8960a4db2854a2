/- Contracts of Go's stable sort of whole numbers: merging in place, whole. -/
import Derived.Test.YtgjhglehghjoeaaGreatQaWSortM

namespace Go.Proofs.YtgjhglehghjoeaaGreat
open Go.RowKit
set_option linter.unusedVariables false

/-- What a merge does, where at most so many stand. -/
def MrgK (gf : FuncId) (lb : Array Value) (key : Nat → Int) (N g n c : Nat) (w0 wS : World) (k : Nat) : Prop :=
  ∀ (w : World) (a m b : Nat) (xs : List Nat), b - a ≤ k → Own w0 w 3 1 (some ⟨g, 0, none⟩) n c (xs.map iv) → Only g wS w → (∀ u, u < n → atL xs u < N) → MgP key xs a m b → b ≤ n →
    Calls Tryz.prog 223 #[.slice (some ⟨g, 0, none⟩) n c, .int .i64 (a : Int), .int .i64 (m : Int), .int .i64 (b : Int), .func (.func gf) #[] lb] w fun e w' => e = .returned (.tuple #[]) ∧ ∃ ys, MgD key xs ys a b ∧ Own w0 w' 3 1 (some ⟨g, 0, none⟩) n c (ys.map iv) ∧ Only g w w'

set_option maxRecDepth 100000 in
set_option maxHeartbeats 4000000 in
theorem zMergeN {w0 wS w : World} {g n c a m b N K : Nat} {xs : List Nat} {key : Nat → Int} {gf : FuncId} {lb : Array Value} (eg : ∀ args w, (callFunc gf args).run Tryz.prog w = .ok (.enter gf args) w) (hcmp : CmpF gf lb key N g wS) (hK : MrgK gf lb key N g n c w0 wS K)
    (own : Own w0 w 3 1 (some ⟨g, 0, none⟩) n c (xs.map iv)) (hS : Only g wS w) (hx : ∀ u, u < n → atL xs u < N) (hp : MgP key xs a m b) (hk : b - a ≤ K + 1) (h1 : a + 1 < m) (h2 : m + 1 < b) (hb : b ≤ n) (hn : n ≤ 1000000000000) :
    Calls Tryz.prog 223 #[.slice (some ⟨g, 0, none⟩) n c, .int .i64 (a : Int), .int .i64 (m : Int), .int .i64 (b : Int), .func (.func gf) #[] lb] w fun e w' => e = .returned (.tuple #[]) ∧ ∃ ys, MgD key xs ys a b ∧ Own w0 w' 3 1 (some ⟨g, 0, none⟩) n c (ys.map iv) ∧ Only g w w' := by
  have hxl := own.numL
  have Hx := Lib.hid hx
  have Hcmp := Lib.hid hcmp
  have Hp := Lib.hid hp
  have HK := Lib.hid hK
  have q0 : (((m : Int) - a) == 1) = false := by rw [beq_eq_false_iff_ne]; omega
  have q1 : (((b : Int) - m) == 1) = false := by rw [beq_eq_false_iff_ne]; omega
  obtain ⟨mid, hmid⟩ : ∃ mid, mid = (a + b) / 2 := ⟨_, rfl⟩
  have hmidI : ((a : Int) + b) / 2 = (mid : Int) := by omega
  obtain ⟨p, hpp⟩ : ∃ p, p + 1 = mid + m := ⟨mid + m - 1, by omega⟩
  have hpI : (mid : Int) + m - 1 = (p : Int) := by omega
  obtain ⟨s0, r0, hsr⟩ : ∃ s0 r0, (mid < m ∧ s0 = mid + m - b ∧ r0 = mid) ∨ (m ≤ mid ∧ s0 = a ∧ r0 = m) := by
    by_cases h : mid < m
    · exact ⟨_, _, .inl ⟨h, rfl, rfl⟩⟩
    · exact ⟨_, _, .inr ⟨by omega, rfl, rfl⟩⟩
  have hM : Mid a m b p s0 r0 := ⟨by omega, by omega, by omega, fun c h1 h2 => by omega⟩
  have hMs := hM.as0
  have hMr := hM.r0m
  have hMsr := hM.s0r0
  have HHm := Lib.hid hmid
  have Hsr := Lib.hid hsr
  have HM := Lib.hid hM
  have Hpp := Lib.hid hpp
  have hrm : r0 ≤ mid := by omega
  have hpre : ((mid : Int) < m ∧ (mid : Int) + m - b = (s0 : Int) ∧ (mid : Int) = r0) ∨ (¬ (mid : Int) < m ∧ (a : Int) = s0 ∧ (m : Int) = r0) := by
    rcases hsr with ⟨e1, e2, e3⟩ | ⟨e1, e2, e3⟩
    · exact .inl ⟨by omega, by omega, by omega⟩
    · exact .inr ⟨by omega, by omega, by omega⟩
  clear hx hcmp hp hK hsr hM hmid hpp
  go_enter Tryz.func223, Tryz.ntmps223
  go_upto_if 140 with fail
  go_cut [20, 21] (fun u v wz => u = .int .i64 (s0 : Int) ∧ v = .int .i64 (r0 : Int) ∧ wz = w)
  case first => as_aux_lemma =>
    have HPre := Lib.hid hpre
    by_cases k1 : (mid : Int) < m
    · clear hpre
      go_wp2
      go_meet
      exact ⟨congrArg (Value.int .i64) (by have := HPre.out; omega), congrArg (Value.int .i64) (by have := HPre.out; omega), rfl⟩
    · clear hpre
      go_wp2
      go_meet
      exact ⟨congrArg (Value.int .i64) (by have := HPre.out; omega), congrArg (Value.int .i64) (by have := HPre.out; omega), rfl⟩
  case rest => as_aux_lemma =>
    obtain ⟨rfl, rfl, rfl⟩ := hcut
    clear hpre
    go_wp2
    go_loopw [20, 21] (fun u v wr => ∃ (s r : Nat), s0 ≤ s ∧ s ≤ r ∧ r ≤ r0 ∧ u = .int .i64 s ∧ v = .int .i64 r ∧ Hid (Find key xs p s0 r0 s r) ∧ Ext wc wr) (fun u v _ => (intOf v).toNat - (intOf u).toNat)
    case atStart => exact ⟨s0, r0, by omega, by omega, by omega, by go_num, by go_num, Find.start (by omega), Ext.refl wc⟩
    case round => as_aux_lemma =>
      obtain ⟨s, r, hs, hsr, hr, rfl, rfl, hF, hE⟩ := hrel
      by_cases hlt : s < r
      · have hltI : (s : Int) < r := by omega
        obtain ⟨h, hh⟩ : ∃ h, h = (s + r) / 2 := ⟨_, rfl⟩
        have hhI : ((s : Int) + r) / 2 = (h : Int) := by omega
        have hih : s ≤ h := by omega
        have hhj : h < r := by omega
        have hpc := HM.out.right h (by omega) (by omega)
        obtain ⟨d, hd⟩ : ∃ d, d = p - h := ⟨_, rfl⟩
        have hdI : (p : Int) - h = (d : Int) := by omega
        have z0 : IntKind.i64.wrap ((p : Int) - h) = (d : Int) := by rw [IntWalk.i64_in _ (by omega)]; omega
        have z1 : (h : Int) < n := by omega
        have z2 : (d : Int) < n := by omega
        have z3 : (0 : Int) ≤ h := by omega
        have z4 : (0 : Int) ≤ d := by omega
        have z5 : IntKind.i64.wrap (d : Int) = (d : Int) := IntWalk.i64_in _ (by omega)
        have ownR := own.up hE
        have c1 := ownR.numAt (k := h) (by omega)
        have c2 := ownR.numAt (k := d) (by omega)
        have hc := fun W h' => Hcmp.out W (atL xs d) (atL xs h) h' (Hx.out d (by omega)) (Hx.out h (by omega))
        have hS' := hS.ext hE
        have hlq : g < wr.heap.size := ownR.base.2
        have Hd := Lib.hid hd
        clear hh hd
        by_cases hk : key (atL xs d) < key (atL xs h)
        · rw [cmpI_lt hk] at hc
          have Hc := Lib.hid hc
          have Hk := Lib.hid hk
          clear hc hk
          go_wp2_with fail
          go_region_held3 (fun W => Ext wr W ∧ ∀ b o, b < wr.heap.size → W.cell? ⟨b, o, none⟩ = wr.cell? ⟨b, o, none⟩) ((refine Ext.keep ?_; repeat with_reducible (first | assumption | exact Ext.refl _ | refine Ext.alloc ?_ _ | refine Ext.drew ?_ | refine Ext.drewN ?_ _ | refine Ext.setCell ?_ (by first | exact Nat.le_refl _ | omega | (simp; done) | (simp; omega)) _))) (first | (go_split_ands; go_at_fn gf; refine (Hc.out _ (hS'.ext (by with_reducible assumption))).mono ?_; rintro e w1 ⟨rfl, E1⟩; have q0 : Ext wr w1 := Ext.trans (by with_reducible assumption) E1))
          rename Ext wr w1 ∧ _ => hh
          clear hh c1 c2
          go_wp2
          go_roundw
          case rel => as_aux_lemma =>
            refine ⟨s, h, by omega, by omega, by omega, rfl, by go_num, ?_, hE.trans q0⟩
            show Find _ _ _ _ _ _ _
            have := Hk.out
            rw [Hd.out] at this
            exact hF.out.up_ Hp.out HM.out hih hhj this
          case measure => simp [intOf]; omega
        · have hr0 := cmpI_ge hk
          generalize cmpI (key (atL xs d)) (key (atL xs h)) = q at hc hr0
          have hrd : decide (q < 0) = false := decide_eq_false hr0
          have Hc := Lib.hid hc
          have Hk := Lib.hid hk
          clear hc hk hr0
          go_wp2_with fail
          go_region_held3 (fun W => Ext wr W ∧ ∀ b o, b < wr.heap.size → W.cell? ⟨b, o, none⟩ = wr.cell? ⟨b, o, none⟩) ((refine Ext.keep ?_; repeat with_reducible (first | assumption | exact Ext.refl _ | refine Ext.alloc ?_ _ | refine Ext.drew ?_ | refine Ext.drewN ?_ _ | refine Ext.setCell ?_ (by first | exact Nat.le_refl _ | omega | (simp; done) | (simp; omega)) _))) (first | (go_split_ands; go_at_fn gf; refine (Hc.out _ (hS'.ext (by with_reducible assumption))).mono ?_; rintro e w1 ⟨rfl, E1⟩; have q0 : Ext wr w1 := Ext.trans (by with_reducible assumption) E1))
          rename Ext wr w1 ∧ _ => hh
          clear hh c1 c2
          go_wp2
          go_roundw
          case rel => as_aux_lemma =>
            refine ⟨h + 1, r, by omega, by omega, hr, by go_num, rfl, ?_, hE.trans q0⟩
            show Find _ _ _ _ _ _ _
            have := Hk.out
            rw [Hd.out] at this
            exact hF.out.low_ Hp.out HM.out hih hhj (by omega)
          case measure => simp [intOf]; omega
      · obtain rfl : s = r := by omega
        obtain ⟨e, he⟩ : ∃ e, e = mid + m - s := ⟨_, rfl⟩
        have heI : (mid : Int) + m - s = (e : Int) := by omega
        have hsm : s ≤ m := by omega
        have hsmid : s ≤ mid := by omega
        have hse : mid ≤ e ∧ m ≤ e ∧ e ≤ b ∧ a ≤ s := by have := Hsr.out; omega
        have hpe : p = mid + m - 1 := by have := Hpp.out; omega
        have hHal : ∀ ys, Rotd xs ys s m e → Halves key xs ys a m b s mid e := fun ys h => by
          have hf := hF.out
          rw [hpe] at hf
          rw [he] at h ⊢
          exact halvesZ Hp.out HHm.out (by omega) Hsr.out hf h
        have Hal := Lib.hid hHal
        have He := Lib.hid he
        have ownR := own.up hE
        have hSR := hS.ext hE
        have hOR : Only g wc wr := (Only.refl g wc).ext hE
        clear hHal he hpe hlt
        go_upto_region 39 with fail
        go_cut [185] (fun t wz => t = .bool (decide (s < m ∧ m < e)) ∧ wz = wr)
        case first => as_aux_lemma =>
          by_cases h1 : s < m
          · have k1 : (s : Int) < m := by omega
            by_cases h2 : m < e
            · have k2 : (m : Int) < e := by omega
              go_wp2
              go_meet
              exact ⟨congrArg Value.bool (decide_eq_true (p := s < m ∧ m < e) ⟨h1, h2⟩).symm, rfl⟩
            · have k2 : ¬ (m : Int) < e := by omega
              go_wp2
              go_meet
              exact ⟨congrArg Value.bool (decide_eq_false (p := s < m ∧ m < e) (by omega)).symm, rfl⟩
          · have k1 : ¬ (s : Int) < m := by omega
            go_wp2
            go_meet
            exact ⟨congrArg Value.bool (decide_eq_false (p := s < m ∧ m < e) (by omega)).symm, rfl⟩
        case rest => as_aux_lemma =>
          rename World => wx
          obtain ⟨rfl, rfl⟩ := hcut
          generalize hT : decide (s < m ∧ m < e) = T
          go_upto_if 185 with fail
          go_cut [24] (fun t wz => t = .int .i64 (e : Int) ∧ ∃ ys, Hid (Halves key xs ys a m b s mid e) ∧ Own w0 wz 3 1 (some ⟨g, 0, none⟩) n c (ys.map iv) ∧ Only g wc wz)
          case first => as_aux_lemma =>
            rcases T with _ | _
            · have hT' := of_decide_eq_false hT
              go_wp2
              go_meet
              exact ⟨rfl, xs, Hal.out xs (Rotd.none (by omega) (by omega) (by omega)), ownR, hOR⟩
            · have hT' := of_decide_eq_true hT
              go_wp2_with (go_at_call 225; refine (zRotate ownR (a := s) (m := m) (b := e) (by omega) (by omega) (by omega) hn).mono ?_; rintro x w1 ⟨rfl, ys, hRo, own1, O1⟩)
              go_meet
              exact ⟨rfl, ys, Hal.out ys hRo, own1, hOR.trans O1⟩
          case rest => as_aux_lemma =>
            rename World => wv
            obtain ⟨rfl, ys, hH, own1, O1⟩ := hcut
            clear hT T
            have hS1 := hS.trans O1
            have hall1 := hH.out.mv.all (n := n) (N := N) (by omega) Hx.out
            go_upto_region 41 with fail
            go_cut [199] (fun t wz => t = .bool (decide (a < s ∧ s < mid)) ∧ wz = wv)
            case first => as_aux_lemma =>
              by_cases h1 : a < s
              · have k1 : (a : Int) < s := by omega
                by_cases h2 : s < mid
                · have k2 : (s : Int) < mid := by omega
                  go_wp2
                  go_meet
                  exact ⟨congrArg Value.bool (decide_eq_true (p := a < s ∧ s < mid) ⟨h1, h2⟩).symm, rfl⟩
                · have k2 : ¬ (s : Int) < mid := by omega
                  go_wp2
                  go_meet
                  exact ⟨congrArg Value.bool (decide_eq_false (p := a < s ∧ s < mid) (by omega)).symm, rfl⟩
              · have k1 : ¬ (a : Int) < s := by omega
                go_wp2
                go_meet
                exact ⟨congrArg Value.bool (decide_eq_false (p := a < s ∧ s < mid) (by omega)).symm, rfl⟩
            case rest => as_aux_lemma =>
              rename World => wx
              obtain ⟨rfl, rfl⟩ := hcut
              generalize hT : decide (a < s ∧ s < mid) = T
              go_upto_if 199 with fail
              go_cut [24] (fun t wz => t = .int .i64 (e : Int) ∧ ∃ zs, Hid (Srt key zs a mid ∧ Halves key xs zs a m b mid mid e) ∧ Own w0 wz 3 1 (some ⟨g, 0, none⟩) n c (zs.map iv) ∧ Only g wc wz)
              case first => as_aux_lemma =>
                rcases T with _ | _
                · have hT' := of_decide_eq_false hT
                  go_wp2
                  go_meet
                  exact ⟨rfl, ys, hH.out.left (hH.out.left_none hT'), own1, O1⟩
                · have hT' := of_decide_eq_true hT
                  go_wp2_with (go_at_call 223; refine (HK.out _ a s mid ys (by omega) own1 hS1 hall1 (hH.out.leftP (by omega) hT'.1 hT'.2) (by omega)).mono ?_; rintro x w2 ⟨rfl, zs, hD, own2, O2⟩)
                  go_meet
                  exact ⟨rfl, zs, hH.out.left hD, own2, O1.trans O2⟩
              case rest => as_aux_lemma =>
                rename World => wu
                obtain ⟨rfl, zs, hH2, own2, O2⟩ := hcut
                clear hT T
                have hS2 := hS.trans O2
                have hall2 := hH2.out.2.mv.all (n := n) (N := N) (by omega) Hx.out
                by_cases h1 : mid < e
                · have k1 : (mid : Int) < e := by omega
                  by_cases h2 : e < b
                  · have k2 : (e : Int) < b := by omega
                    go_wp2_with (go_at_call 223; refine (HK.out _ mid e b zs (by omega) own2 hS2 hall2 (hH2.out.2.rightP (by have := hxl; omega) h1 h2) (by omega)).mono ?_; rintro x w3 ⟨rfl, qs, hD, own3, O3⟩)
                    go_end0
                    exact ⟨rfl, qs, hH2.out.2.done hH2.out.1 hD, own3, O2.trans O3⟩
                  · have k2 : ¬ (e : Int) < b := by omega
                    go_wp2
                    go_end0
                    exact ⟨rfl, zs, hH2.out.2.done hH2.out.1 (hH2.out.2.right_none (by omega)), own2, O2⟩
                · have k1 : ¬ (mid : Int) < e := by omega
                  go_wp2
                  go_end0
                  exact ⟨rfl, zs, hH2.out.2.done hH2.out.1 (hH2.out.2.right_none (by omega)), own2, O2⟩

end Go.Proofs.YtgjhglehghjoeaaGreat
