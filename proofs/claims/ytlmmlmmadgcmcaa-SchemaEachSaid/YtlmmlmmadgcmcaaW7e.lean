/- Contracts of layer 7: a right schema; the reference's check. -/
import Derived.Test.YtlmmlmmadgcmcaaW7d
import Derived.Test.YtlmmlmmadgcmcaaW6d
import Derived.Deep.QuietTactic
namespace Go.Proofs.Ytlmmlmmadgcmcaa
open Go.RowKit
set_option linter.unusedVariables false

theorem sRight {A : Option Addr} {n c : Nat} {S : List MsgV} {w : World} (hs : SchemaAt w A n c S) :
    Calls Try.prog 19 #[.slice A n c] w fun e w' => e = .returned (.bool (rightS (S.map MsgV.d))) ∧ Ext w w' := by
  rcases hv : checkV (S.map MsgV.d) with ⟨a, b, W⟩
  have hr : rightS (S.map MsgV.d) = decide (W = 0) := by unfold rightS; rw [hv]
  rw [hr]
  have Hv := Lib.hid hv
  clear hv hr
  by_cases h0 : W = 0
  · subst h0
    go_enter Try.func19, Try.ntmps19
    go_wp2_with (go_at_call 17; refine (sCheck hs Hv.out).mono ?_; rintro e w1 ⟨rfl, E1⟩; rw [codeC_0])
    go_ret
    exact ⟨rfl, (by repeat with_reducible (first | exact E1 | exact Ext.refl _ | refine Ext.alloc ?_ _ | refine Ext.drew ?_ | refine Ext.drewN ?_ _ | refine Ext.setCell ?_ (by first | exact Nat.le_refl _ | omega | (simp; done) | (simp; omega)) _))⟩
  · have hd : decide (W = 0) = false := decide_eq_false h0
    have hc := codeC_pos h0
    have Hc := Lib.hid hc
    rw [hd]
    clear h0 hc hd
    go_enter Try.func19, Try.ntmps19
    go_wp2_with (go_at_call 17; refine (sCheck hs Hv.out).mono ?_; rintro e w1 ⟨rfl, E1⟩; rw [Hc.out])
    go_ret
    exact ⟨rfl, (by repeat with_reducible (first | exact E1 | exact Ext.refl _ | refine Ext.alloc ?_ _ | refine Ext.drew ?_ | refine Ext.drewN ?_ _ | refine Ext.setCell ?_ (by first | exact Nat.le_refl _ | omega | (simp; done) | (simp; omega)) _))⟩

theorem any_snoc {α : Type} {p : α → Bool} {l : List α} {k : Nat} {x : α} (h : l[k]? = some x) : (l.take (k + 1)).any p = ((l.take k).any p || p x) := by
  rw [take_snoc l k x h, List.any_append]
  simp

theorem ofB_no {n : Nat} {f : FieldD} (h8 : ofB n f = false) : (((f.kind : Int) == 17) = true ∧ (f.kind != 17) = false ∧ decide (f.of_ < 0) = false ∧ decide ((n : Int) ≤ f.of_) = false) ∨ (((f.kind : Int) == 17) = false ∧ (f.kind != 17) = true ∧ (f.of_ != 0) = false) := by
  unfold ofB at h8
  rcases hk : ((f.kind : Int) == 17) with _ | _
  · have : (f.kind != 17) = true := by simp only [bne, hk]; rfl
    rw [hk, this] at h8
    simp only [Bool.false_and, Bool.true_and, Bool.false_or] at h8
    exact .inr ⟨rfl, this, h8⟩
  · have : (f.kind != 17) = false := by simp only [bne, hk]; rfl
    rw [hk, this] at h8
    simp only [Bool.false_and, Bool.true_and, Bool.or_false, Bool.or_eq_false_iff] at h8
    exact .inl ⟨rfl, this, h8.1, h8.2⟩

theorem ofB_yes {n : Nat} {f : FieldD} (h8 : ofB n f = true) : (((f.kind : Int) == 17) = true ∧ (decide (f.of_ < 0) = true ∨ decide (f.of_ < 0) = false ∧ decide ((n : Int) ≤ f.of_) = true)) ∨ (((f.kind : Int) == 17) = false ∧ (f.kind != 17) = true ∧ (f.of_ != 0) = true) := by
  unfold ofB at h8
  rcases hk : ((f.kind : Int) == 17) with _ | _
  · have : (f.kind != 17) = true := by simp only [bne, hk]; rfl
    rw [hk, this] at h8
    simp only [Bool.false_and, Bool.true_and, Bool.false_or] at h8
    exact .inr ⟨rfl, this, h8⟩
  · have : (f.kind != 17) = false := by simp only [bne, hk]; rfl
    rw [hk, this] at h8
    simp only [Bool.false_and, Bool.true_and, Bool.or_false] at h8
    refine .inl ⟨rfl, ?_⟩
    rcases h9 : decide (f.of_ < 0) with _ | _
    · rw [h9, Bool.false_or] at h8; exact .inr ⟨rfl, h8⟩
    · exact .inl rfl

set_option maxRecDepth 100000 in
set_option maxHeartbeats 2000000 in
theorem sFaultR {A : Option Addr} {n c i k : Nat} {S : List MsgV} {m : MsgV} {f : FieldD} {w : World} (hs : SchemaAt w A n c S) (hn : n ≤ 100) (hm : S[i]? = some m) (hf : m.d.fields[k]? = some f) :
    Calls Try.prog 60 #[.slice A n c, .int .i64 i, .int .i64 k] w fun e w' => e = .returned (.int .i64 (faultV n (m.d.fields.take k) f : Nat)) ∧ Ext w w' := by
  have hmax := Reads.max hs.1
  have hcap := Reads.cap hs.1
  unfold maxLen at hmax
  have hlen := hs.length
  have hi : i < n := by have := (List.getElem?_eq_some_iff.1 hm).1; omega
  obtain ⟨bs, off, m', rfl, hm', hmf, hms, hb, c0, c1⟩ := hs.msg hi
  rw [hm] at hm'
  cases hm'
  obtain ⟨⟨mn, mfs⟩, mA, mnn, mc⟩ := m
  simp only at c0 c1 hmf hms hf
  have hml := hmf.length
  have hmm2 := Reads.cap hmf.1
  have hmm3 := Reads.max hmf.1
  unfold maxLen at hmm3
  have hk : k < mnn := by have := (List.getElem?_eq_some_iff.1 hf).1; omega
  obtain ⟨bf, of', f', rfl, hf', hfo, hbf, d0, d1, d2, d3, d4, d5⟩ := hmf.field hk
  rw [hf] at hf'
  cases hf'
  obtain ⟨fn, fx, fk, fr, fp, fo⟩ := f
  simp only at d0 d1 d2 d3 d4 d5
  have hkI : (k : Int) < mnn := by omega
  have hiI : (i : Int) < n := by omega
  have hsz := hfo.name
  simp only at hsz
  obtain ⟨W, hW⟩ : ∃ W, faultV n (mfs.take k) ⟨fn, fx, fk, fr, fp, fo⟩ = W := ⟨_, rfl⟩
  rw [hW]
  have HW := Lib.hid hW
  have Hmf := Lib.hid hmf
  have Hm := Lib.hid hm
  have Hf := Lib.hid hf
  have Hml := Lib.hid hml
  clear hW hm hf hml hlen hfo
  go_enter Try.func60, Try.ntmps60
  go_wp2
  have X0 : Ext w (w.alloc (.cells #[.string fn, .int .i64 fx, .int .i64 fk, .bool fr, .bool fp, .int .i64 fo] 39)) := (by repeat with_reducible (first | exact Ext.refl _ | refine Ext.alloc ?_ _ | refine Ext.drew ?_ | refine Ext.drewN ?_ _ | refine Ext.setCell ?_ (by first | exact Nat.le_refl _ | omega | (simp; done) | (simp; omega)) _))
  have B0 := BlkT.new w 39 #[.string fn, .int .i64 fx, .int .i64 fk, .bool fr, .bool fp, .int .i64 fo] rfl
  generalize w.alloc (.cells #[.string fn, .int .i64 fx, .int .i64 fk, .bool fr, .bool fp, .int .i64 fo] 39) = wx at *
  go_loopw [8, 9, 10] (fun a b j wr => ∃ q : Nat, q ≤ k ∧ j = .int .i64 q ∧ a = .bool ((mfs.take q).any fun g => decide (g.name = fn)) ∧ b = .bool ((mfs.take q).any fun g => decide (g.number = fx)) ∧ Ext wx wr) (fun _ _ j _ => k - (intOf j).toNat)
  case atStart => exact ⟨0, Nat.zero_le _, rfl, by simp, by simp, Ext.refl _⟩
  case round =>
    obtain ⟨q, hq, rfl, rfl, rfl, hE⟩ := hrel
    have hEw := X0.trans hE
    have Br := B0.up hE
    by_cases hlt : q < k
    · have hlt2 : (q : Int) < k := by omega
      have hqn : (q : Int) < mnn := by omega
      obtain ⟨bg, og, g, hA, hg, _, hbg, z0, z1, z2, z3, z4, z5⟩ := (Hmf.out.up hEw).field (k := q) (by omega)
      cases hA
      have ha1 := any_snoc (p := fun g => decide (g.name = fn)) hg
      have ha2 := any_snoc (p := fun g => decide (g.number = fx)) hg
      have x1 := hEw.of_cell c1
      have x0 : wr.cell? ⟨w.heap.size, 0, none⟩ = some (.string fn) := Br.cell 0
      have x2 : wr.cell? ⟨w.heap.size, 1, none⟩ = some (.int .i64 fx) := Br.cell 1
      have xl := Br.lt
      have hbr : bs < wr.heap.size := Nat.lt_of_lt_of_le hb hEw.size
      obtain ⟨gn, gx, gk, gr, gp, go⟩ := g
      simp only at z0 z1 ha1 ha2
      have Ha1 := Lib.hid ha1
      have Ha2 := Lib.hid ha2
      clear ha1 ha2 hg z2 z3 z4 z5
      have hsq : ∀ t : Bool, (t || decide (gn = fn)) = (t || (gn.toList == fn.toList)) := fun t => by rw [str_eq]
      have hnq : ∀ t : Bool, (t || decide (gx = fx)) = (t || (gx == fx)) := fun t => by rw [show (gx == fx) = decide (gx = fx) from rfl]
      have Hsq := Lib.hid hsq
      have Hnq := Lib.hid hnq
      clear hsq hnq
      rcases ha : (mfs.take q).any fun g => decide (g.name = fn) with _ | _
      all_goals rcases hb2 : (mfs.take q).any fun g => decide (g.number = fx) with _ | _
      all_goals
        have Ha := Lib.hid ha
        have Hb2 := Lib.hid hb2
        clear ha hb2
        go_wp2
        go_quiet (fail)
        go_wp2
        go_quiet (fail)
        go_wp2
        go_roundw
        case rel => exact ⟨q + 1, by omega, by go_num, congrArg Value.bool (by rw [Ha1.out, Hsq.out, Ha.out]; simp), congrArg Value.bool (by rw [Ha2.out, Hnq.out, Hb2.out]; simp), (by repeat with_reducible (first | exact hE | exact Ext.refl _ | refine Ext.alloc ?_ _ | refine Ext.drew ?_ | refine Ext.drewN ?_ _ | refine Ext.setCell ?_ (by first | exact Nat.le_refl _ | omega | (simp; done) | (simp; omega)) _))⟩
        case measure => simp [intOf]; omega
    · have hqk : q = k := by omega
      subst hqk
      have x0 : wr.cell? ⟨w.heap.size, 0, none⟩ = some (.string fn) := Br.cell 0
      have x1 : wr.cell? ⟨w.heap.size, 1, none⟩ = some (.int .i64 fx) := Br.cell 1
      have x2 : wr.cell? ⟨w.heap.size, 2, none⟩ = some (.int .i64 fk) := Br.cell 2
      have x3 : wr.cell? ⟨w.heap.size, 3, none⟩ = some (.bool fr) := Br.cell 3
      have x4 : wr.cell? ⟨w.heap.size, 4, none⟩ = some (.bool fp) := Br.cell 4
      have x5 : wr.cell? ⟨w.heap.size, 5, none⟩ = some (.int .i64 fo) := Br.cell 5
      have xl := Br.lt
      rcases h1 : nameB fn with _ | _
      · obtain rfl : W = 5 := by rw [← HW.out]; simp [faultV, h1]
        have H1 := Lib.hid h1
        clear h1
        go_wp2_with (go_at_call 59; refine (sNameR hsz _).mono ?_; rintro e w1 ⟨rfl, rfl⟩; rw [H1.out])
        go_ret
        exact ⟨rfl, hEw⟩
      rcases h2 : (mfs.take q).any (fun g => decide (g.name = fn)) with _ | _
      · rcases h3 : usableB fx with _ | _
        · obtain rfl : W = 7 := by rw [← HW.out]; simp [faultV, h1, h2, h3]
          have H1 := Lib.hid h1
          have hu : fx < 1 ∨ 1 ≤ fx ∧ 536870911 < fx ∨ 1 ≤ fx ∧ fx ≤ 536870911 ∧ 19000 ≤ fx ∧ fx < 20000 := by unfold usableB at h3; simp at h3; omega
          clear h1 h2 h3
          rcases hu with hu | ⟨hu1, hu2⟩ | ⟨hu1, hu2, hu3, hu4⟩
          all_goals
            go_wp2_with (go_at_call 59; refine (sNameR hsz _).mono ?_; rintro e w1 ⟨rfl, rfl⟩; rw [H1.out])
            go_ret
            exact ⟨rfl, hEw⟩
        · have hu : 1 ≤ fx ∧ fx ≤ 536870911 ∧ (fx < 19000 ∨ 19000 ≤ fx ∧ 20000 ≤ fx) := by unfold usableB at h3; simp at h3; omega
          rcases h4 : (mfs.take q).any (fun g => decide (g.number = fx)) with _ | _
          · have hv : W = if kindB fk = false then 9 else if (fp && !(fr && numberB fk)) = true then 10 else if ofB n ⟨fn, fx, fk, fr, fp, fo⟩ = true then 11 else 0 := by rw [← HW.out]; simp [faultV, h1, h2, h3, h4]
            have H1 := Lib.hid h1
            have HV := Lib.hid hv
            clear h1 h2 h3 h4 hv
            obtain ⟨hu1, hu2, hu3⟩ := hu
            have hu4 : fx < 19000 ∨ 20000 ≤ fx := by omega
            clear hu3
            rcases h5 : kindB fk with _ | _
            · obtain rfl : W = 9 := by rw [HV.out, h5]; rfl
              have H5 := Lib.hid h5
              have H6 : Hid (numberB fk = numberB fk) := rfl
              clear h5
              rcases hu4 with hu4 | hu4
              all_goals
                go_wp2_with (first | (go_at_call 59; refine (sNameR hsz _).mono ?_; rintro e w1 ⟨rfl, rfl⟩; rw [H1.out]) | (go_at_call 71; refine (kRightR _ _).mono ?_; rintro e w1 ⟨rfl, rfl⟩; rw [H5.out]) | (go_at_call 32; refine (kNumberR _ _).mono ?_; rintro e w1 ⟨rfl, rfl⟩; rw [H6.out]))
                go_ret
                exact ⟨rfl, hEw⟩
            · have H5 := Lib.hid h5
              have hv2 : W = if (fp && !(fr && numberB fk)) = true then 10 else if ofB n ⟨fn, fx, fk, fr, fp, fo⟩ = true then 11 else 0 := by rw [HV.out, h5]; rfl
              have HV2 := Lib.hid hv2
              clear h5 hv2
              rcases hu4 with hu4 | hu4
              all_goals
                go_upto_region 18 with (first | (go_at_call 59; refine (sNameR hsz _).mono ?_; rintro e w1 ⟨rfl, rfl⟩; rw [H1.out]) | (go_at_call 71; refine (kRightR _ _).mono ?_; rintro e w1 ⟨rfl, rfl⟩; rw [H5.out]))
                go_cut [93] (fun t wz => t = .bool (fp && !(fr && numberB fk)) ∧ wr = wz)
                case first =>
                  rcases fp with _ | _
                  · go_wp2
                    go_meet
                    exact ⟨rfl, rfl⟩
                  · rcases fr with _ | _
                    · go_wp2
                      go_meet
                      exact ⟨rfl, rfl⟩
                    · go_wp2_with (go_at_call 32; refine (kNumberR _ _).mono ?_; rintro e w1 ⟨rfl, rfl⟩)
                      go_meet
                      exact ⟨by simp, rfl⟩
                case rest =>
                  obtain ⟨rfl, rfl⟩ := hcut
                  rcases h7 : (fp && !(fr && numberB fk)) with _ | _
                  · rcases h8 : ofB n ⟨fn, fx, fk, fr, fp, fo⟩ with _ | _
                    · obtain rfl : W = 0 := by rw [HV2.out, h7, h8]; rfl
                      have ways := ofB_no h8
                      simp only at ways
                      clear h7 h8
                      rcases ways with ⟨k1, k2, k3, k4⟩ | ⟨k1, k2, k3⟩
                      all_goals
                        go_wp2
                        go_ret
                        exact ⟨rfl, hEw⟩
                    · obtain rfl : W = 11 := by rw [HV2.out, h7, h8]; rfl
                      have ways := ofB_yes h8
                      simp only at ways
                      clear h7 h8
                      rcases ways with ⟨k1, k3 | ⟨k3, k4⟩⟩ | ⟨k1, k2, k3⟩
                      all_goals
                        go_wp2
                        go_ret
                        exact ⟨rfl, hEw⟩
                  · obtain rfl : W = 10 := by rw [HV2.out, h7]; rfl
                    clear h7
                    go_wp2
                    go_ret
                    exact ⟨rfl, hEw⟩
          · obtain rfl : W = 8 := by rw [← HW.out]; simp [faultV, h1, h2, h3, h4]
            have H1 := Lib.hid h1
            clear h1 h2 h3 h4
            obtain ⟨hu1, hu2, hu3 | ⟨hu3, hu4⟩⟩ := hu
            all_goals
              go_wp2_with (go_at_call 59; refine (sNameR hsz _).mono ?_; rintro e w1 ⟨rfl, rfl⟩; rw [H1.out])
              go_ret
              exact ⟨rfl, hEw⟩
      · obtain rfl : W = 6 := by rw [← HW.out]; simp [faultV, h1, h2]
        have H1 := Lib.hid h1
        clear h1 h2
        go_wp2_with (go_at_call 59; refine (sNameR hsz _).mono ?_; rintro e w1 ⟨rfl, rfl⟩; rw [H1.out])
        go_ret
        exact ⟨rfl, hEw⟩

end Go.Proofs.Ytlmmlmmadgcmcaa
