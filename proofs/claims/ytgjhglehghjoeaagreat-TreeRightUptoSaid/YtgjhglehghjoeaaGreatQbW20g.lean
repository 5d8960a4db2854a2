/- Contracts of layer 14: is a record a stranger's? is a meaning right? -/
import Derived.Test.YtgjhglehghjoeaaGreatQbW20f
import Derived.Test.YtgjhglehghjoeaaGreatQbW18

namespace Go.Proofs.YtgjhglehghjoeaaGreat
open Go.RowKit Go.Shelf
set_option linter.unusedVariables false

theorem split_is_one {bs : List UInt8} {r : Rec} {p : Nat} (h : splitV bs = ([r], p, 0)) : headV bs = (r.n, r.w, r.a, bs.length, 0) := by
  have h0 : (scan (nextV bs) Rec.t bs.length 0).2.2 = 0 := by
    show (splitV bs).2.2 = 0
    rw [h]
  have hl := scan_linked bs bs.length 0 (by omega) (Nat.zero_le _) h0
  have h1 : (scan (nextV bs) Rec.t bs.length 0).1 = [r] := by
    show (splitV bs).1 = [r]
    rw [h]
  rw [h1] at hl
  have hn := splitV_each bs r (by rw [h]; simp)
  obtain ⟨q1, q2⟩ : r.f = 0 ∧ r.t = bs.length := by
    simp [Linked] at hl
    exact ⟨hl.1, hl.2⟩
  rw [q1] at hn
  have := (nextV_ok hn).1
  rw [List.drop_zero] at this
  rw [this, q2]
  simp

theorem strange_iff {fs : List FieldD} {t : ByteArray} : StrangeP fs t ↔ ∃ r p, splitV t.data.toList = ([r], p, 0) ∧ idxB (numP (r.n : Int)) fs = -1 := by
  unfold StrangeP
  constructor
  · rintro ⟨T, V, a, h, hf⟩
    refine ⟨_, _, splitV_one h, ?_⟩
    rcases idxB_cases (numP (T : Int)) fs with ⟨q, _⟩ | ⟨k, f, q1, q2, _⟩
    · exact q
    · have := (find_of_idx (p := numP (T : Int)) (l := fs)).2 k f q1 q2
      have hf' : fs.find? (numP (T : Int)) = none := hf
      rw [hf'] at this
      cases this
  · rintro ⟨r, p, h, hi⟩
    exact ⟨r.n, r.w, r.a, split_is_one h, (find_of_idx (p := numP (r.n : Int)) (l := fs)).1 hi⟩

set_option maxRecDepth 100000 in
set_option maxHeartbeats 2000000 in
theorem tStranger {s : ByteArray} {A : Option Addr} {n c : Nat} {l : List FieldD} {t : ByteArray} {w : World} (hf : FieldsAt w A n c l) (hn : n ≤ 1000000000000) (ht : t.data.toList.length ≤ 1000000000) :
    Calls Tryz.prog 128 #[.agg #[.string s, .slice A n c], .string t] w fun e w' => e = .returned (.bool (eqB (StrangeP l t))) ∧ Ext w w' := by
  obtain ⟨R0, hR0⟩ : ∃ R0, R0 = eqB (StrangeP l t) := ⟨_, rfl⟩
  rw [← hR0]
  have hcode : (splitV t.data.toList).2.2 ≤ 5 := scan_le' (nextV_onward t.data.toList) (nextV_le t.data.toList) t.data.toList.length 0 (by omega)
  rcases hsp : splitV t.data.toList with ⟨L, P, C⟩
  rw [hsp] at hcode
  simp only at hcode
  obtain ⟨A7, c7, W7, run7, X7, hb7⟩ := conv_text (w.alloc (.cells #[.string s, .slice A n c] 94)) t (by unfold maxLen; omega)
  have hspl := fun (W : World) (h : BytesAt W A7 t.data.toList.length c7 t.data.toList) => rSplitE h ht hsp
  have B7 := (BlkT.new w 94 #[.string s, .slice A n c] rfl).up X7
  have X0 : Ext w W7 := Ext.trans ((Ext.refl w).alloc _) X7
  have Hspl := Lib.hid hspl
  have Hb7 := Lib.hid hb7
  have Hsp := Lib.hid hsp
  have Hf := Lib.hid hf
  clear hspl hb7 hsp hf
  by_cases hC : C = 0
  · subst hC
    by_cases h1 : L.length = 1
    · obtain ⟨r, rfl⟩ := List.length_eq_one_iff.1 h1
      have hst : R0 = decide (idxB (numP (r.n : Int)) l = -1) := by
        rw [hR0]
        refine eqB_of ?_
        rw [decide_eq_true_iff, strange_iff]
        constructor
        · rintro ⟨r', p', h, hi⟩
          rw [Hsp.out] at h
          cases h
          exact hi
        · intro h
          exact ⟨r, P, Hsp.out, h⟩
      have hbd := (idxB_bd (numP (r.n : Int)) l).1
      clear h1
      by_cases hi : idxB (numP (r.n : Int)) l = -1
      · rw [decide_eq_true hi] at hst
        have hby := fun (W : World) (h : Ext w W) => sByNumber (s := s) (x := (r.n : Int)) (Hf.out.up h) hn hi
        rw [show max (-1 : Int) 0 = 0 by decide, show decide ((0 : Int) ≤ -1) = false by decide] at hby
        have HR0 := Lib.hid hst
        have Hby := Lib.hid hby
        clear hi hst hR0 hby hbd
        go_enter Tryz.func128, Tryz.ntmps128
        go_wp2_with (go_at_call 175; refine (Hspl.out _ Hb7.out).mono ?_; rintro e w2 ⟨A2, c2, rfl, own2⟩)
        have E2 : Ext W7 w2 := Ext.trans (by repeat with_reducible (first | exact Ext.refl _ | refine Ext.alloc ?_ _ | refine Ext.drew ?_ | refine Ext.drewN ?_ _ | refine Ext.setCell ?_ (by first | exact Nat.le_refl _ | omega | (simp; done) | (simp; omega)) _)) own2.ext
        obtain ⟨b5, off5, r', hA, hrk, hb5, e0, e1, e2, e3, e4⟩ := own2.reads.rec' (show 0 < 1 by omega)
        simp only [List.getElem?_cons_zero, Option.some.injEq] at hrk
        subst hrk
        subst hA
        have m0 : w2.cell? ⟨w.heap.size, 0, none⟩ = some (.string s) := E2.of_cell (B7.cell 0)
        have m1 : w2.cell? ⟨w.heap.size, 1, none⟩ = some (.slice A n c) := E2.of_cell (B7.cell 1)
        have ml := Nat.lt_of_lt_of_le B7.lt E2.size
        clear e1 e2 e3 e4
        simp only [Nat.zero_mul, Nat.add_zero] at e0
        go_wp2
        have Xw : Ext w2 w2 := Ext.refl w2
        go_region_held3 (fun W => Ext w2 W ∧ ∀ b o, b < w2.heap.size → W.cell? ⟨b, o, none⟩ = w2.cell? ⟨b, o, none⟩) ((refine Ext.keep ?_; repeat with_reducible (first | assumption | exact Ext.refl _ | refine Ext.alloc ?_ _ | refine Ext.drew ?_ | refine Ext.drewN ?_ _ | refine Ext.setCell ?_ (by first | exact Nat.le_refl _ | omega | (simp; done) | (simp; omega)) _))) (first
          | (go_split_ands; go_at_call 126; refine (Hby.out _ ((X0.trans E2).trans (by with_reducible assumption))).mono ?_; rintro e w5 ⟨rfl, E5⟩; have q5 : Ext w2 w5 := Ext.trans (by with_reducible assumption) E5))
        all_goals
          go_wp2
          go_ret
          exact ⟨ret_bool HR0.out.symm, (X0.trans E2).trans (by assumption)⟩
      · rw [decide_eq_false hi] at hst
        obtain ⟨k, hk⟩ : ∃ k : Nat, idxB (numP (r.n : Int)) l = (k : Int) := Int.eq_ofNat_of_zero_le (by omega)
        have hby := fun (W : World) (h : Ext w W) => sByNumber (s := s) (x := (r.n : Int)) (Hf.out.up h) hn hk
        rw [show max (k : Int) 0 = k by omega, show decide ((0 : Int) ≤ k) = true by rw [decide_eq_true_iff]; omega] at hby
        have HR0 := Lib.hid hst
        have Hby := Lib.hid hby
        clear hi hst hR0 hby hbd hk
        go_enter Tryz.func128, Tryz.ntmps128
        go_wp2_with (go_at_call 175; refine (Hspl.out _ Hb7.out).mono ?_; rintro e w2 ⟨A2, c2, rfl, own2⟩)
        have E2 : Ext W7 w2 := Ext.trans (by repeat with_reducible (first | exact Ext.refl _ | refine Ext.alloc ?_ _ | refine Ext.drew ?_ | refine Ext.drewN ?_ _ | refine Ext.setCell ?_ (by first | exact Nat.le_refl _ | omega | (simp; done) | (simp; omega)) _)) own2.ext
        obtain ⟨b5, off5, r', hA, hrk, hb5, e0, e1, e2, e3, e4⟩ := own2.reads.rec' (show 0 < 1 by omega)
        simp only [List.getElem?_cons_zero, Option.some.injEq] at hrk
        subst hrk
        subst hA
        have m0 : w2.cell? ⟨w.heap.size, 0, none⟩ = some (.string s) := E2.of_cell (B7.cell 0)
        have m1 : w2.cell? ⟨w.heap.size, 1, none⟩ = some (.slice A n c) := E2.of_cell (B7.cell 1)
        have ml := Nat.lt_of_lt_of_le B7.lt E2.size
        clear e1 e2 e3 e4
        simp only [Nat.zero_mul, Nat.add_zero] at e0
        go_wp2
        have Xw : Ext w2 w2 := Ext.refl w2
        go_region_held3 (fun W => Ext w2 W ∧ ∀ b o, b < w2.heap.size → W.cell? ⟨b, o, none⟩ = w2.cell? ⟨b, o, none⟩) ((refine Ext.keep ?_; repeat with_reducible (first | assumption | exact Ext.refl _ | refine Ext.alloc ?_ _ | refine Ext.drew ?_ | refine Ext.drewN ?_ _ | refine Ext.setCell ?_ (by first | exact Nat.le_refl _ | omega | (simp; done) | (simp; omega)) _))) (first
          | (go_split_ands; go_at_call 126; refine (Hby.out _ ((X0.trans E2).trans (by with_reducible assumption))).mono ?_; rintro e w5 ⟨rfl, E5⟩; have q5 : Ext w2 w5 := Ext.trans (by with_reducible assumption) E5))
        all_goals
          go_wp2
          go_ret
          exact ⟨ret_bool HR0.out.symm, (X0.trans E2).trans (by assumption)⟩
    · have hst : R0 = false := by
        rw [hR0]
        refine eqB_no ?_
        rw [strange_iff]
        rintro ⟨r, p, h, _⟩
        rw [Hsp.out] at h
        cases h
        exact h1 rfl
      have q1 : ((L.length : Int) != 1) = true := by rw [bne_iff_ne]; omega
      subst hst
      clear hR0 h1
      go_enter Tryz.func128, Tryz.ntmps128
      go_wp2_with (go_at_call 175; refine (Hspl.out _ Hb7.out).mono ?_; rintro e w2 ⟨A2, c2, rfl, own2⟩)
      all_goals
        go_ret
        exact ⟨rfl, X0.trans (Ext.trans own2.ext (by repeat with_reducible (first | exact Ext.refl _ | refine Ext.alloc ?_ _ | refine Ext.drew ?_ | refine Ext.drewN ?_ _ | refine Ext.setCell ?_ (by first | exact Nat.le_refl _ | omega | (simp; done) | (simp; omega)) _)))⟩
  · have hst : R0 = false := by
      rw [hR0]
      refine eqB_no ?_
      rw [strange_iff]
      rintro ⟨r, p, h, _⟩
      rw [Hsp.out] at h
      cases h
      exact hC rfl
    have hC0 : ¬ ((C : Int) = 0) := by omega
    have hCi : (C : Int) < 256 := by omega
    subst hst
    clear hR0
    go_enter Tryz.func128, Tryz.ntmps128
    go_wp2_with (go_at_call 175; refine (Hspl.out _ Hb7.out).mono ?_; rintro e w2 ⟨A2, c2, rfl, own2⟩)
    all_goals
      go_ret
      exact ⟨rfl, X0.trans (Ext.trans own2.ext (by repeat with_reducible (first | exact Ext.refl _ | refine Ext.alloc ?_ _ | refine Ext.drew ?_ | refine Ext.drewN ?_ _ | refine Ext.setCell ?_ (by first | exact Nat.le_refl _ | omega | (simp; done) | (simp; omega)) _)))⟩

theorem tRight1 {A : Option Addr} {n c m : Nat} {S : List MsgV} {M : MsgV} {t : ByteArray} {w : World} {b1 b2 : Nat} (hs : SchemaAt w A n c S) (hM : S[m]? = some M) (hn : M.n ≤ 1000000000000) (ht : t.data.toList.length ≤ 1000000000) (c1 : w.cell? ⟨b1, 0, none⟩ = some (.slice A n c)) (c2 : w.cell? ⟨b2, 0, none⟩ = some (.int .i64 (m : Int))) :
    Calls Tryz.prog 127 #[.string t, .pointer (some ⟨b1, 0, none⟩), .pointer (some ⟨b2, 0, none⟩)] w fun e w' => e = .returned (.bool (!eqB (StrangeP M.d.fields t))) ∧ Ext w w' := by
  have hSl := hs.length
  have hml : m < n := by
    have := (List.getElem?_eq_some_iff.1 hM).1
    omega
  obtain ⟨b, off, M', hSA, hM', hf, hnm, hb, s0, s1⟩ := hs.msg (k := m) hml
  rw [hM] at hM'
  cases hM'
  subst hSA
  have hst := fun W (h : Ext w W) => tStranger (s := M.d.name) (hf.up h) hn ht
  have l1 := World.block_lt_of_cell? w _ c1
  have l2 := World.block_lt_of_cell? w _ c2
  simp only at l1 l2
  have mI : (m : Int) < n := by omega
  have hcap := hs.1.cap
  have hmax := hs.1.max
  unfold maxLen at hmax
  generalize eqB (StrangeP M.d.fields t) = R at *
  have Hst := Lib.hid hst
  clear hst hs hf
  go_enter Tryz.func127, Tryz.ntmps127
  go_wp2_with (go_at_call 128; refine (Hst.out _ (by repeat with_reducible (first | exact Ext.refl _ | refine Ext.alloc ?_ _ | refine Ext.drew ?_ | refine Ext.drewN ?_ _ | refine Ext.setCell ?_ (by first | exact Nat.le_refl _ | omega | (simp; done) | (simp; omega)) _))).mono ?_; rintro e w1 ⟨rfl, E1⟩)
  all_goals
    go_ret
    exact ⟨ret_bool (by simp), Ext.trans (by repeat with_reducible (first | exact Ext.refl _ | refine Ext.alloc ?_ _ | refine Ext.drew ?_ | refine Ext.drewN ?_ _ | refine Ext.setCell ?_ (by first | exact Nat.le_refl _ | omega | (simp; done) | (simp; omega)) _)) E1⟩

end Go.Proofs.YtgjhglehghjoeaaGreat
