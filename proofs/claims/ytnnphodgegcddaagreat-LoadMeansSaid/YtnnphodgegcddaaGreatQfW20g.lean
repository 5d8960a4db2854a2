/- Contracts of layer 14: is a record a stranger's? is a meaning right? -/
import Derived.Test.YtnnphodgegcddaaGreatQfW20f
import Derived.Test.YtnnphodgegcddaaGreatQfW18

namespace Go.Proofs.YtnnphodgegcddaaGreat
open Go.RowKit Go.Shelf
set_option linter.unusedVariables false

theorem split_is_one {bs : List UInt8} {r : Rec} {p : Nat} (h : splitV bs = ([r], p, 0)) : headV bs = (r.n, r.w, r.a, bs.length, 0) := by
 have h0 : (scan (nextV bs) Rec.t bs.length 0).2.2 = 0 := by
  show (splitV bs).2.2 = 0
  rw [h]
 have hl := scan_linked bs bs.length 0 (by omega) (Nat.zero_le _) h0
 have h1 : (scan (nextV bs) Rec.t bs.length 0).1 = [r] := by
  show (splitV bs).1 = [r]
  rw [h]
 rw [h1] at hl
 have hn := splitV_each bs r (by rw [h]; simp)
 obtain ⟨q1, q2⟩ : r.f = 0 ∧ r.t = bs.length := by
  simp [Linked] at hl
  exact ⟨hl.1, hl.2⟩
 rw [q1] at hn
 have := (nextV_ok hn).1
 rw [List.drop_zero] at this
 rw [this, q2]
 simp

theorem strange_iff {fs : List FieldD} {t : ByteArray} : StrangeP fs t ↔ ∃ r p, splitV t.data.toList = ([r], p, 0) ∧ idxB (numP (r.n : Int)) fs = -1 := by
 unfold StrangeP
 constructor
 · rintro ⟨T, V, a, h, hf⟩
   refine ⟨_, _, splitV_one h, ?_⟩
   rcases idxB_cases (numP (T : Int)) fs with ⟨q, _⟩ | ⟨k, f, q1, q2, _⟩
   · exact q
   · have := (find_of_idx (p := numP (T : Int)) (l := fs)).2 k f q1 q2
     have hf' : fs.find? (numP (T : Int)) = none := hf
     rw [hf'] at this
     cases this
 · rintro ⟨r, p, h, hi⟩
   exact ⟨r.n, r.w, r.a, split_is_one h, (find_of_idx (p := numP (r.n : Int)) (l := fs)).1 hi⟩

set_option maxRecDepth 100000 in
set_option maxHeartbeats 2000000 in
theorem tStranger {s : ByteArray} {A : Option Addr} {n c : Nat} {l : List FieldD} {t : ByteArray} {w : World} (hf : FieldsAt w A n c l) (hn : n ≤ 1000000000000) (ht : t.data.toList.length ≤ 1000000000) :
  Calls Tryz.prog 166 #[.agg #[.string s, .slice A n c], .string t] w fun e w' => e = .returned (.bool (eqB (StrangeP l t))) ∧ Ext w w' := by
 obtain ⟨R0, hR0⟩ : ∃ R0, R0 = eqB (StrangeP l t) := ⟨_, rfl⟩
 rw [← hR0]
 have hcode : (splitV t.data.toList).2.2 ≤ 5 := scan_le' (nextV_onward t.data.toList) (nextV_le t.data.toList) t.data.toList.length 0 (by omega)
 rcases hsp : splitV t.data.toList with ⟨L, P, C⟩
 rw [hsp] at hcode
 simp only at hcode
 obtain ⟨A7, c7, W7, run7, X7, hb7⟩ := conv_text (w.alloc (.cells #[.string s, .slice A n c] 82)) t (by unfold maxLen; omega)
 have hspl := fun (W : World) (h : BytesAt W A7 t.data.toList.length c7 t.data.toList) => rSplitE h ht hsp
 have B7 := (BlkT.new w 82 #[.string s, .slice A n c] rfl).up X7
 have X0 : Ext w W7 := Ext.trans ((Ext.refl w).alloc _) X7
 have Hspl := Lib.hid hspl
 have Hb7 := Lib.hid hb7
 have Hsp := Lib.hid hsp
 have Hf := Lib.hid hf
 clear hspl hb7 hsp hf
 by_cases hC : C = 0
 · subst hC
   by_cases h1 : L.length = 1
   · obtain ⟨r, rfl⟩ := List.length_eq_one_iff.1 h1
     have hst : R0 = decide (idxB (numP (r.n : Int)) l = -1) := by
      rw [hR0]
      refine eqB_of ?_
      rw [decide_eq_true_iff, strange_iff]
      constructor
      · rintro ⟨r', p', h, hi⟩
        rw [Hsp.out] at h
        cases h
        exact hi
      · intro h
        exact ⟨r, P, Hsp.out, h⟩
     have hbd := (idxB_bd (numP (r.n : Int)) l).1
     clear h1
     by_cases hi : idxB (numP (r.n : Int)) l = -1
     · rw [decide_eq_true hi] at hst
       have hby := fun (W : World) (h : Ext w W) => sByNumber (s := s) (x := (r.n : Int)) (Hf.out.up h) hn hi
       rw [show max (-1 : Int) 0 = 0 by decide, show decide ((0 : Int) ≤ -1) = false by decide] at hby
       have HR0 := Lib.hid hst
       have Hby := Lib.hid hby
       clear hi hst hR0 hby hbd
       go_enter Tryz.func166, Tryz.ntmps166
       go_wp2_with (go_at_call 198; refine (Hspl.out _ Hb7.out).mono ?_; rintro e w2 ⟨A2, c2, rfl, own2⟩)
       have E2 : Ext W7 w2 := Ext.trans (by repeat with_reducible (first | exact Ext.refl _ | refine Ext.alloc ?_ _ | refine Ext.drew ?_ | refine Ext.drewN ?_ _ | refine Ext.setCell ?_ (by first | omega | (simp <;> omega)) _)) own2.ext
       obtain ⟨b5, off5, r', hA, hrk, hb5, e0, e1, e2, e3, e4⟩ := own2.reads.rec' (show 0 < 1 by omega)
       simp only [List.getElem?_cons_zero, Option.some.injEq] at hrk
       subst hrk
       subst hA
       have m0 : w2.cell? ⟨w.heap.size, 0, none⟩ = some (.string s) := E2.of_cell (B7.cell 0)
       have m1 : w2.cell? ⟨w.heap.size, 1, none⟩ = some (.slice A n c) := E2.of_cell (B7.cell 1)
       have ml := Nat.lt_of_lt_of_le B7.lt E2.size
       clear e1 e2 e3 e4
       simp only [Nat.zero_mul, Nat.add_zero] at e0
       go_wp2
       have Xw : Ext w2 w2 := Ext.refl w2
       go_region_held3 (fun W => Ext w2 W ∧ ∀ b o, b < w2.heap.size → W.cell? ⟨b, o, none⟩ = w2.cell? ⟨b, o, none⟩) ((refine Ext.keep ?_; repeat with_reducible (first | assumption | exact Ext.refl _ | refine Ext.alloc ?_ _ | refine Ext.drew ?_ | refine Ext.drewN ?_ _ | refine Ext.setCell ?_ (by first | omega | (simp <;> omega)) _))) (first
        | (go_split_ands; go_at_call 164; refine (Hby.out _ ((X0.trans E2).trans (by with_reducible assumption))).mono ?_; rintro e w5 ⟨rfl, E5⟩; have q5 : Ext w2 w5 := Ext.trans (by with_reducible assumption) E5))
       all_goals
        go_wp2
        go_ret
        exact ⟨ret_bool HR0.out.symm, (X0.trans E2).trans (by assumption)⟩
     · rw [decide_eq_false hi] at hst
       obtain ⟨k, hk⟩ : ∃ k : Nat, idxB (numP (r.n : Int)) l = (k : Int) := Int.eq_ofNat_of_zero_le (by omega)
       have hby := fun (W : World) (h : Ext w W) => sByNumber (s := s) (x := (r.n : Int)) (Hf.out.up h) hn hk
       rw [show max (k : Int) 0 = k by omega, show decide ((0 : Int) ≤ k) = true by rw [decide_eq_true_iff]; omega] at hby
       have HR0 := Lib.hid hst
       have Hby := Lib.hid hby
       clear hi hst hR0 hby hbd hk
       go_enter Tryz.func166, Tryz.ntmps166
       go_wp2_with (go_at_call 198; refine (Hspl.out _ Hb7.out).mono ?_; rintro e w2 ⟨A2, c2, rfl, own2⟩)
       have E2 : Ext W7 w2 := Ext.trans (by repeat with_reducible (first | exact Ext.refl _ | refine Ext.alloc ?_ _ | refine Ext.drew ?_ | refine Ext.drewN ?_ _ | refine Ext.setCell ?_ (by first | omega | (simp <;> omega)) _)) own2.ext
       obtain ⟨b5, off5, r', hA, hrk, hb5, e0, e1, e2, e3, e4⟩ := own2.reads.rec' (show 0 < 1 by omega)
       simp only [List.getElem?_cons_zero, Option.some.injEq] at hrk
       subst hrk
       subst hA
       have m0 : w2.cell? ⟨w.heap.size, 0, none⟩ = some (.string s) := E2.of_cell (B7.cell 0)
       have m1 : w2.cell? ⟨w.heap.size, 1, none⟩ = some (.slice A n c) := E2.of_cell (B7.cell 1)
       have ml := Nat.lt_of_lt_of_le B7.lt E2.size
       clear e1 e2 e3 e4
       simp only [Nat.zero_mul, Nat.add_zero] at e0
       go_wp2
       have Xw : Ext w2 w2 := Ext.refl w2
       go_region_held3 (fun W => Ext w2 W ∧ ∀ b o, b < w2.heap.size → W.cell? ⟨b, o, none⟩ = w2.cell? ⟨b, o, none⟩) ((refine Ext.keep ?_; repeat with_reducible (first | assumption | exact Ext.refl _ | refine Ext.alloc ?_ _ | refine Ext.drew ?_ | refine Ext.drewN ?_ _ | refine Ext.setCell ?_ (by first | omega | (simp <;> omega)) _))) (first
        | (go_split_ands; go_at_call 164; refine (Hby.out _ ((X0.trans E2).trans (by with_reducible assumption))).mono ?_; rintro e w5 ⟨rfl, E5⟩; have q5 : Ext w2 w5 := Ext.trans (by with_reducible assumption) E5))
       all_goals
        go_wp2
        go_ret
        exact ⟨ret_bool HR0.out.symm, (X0.trans E2).trans (by assumption)⟩
   · have hst : R0 = false := by
      rw [hR0]
      refine eqB_no ?_
      rw [strange_iff]
      rintro ⟨r, p, h, _⟩
      rw [Hsp.out] at h
      cases h
      exact h1 rfl
     have q1 : ((L.length : Int) != 1) = true := by rw [bne_iff_ne]; omega
     subst hst
     clear hR0 h1
     go_enter Tryz.func166, Tryz.ntmps166
     go_wp2_with (go_at_call 198; refine (Hspl.out _ Hb7.out).mono ?_; rintro e w2 ⟨A2, c2, rfl, own2⟩)
     all_goals
      go_ret
      exact ⟨rfl, X0.trans (Ext.trans own2.ext (by repeat with_reducible (first | exact Ext.refl _ | refine Ext.alloc ?_ _ | refine Ext.drew ?_ | refine Ext.drewN ?_ _ | refine Ext.setCell ?_ (by first | omega | (simp <;> omega)) _)))⟩
 · have hst : R0 = false := by
    rw [hR0]
    refine eqB_no ?_
    rw [strange_iff]
    rintro ⟨r, p, h, _⟩
    rw [Hsp.out] at h
    cases h
    exact hC rfl
   have hC0 : ¬ ((C : Int) = 0) := by omega
   have hCi : (C : Int) < 256 := by omega
   subst hst
   clear hR0
   go_enter Tryz.func166, Tryz.ntmps166
   go_wp2_with (go_at_call 198; refine (Hspl.out _ Hb7.out).mono ?_; rintro e w2 ⟨A2, c2, rfl, own2⟩)
   all_goals
    go_ret
    exact ⟨rfl, X0.trans (Ext.trans own2.ext (by repeat with_reducible (first | exact Ext.refl _ | refine Ext.alloc ?_ _ | refine Ext.drew ?_ | refine Ext.drewN ?_ _ | refine Ext.setCell ?_ (by first | omega | (simp <;> omega)) _)))⟩

theorem tRight1 {A : Option Addr} {n c m : Nat} {S : List MsgV} {M : MsgV} {t : ByteArray} {w : World} {b1 b2 : Nat} (hs : SchemaAt w A n c S) (hM : S[m]? = some M) (hn : M.n ≤ 1000000000000) (ht : t.data.toList.length ≤ 1000000000) (c1 : w.cell? ⟨b1, 0, none⟩ = some (.slice A n c)) (c2 : w.cell? ⟨b2, 0, none⟩ = some (.int .i64 (m : Int))) :
  Calls Tryz.prog 165 #[.string t, .pointer (some ⟨b1, 0, none⟩), .pointer (some ⟨b2, 0, none⟩)] w fun e w' => e = .returned (.bool (!eqB (StrangeP M.d.fields t))) ∧ Ext w w' := by
 have hSl := hs.length
 have hml : m < n := by
  have := (List.getElem?_eq_some_iff.1 hM).1
  omega
 obtain ⟨b, off, M', hSA, hM', hf, hnm, hb, s0, s1⟩ := hs.msg (k := m) hml
 rw [hM] at hM'
 cases hM'
 subst hSA
 have hst := fun W (h : Ext w W) => tStranger (s := M.d.name) (hf.up h) hn ht
 have l1 := World.block_lt_of_cell? w _ c1
 have l2 := World.block_lt_of_cell? w _ c2
 simp only at l1 l2
 have mI : (m : Int) < n := by omega
 have hcap := hs.1.cap
 have hmax := hs.1.max
 unfold maxLen at hmax
 generalize eqB (StrangeP M.d.fields t) = R at *
 have Hst := Lib.hid hst
 clear hst hs hf
 go_enter Tryz.func165, Tryz.ntmps165
 go_wp2_with (go_at_call 166; refine (Hst.out _ (by repeat with_reducible (first | exact Ext.refl _ | refine Ext.alloc ?_ _ | refine Ext.drew ?_ | refine Ext.drewN ?_ _ | refine Ext.setCell ?_ (by first | omega | (simp <;> omega)) _))).mono ?_; rintro e w1 ⟨rfl, E1⟩)
 all_goals
  go_ret
  exact ⟨ret_bool (by simp), Ext.trans (by repeat with_reducible (first | exact Ext.refl _ | refine Ext.alloc ?_ _ | refine Ext.drew ?_ | refine Ext.drewN ?_ _ | refine Ext.setCell ?_ (by first | omega | (simp <;> omega)) _)) E1⟩

end Go.Proofs.YtnnphodgegcddaaGreat

/- Contracts of layer 14: tree.right. -/

namespace Go.Proofs.YtnnphodgegcddaaGreat
open Go.RowKit Go.Shelf
set_option linter.unusedVariables false

theorem valsP_drop {ok : ValT → Prop} {last : Int} {X : List ValT} {k : Nat} {v : ValT} (h : X[k]? = some v) : valsP ok last (X.drop k) ↔ last < v.number ∧ ok v ∧ valsP ok v.number (X.drop (k + 1)) := by
 rw [List.drop_eq_getElem?_toList_append, h]
 rfl

set_option maxRecDepth 100000 in
set_option maxHeartbeats 4000000 in
theorem tRightM {A : Option Addr} {n c : Nat} {S : List MsgV} {root : Int} {x : MsgR} {w : World} (hR : rightS (S.map MsgV.d) = true) (hs : SchemaAt w A n c S) (hx : TreeAt w x) (hvl : x.vals.length ≤ 1000000000000) (hul : x.unk.length ≤ 1000000000000) (hut : ∀ t ∈ x.unk, t.data.toList.length ≤ 1000000000)
  (hp : ∀ v ∈ x.vals, ∀ (f : FieldD) (W : World), Ext w W → Calls Tryz.prog 59 #[fieldV f, .slice A n c, tvalV v] W fun e W' => e = .returned (.bool (eqB (FitP (S.map MsgV.d) f (bareV v)))) ∧ Ext W W') :
  Calls Tryz.prog 117 #[.slice A n c, .int .i64 root, treeV x] w fun e w' => e = .returned (.bool (eqB (RI (S.map MsgV.d) root (bare x)))) ∧ Ext w w' := by
 have hSl := hs.length
 have hcap := hs.1.cap
 have hmax := hs.1.max
 have vcap := hx.vals.cap
 have ucap := hx.unk.at_.cap
 have vmax := hx.vals.max
 have umax := hx.unk.at_.max
 unfold maxLen at hmax vmax umax
 obtain ⟨R0, hR0⟩ : ∃ R0, R0 = eqB (RI (S.map MsgV.d) root (bare x)) := ⟨_, rfl⟩
 rw [← hR0]
 unfold treeV
 have eg1 : ∀ args w, (callFunc 165 args).run Tryz.prog w = .ok (.enter 165 args) w := enters_of Tryz.func165 (by kernel_rfl) rfl
 by_cases hneg : root < 0
 · have hst : R0 = false := by
    rw [hR0]
    exact eqB_no (fun h => by have := h.1; omega)
   subst hst
   clear hR0
   go_enter Tryz.func117, Tryz.ntmps117
   go_wp2
   go_ret
   exact ⟨rfl, (by repeat with_reducible (first | exact Ext.refl _ | refine Ext.alloc ?_ _ | refine Ext.drew ?_ | refine Ext.drewN ?_ _ | refine Ext.setCell ?_ (by first | omega | (simp <;> omega)) _))⟩
 · obtain ⟨m, rfl⟩ := Int.eq_ofNat_of_zero_le (show 0 ≤ root by omega)
   by_cases hml : m < n
   · obtain ⟨b1, off1, M, hSA, hM, hf, hnm, hb1, s0, s1⟩ := hs.msg (k := m) hml
     subst hSA
     have hMd : (S.map MsgV.d)[m]? = some M.d := by rw [List.getElem?_map, hM]; rfl
     have hMn : M.n ≤ 1000000 := by have := (right_msg hR hMd).2.2.1; have := hf.length; omega
     have hiff := ri_iff hR hMd (x := bare x) (by
      rw [bare_eq]
      intro v hv
      obtain ⟨u, hu, rfl⟩ := List.mem_map.1 (show v ∈ x.vals.map bareV from hv)
      exact (hx.each u hu).small)
     have hbv : (bare x).vals = x.vals.map bareV := by rw [bare_eq]; rfl
     have hbu : (bare x).unk = x.unk := by rw [bare_eq]; rfl
     rw [hbv, hbu] at hiff
     have hiff2 := hR0.trans (eqB_congr hiff)
     have HI := Lib.hid hiff2
     have hby := fun (W : World) (y : Int) (I : Int) (h : Ext w W) (hi : idxB (fun f => f.number == y) M.d.fields = I) => sByNumber (s := M.d.name) (x := y) (hf.up h) (show M.n ≤ 1000000000000 by omega) hi
     have hr1 := fun (W : World) (t : ByteArray) (b1' b2' : Nat) (h : Ext w W) (ht : t.data.toList.length ≤ 1000000000) => tRight1 (M := M) (t := t) (b1 := b1') (b2 := b2') (hs.up h) hM (by omega) ht
     have Hby := Lib.hid hby
     have Hr1 := Lib.hid hr1
     have Hp := Lib.hid hp
     have Hf := Lib.hid hf
     have Hx := Lib.hid hx
     have Hut := Lib.hid hut
     have Eg := Lib.hid eg1
     have mI : (m : Int) < n := by omega
     have mN : ¬ n ≤ m := by omega
     clear hiff hiff2 hR0 hby hr1 hp hf hx hut eg1 hbv hbu hMd hM hR hs hneg hnm
     go_enter Tryz.func117, Tryz.ntmps117
     go_wp2
     have BS := ((BlkT.new w 23 #[.slice (some ⟨b1, off1, none⟩) n c] rfl).alloc (.cells #[.int .i64 (m : Int)] 3)).alloc (.cells #[.slice x.a.1 x.vals.length x.a.2, .slice x.b.1 x.unk.length x.b.2] 35)
     have BR := (BlkT.new (w.alloc (.cells #[.slice (some ⟨b1, off1, none⟩) n c] 23)) 3 #[.int .i64 (m : Int)] (show w.heap.size + 1 = _ by simp)).alloc (.cells #[.slice x.a.1 x.vals.length x.a.2, .slice x.b.1 x.unk.length x.b.2] 35)
     have BX := BlkT.new ((w.alloc (.cells #[.slice (some ⟨b1, off1, none⟩) n c] 23)).alloc (.cells #[.int .i64 (m : Int)] 3)) 35 #[.slice x.a.1 x.vals.length x.a.2, .slice x.b.1 x.unk.length x.b.2] (show w.heap.size + 1 + 1 = _ by simp)
     have X0 : Ext w (((w.alloc (.cells #[.slice (some ⟨b1, off1, none⟩) n c] 23)).alloc (.cells #[.int .i64 (m : Int)] 3)).alloc (.cells #[.slice x.a.1 x.vals.length x.a.2, .slice x.b.1 x.unk.length x.b.2] 35)) := (((Ext.refl w).alloc _).alloc _).alloc _
     generalize ((w.alloc (.cells #[.slice (some ⟨b1, off1, none⟩) n c] 23)).alloc (.cells #[.int .i64 (m : Int)] 3)).alloc (.cells #[.slice x.a.1 x.vals.length x.a.2, .slice x.b.1 x.unk.length x.b.2] 35) = wx at *
     have y0 : wx.cell? ⟨w.heap.size, 0, none⟩ = some (.slice (some ⟨b1, off1, none⟩) n c) := BS.cell 0
     have y1 : wx.cell? ⟨w.heap.size + 1, 0, none⟩ = some (.int .i64 (m : Int)) := BR.cell 0
     have x0 : wx.cell? ⟨w.heap.size + 1 + 1, 0, none⟩ = some (.slice x.a.1 x.vals.length x.a.2) := BX.cell 0
     have x1 : wx.cell? ⟨w.heap.size + 1 + 1, 1, none⟩ = some (.slice x.b.1 x.unk.length x.b.2) := BX.cell 1
     have l0 := BS.lt
     have l1 := BR.lt
     have l2 := BX.lt
     have s0x := X0.of_cell s0
     have s1x := X0.of_cell s1
     have hb1x := Nat.lt_of_lt_of_le hb1 X0.size
     clear BS BR BX s0 s1 hb1
     go_loopw [6, 7, 9, 10, 11, 23] (fun _ la _ _ _ i wr => ∃ (k : Nat) (last : Int), k ≤ x.vals.length ∧ i = .int .i64 (k : Int) ∧ la = .int .i64 last ∧ Ext wx wr ∧ Hid (valsP (OkP (S.map MsgV.d) M.d) 0 (x.vals.map bareV) ↔ valsP (OkP (S.map MsgV.d) M.d) last ((x.vals.map bareV).drop k))) (fun _ _ _ _ _ i _ => x.vals.length - (intOf i).toNat)
     case atStart => exact ⟨0, 0, Nat.zero_le _, rfl, rfl, Ext.refl _, Iff.rfl⟩
     case round =>
      rename World => wr
      obtain ⟨k, last, hk, rfl, rfl, hE, hV⟩ := hrel
      by_cases hlt : k < x.vals.length
      · have hltI : (k : Int) < x.vals.length := by omega
        obtain ⟨b5, off5, v, hA, hvk, hb5, e0, e1, e2, e3⟩ := valCells (Hx.out.vals.ext (X0.trans hE)) hlt
        have hvm := List.mem_of_getElem? hvk
        have hvb : (x.vals.map bareV)[k]? = some (bareV v) := by rw [List.getElem?_map, hvk]; rfl
        have hstep := valsP_drop (ok := OkP (S.map MsgV.d) M.d) (last := last) hvb
        have hnv : (bareV v).number = v.number := rfl
        rw [hnv] at hstep
        have hval := Hp.out v hvm
        unfold tvalV at hval
        have Hval := Lib.hid hval
        have Hst := Lib.hid hstep
        have y0r := hE.of_cell y0
        have y1r := hE.of_cell y1
        have x0r := hE.of_cell x0
        have s0r := hE.of_cell s0x
        have s1r := hE.of_cell s1x
        have hb1r := Nat.lt_of_lt_of_le hb1x hE.size
        have l0r := Nat.lt_of_lt_of_le l0 hE.size
        have l1r := Nat.lt_of_lt_of_le l1 hE.size
        rw [hA] at x0r
        rw [hA]
        clear hvb hstep hnv hval hvk
        have BV := BlkT.new wr 52 #[.int .i64 v.number, .slice v.a.1 v.words.length v.a.2, .slice v.b.1 v.texts.length v.b.2, .slice v.c.1 v.subs.length v.c.2] rfl
        have Xv : Ext wr (wr.alloc (.cells #[.int .i64 v.number, .slice v.a.1 v.words.length v.a.2, .slice v.b.1 v.texts.length v.b.2, .slice v.c.1 v.subs.length v.c.2] 52)) := (Ext.refl wr).alloc _
        have a0 := Xv.of_cell y0r
        have a1 := Xv.of_cell y1r
        have a2 := Xv.of_cell s0r
        have a3 := Xv.of_cell s1r
        have n0 := Nat.lt_of_lt_of_le hb1r Xv.size
        have n1 := Nat.lt_of_lt_of_le l0r Xv.size
        have n2 := Nat.lt_of_lt_of_le l1r Xv.size
        go_wp2_with fail
        generalize wr.alloc (.cells #[.int .i64 v.number, .slice v.a.1 v.words.length v.a.2, .slice v.b.1 v.texts.length v.b.2, .slice v.c.1 v.subs.length v.c.2] 52) = wv at *
        have z0 : wv.cell? ⟨wr.heap.size, 0, none⟩ = some (.int .i64 v.number) := BV.cell 0
        have z1 : wv.cell? ⟨wr.heap.size, 1, none⟩ = some (.slice v.a.1 v.words.length v.a.2) := BV.cell 1
        have z2 : wv.cell? ⟨wr.heap.size, 2, none⟩ = some (.slice v.b.1 v.texts.length v.b.2) := BV.cell 2
        have z3 : wv.cell? ⟨wr.heap.size, 3, none⟩ = some (.slice v.c.1 v.subs.length v.c.2) := BV.cell 3
        have zl := BV.lt
        have Xvv : Ext wv wv := Ext.refl wv
        clear BV y0r y1r x0r s0r s1r
        rcases idxB_cases (fun f : FieldD => f.number == v.number) M.d.fields with ⟨hi, hno⟩ | ⟨i, f, hi, hfi, hfn, _⟩
        · have hb := fun (W : World) (h : Ext w W) => Hby.out W v.number (-1) h hi
          rw [show max (-1 : Int) 0 = 0 by decide, show decide ((0 : Int) ≤ -1) = false by decide] at hb
          have Hb := Lib.hid hb
          have hst : R0 = false := by
           rw [HI.out]
           refine eqB_no ?_
           rintro ⟨h, _⟩
           rw [hV.out, Hst.out] at h
           obtain ⟨_, ⟨f, hf, _⟩, _⟩ := h
           have h1 := hno f (List.mem_of_find?_eq_some hf)
           have h2 := List.find?_some hf
           have h3 : (f.number == v.number) = true := h2
           rw [h3] at h1
           cases h1
          have HS := Lib.hid hst
          clear hi hno hb hst
          go_region_held3 (fun W => Ext wv W ∧ ∀ b o, b < wv.heap.size → W.cell? ⟨b, o, none⟩ = wv.cell? ⟨b, o, none⟩) ((refine Ext.keep ?_; repeat with_reducible (first | assumption | exact Ext.refl _ | refine Ext.alloc ?_ _ | refine Ext.drew ?_ | refine Ext.drewN ?_ _ | refine Ext.setCell ?_ (by first | omega | (simp <;> omega)) _))) (first | (go_split_ands; go_at_call 164; refine (Hb.out _ ((X0.trans (hE.trans Xv)).trans (by with_reducible assumption))).mono ?_; rintro e w5 ⟨rfl, E5⟩; have q5 : Ext wv w5 := Ext.trans (by with_reducible assumption) E5))
          go_wp2
          go_quiet (fail)
          go_wp2
          go_ret
          exact ⟨ret_bool HS.out.symm, X0.trans (hE.trans (Xv.trans (Ext.trans q5 (by repeat with_reducible (first | exact Ext.refl _ | refine Ext.alloc ?_ _ | refine Ext.drew ?_ | refine Ext.drewN ?_ _ | refine Ext.setCell ?_ (by first | omega | (simp <;> omega)) _)))))⟩
        · have hb := fun (W : World) (h : Ext w W) => Hby.out W v.number (i : Int) h hi
          rw [show max (i : Int) 0 = i by omega, show decide ((0 : Int) ≤ i) = true by rw [decide_eq_true_iff]; omega] at hb
          have Hb := Lib.hid hb
          have hfind : M.d.fields.find? (fun g => g.number == v.number) = some f := (find_of_idx (p := fun f : FieldD => f.number == v.number) (l := M.d.fields)).2 i f hi hfi
          have Hfind := Lib.hid hfind
          have hin : i < M.n := by have := (List.getElem?_eq_some_iff.1 hfi).1; have := Hf.out.length; omega
          have iI : (i : Int) < M.n := by omega
          obtain ⟨b8, off8, f', hA8, hff, hok8, hb8, g0, g1, g2, g3, g4, g5⟩ := (Hf.out.up (X0.trans (hE.trans Xv))).field hin
          rw [hfi] at hff
          cases hff
          by_cases hle : v.number ≤ last
          · have hst : R0 = false := by
             rw [HI.out]
             refine eqB_no ?_
             rintro ⟨h, _⟩
             rw [hV.out, Hst.out] at h
             omega
            have HS := Lib.hid hst
            clear hi hfi hfn hb hst hfind hA8
            go_region_held3 (fun W => Ext wv W ∧ ∀ b o, b < wv.heap.size → W.cell? ⟨b, o, none⟩ = wv.cell? ⟨b, o, none⟩) ((refine Ext.keep ?_; repeat with_reducible (first | assumption | exact Ext.refl _ | refine Ext.alloc ?_ _ | refine Ext.drew ?_ | refine Ext.drewN ?_ _ | refine Ext.setCell ?_ (by first | omega | (simp <;> omega)) _))) (first | (go_split_ands; go_at_call 164; refine (Hb.out _ ((X0.trans (hE.trans Xv)).trans (by with_reducible assumption))).mono ?_; rintro e w5 ⟨rfl, E5⟩; have q5 : Ext wv w5 := Ext.trans (by with_reducible assumption) E5))
            have z05 := q5.of_cell z0
            go_wp2
            go_quiet (fail)
            go_wp2
            go_ret
            exact ⟨ret_bool HS.out.symm, X0.trans (hE.trans (Xv.trans (Ext.trans q5 (by repeat with_reducible (first | exact Ext.refl _ | refine Ext.alloc ?_ _ | refine Ext.drew ?_ | refine Ext.drewN ?_ _ | refine Ext.setCell ?_ (by first | omega | (simp <;> omega)) _)))))⟩
          · have hle2 : decide (v.number ≤ last) = false := decide_eq_false hle
            have hfit := fun (W : World) (h : Ext w W) => Hval.out f W h
            unfold fieldV at hfit
            rw [hA8] at a3
            have hby2 := Hb.out
            rw [hA8] at hby2
            have Hb := Lib.hid hby2
            rcases hq : eqB (FitP (S.map MsgV.d) f (bareV v)) with _ | _
            · rw [hq] at hfit
              have hst : R0 = false := by
               rw [HI.out]
               refine eqB_no ?_
               rintro ⟨h, _⟩
               rw [hV.out, Hst.out] at h
               obtain ⟨_, ⟨g, hg, hF⟩, _⟩ := h
               have hg' := Hfind.out.symm.trans hg
               cases hg'
               rw [eqB_yes hF] at hq
               cases hq
              have HS := Lib.hid hst
              have Hfit := Lib.hid hfit
              clear hi hfi hfn hb hst hfind hA8 hfit hq hby2
              go_region_held3 (fun W => Ext wv W ∧ ∀ b o, b < wv.heap.size → W.cell? ⟨b, o, none⟩ = wv.cell? ⟨b, o, none⟩) ((refine Ext.keep ?_; repeat with_reducible (first | assumption | exact Ext.refl _ | refine Ext.alloc ?_ _ | refine Ext.drew ?_ | refine Ext.drewN ?_ _ | refine Ext.setCell ?_ (by first | omega | (simp <;> omega)) _))) (first | (go_split_ands; go_at_call 164; refine (Hb.out _ ((X0.trans (hE.trans Xv)).trans (by with_reducible assumption))).mono ?_; rintro e w5 ⟨rfl, E5⟩; have q5 : Ext wv w5 := Ext.trans (by with_reducible assumption) E5))
              rename Ext wv w5 ∧ _ => hS5
              clear hS5
              have a05 := q5.of_cell a0
              have a15 := q5.of_cell a1
              have a25 := q5.of_cell a2
              have a35 := q5.of_cell a3
              have z05 := q5.of_cell z0
              have z15 := q5.of_cell z1
              have z25 := q5.of_cell z2
              have z35 := q5.of_cell z3
              have g05 := q5.of_cell g0
              have g15 := q5.of_cell g1
              have g25 := q5.of_cell g2
              have g35 := q5.of_cell g3
              have g45 := q5.of_cell g4
              have g55 := q5.of_cell g5
              have m0 := Nat.lt_of_lt_of_le n0 q5.size
              have m1 := Nat.lt_of_lt_of_le n1 q5.size
              have m2 := Nat.lt_of_lt_of_le n2 q5.size
              have m3 := Nat.lt_of_lt_of_le zl q5.size
              have m4 := Nat.lt_of_lt_of_le hb8 q5.size
              have X5 : Ext w w5 := X0.trans (hE.trans (Xv.trans q5))
              clear a0 a1 a2 a3 z0 z1 z2 z3 g0 g1 g2 g3 g4 g5
              go_wp2
              have Q5 : Ext w5 w5 := Ext.refl w5
              go_region_held3 (fun W => Ext w5 W ∧ ∀ b o, b < w5.heap.size → W.cell? ⟨b, o, none⟩ = w5.cell? ⟨b, o, none⟩) ((refine Ext.keep ?_; repeat with_reducible (first | assumption | exact Ext.refl _ | refine Ext.alloc ?_ _ | refine Ext.drew ?_ | refine Ext.drewN ?_ _ | refine Ext.setCell ?_ (by first | omega | (simp <;> omega)) _))) (first | (go_split_ands; go_at_call 59; refine (Hfit.out _ (X5.trans (by with_reducible assumption))).mono ?_; rintro e w6 ⟨rfl, E6⟩; have q6 : Ext w5 w6 := Ext.trans (by with_reducible assumption) E6))
              go_wp2
              go_ret
              exact ⟨ret_bool HS.out.symm, X5.trans (Ext.trans q6 (by repeat with_reducible (first | exact Ext.refl _ | refine Ext.alloc ?_ _ | refine Ext.drew ?_ | refine Ext.drewN ?_ _ | refine Ext.setCell ?_ (by first | omega | (simp <;> omega)) _)))⟩
            · rw [hq] at hfit
              have hF : FitP (S.map MsgV.d) f (bareV v) := by
               by_cases c : FitP (S.map MsgV.d) f (bareV v)
               · exact c
               · rw [eqB_no c] at hq
                 cases hq
              have hnext : valsP (OkP (S.map MsgV.d) M.d) 0 (x.vals.map bareV) ↔ valsP (OkP (S.map MsgV.d) M.d) v.number ((x.vals.map bareV).drop (k + 1)) := by
               rw [hV.out, Hst.out]
               exact ⟨fun h => h.2.2, fun h => ⟨by omega, ⟨f, Hfind.out, hF⟩, h⟩⟩
              have HN := Lib.hid hnext
              have Hfit := Lib.hid hfit
              clear hi hfi hfn hb hF hnext hfind hA8 hfit hq hby2
              go_region_held3 (fun W => Ext wv W ∧ ∀ b o, b < wv.heap.size → W.cell? ⟨b, o, none⟩ = wv.cell? ⟨b, o, none⟩) ((refine Ext.keep ?_; repeat with_reducible (first | assumption | exact Ext.refl _ | refine Ext.alloc ?_ _ | refine Ext.drew ?_ | refine Ext.drewN ?_ _ | refine Ext.setCell ?_ (by first | omega | (simp <;> omega)) _))) (first | (go_split_ands; go_at_call 164; refine (Hb.out _ ((X0.trans (hE.trans Xv)).trans (by with_reducible assumption))).mono ?_; rintro e w5 ⟨rfl, E5⟩; have q5 : Ext wv w5 := Ext.trans (by with_reducible assumption) E5))
              rename Ext wv w5 ∧ _ => hS5
              clear hS5
              have a05 := q5.of_cell a0
              have a15 := q5.of_cell a1
              have a25 := q5.of_cell a2
              have a35 := q5.of_cell a3
              have z05 := q5.of_cell z0
              have z15 := q5.of_cell z1
              have z25 := q5.of_cell z2
              have z35 := q5.of_cell z3
              have g05 := q5.of_cell g0
              have g15 := q5.of_cell g1
              have g25 := q5.of_cell g2
              have g35 := q5.of_cell g3
              have g45 := q5.of_cell g4
              have g55 := q5.of_cell g5
              have m0 := Nat.lt_of_lt_of_le n0 q5.size
              have m1 := Nat.lt_of_lt_of_le n1 q5.size
              have m2 := Nat.lt_of_lt_of_le n2 q5.size
              have m3 := Nat.lt_of_lt_of_le zl q5.size
              have m4 := Nat.lt_of_lt_of_le hb8 q5.size
              have X5 : Ext w w5 := X0.trans (hE.trans (Xv.trans q5))
              clear a0 a1 a2 a3 z0 z1 z2 z3 g0 g1 g2 g3 g4 g5
              go_wp2
              have Q5 : Ext w5 w5 := Ext.refl w5
              go_region_held3 (fun W => Ext w5 W ∧ ∀ b o, b < w5.heap.size → W.cell? ⟨b, o, none⟩ = w5.cell? ⟨b, o, none⟩) ((refine Ext.keep ?_; repeat with_reducible (first | assumption | exact Ext.refl _ | refine Ext.alloc ?_ _ | refine Ext.drew ?_ | refine Ext.drewN ?_ _ | refine Ext.setCell ?_ (by first | omega | (simp <;> omega)) _))) (first | (go_split_ands; go_at_call 59; refine (Hfit.out _ (X5.trans (by with_reducible assumption))).mono ?_; rintro e w6 ⟨rfl, E6⟩; have q6 : Ext w5 w6 := Ext.trans (by with_reducible assumption) E6))
              have z06 := q6.of_cell z05
              go_wp2
              go_roundw
              case rel => exact ⟨k + 1, v.number, by omega, by go_num, rfl, hE.trans (Xv.trans (q5.trans (Ext.trans q6 (by repeat with_reducible (first | exact Ext.refl _ | refine Ext.alloc ?_ _ | refine Ext.drew ?_ | refine Ext.drewN ?_ _ | refine Ext.setCell ?_ (by first | omega | (simp <;> omega)) _))))), HN.out⟩
              case measure => simp [intOf]; omega
      · have hge : ¬ (k : Int) < x.vals.length := by omega
        have hall : valsP (OkP (S.map MsgV.d) M.d) 0 (x.vals.map bareV) := by
         rw [hV.out, List.drop_eq_nil_of_le (by rw [List.length_map]; omega)]
         trivial
        have hst : R0 = !(x.unk.any fun t => !eqB (StrangeP M.d.fields t)) := by
         rw [HI.out]
         refine eqB_of ?_
         rw [Bool.not_eq_true', List.any_eq_false]
         constructor
         · rintro ⟨_, h⟩ t ht
           rw [eqB_yes (h t ht)]
           decide
         · intro h
           refine ⟨hall, fun t ht => ?_⟩
           have := h t ht
           by_cases c : StrangeP M.d.fields t
           · exact c
           · rw [eqB_no c] at this
             exact absurd rfl this
        have HS := Lib.hid hst
        have y0r := hE.of_cell y0
        have y1r := hE.of_cell y1
        have x1r := hE.of_cell x1
        have hc := fun (W : World) (E : Ext wr W) => hasText (w := W) (p := fun t => !eqB (StrangeP M.d.fields t)) (lb := #[.pointer (some ⟨w.heap.size, 0, none⟩), .pointer (some ⟨w.heap.size + 1, 0, none⟩)]) Eg.out (Hx.out.unk.up (X0.trans (hE.trans E))) (by omega) (fun W' t ht hE' => Hr1.out W' t _ _ (X0.trans (hE.trans (E.trans hE'))) (Hut.out t ht.1) ((E.trans hE').of_cell y0r) ((E.trans hE').of_cell y1r))
        generalize (x.unk.any fun t => !eqB (StrangeP M.d.fields t)) = Q at *
        have Hc := Lib.hid hc
        clear hall hst hc
        go_wp2_with (go_at_call 118; refine (Hc.out _ (by repeat with_reducible (first | exact Ext.refl _ | refine Ext.alloc ?_ _ | refine Ext.drew ?_ | refine Ext.drewN ?_ _ | refine Ext.setCell ?_ (by first | omega | (simp <;> omega)) _))).mono ?_; rintro e w2 ⟨rfl, E2⟩; have X2 : Ext wr w2 := Ext.trans (by repeat with_reducible (first | exact Ext.refl _ | refine Ext.alloc ?_ _ | refine Ext.drew ?_ | refine Ext.drewN ?_ _ | refine Ext.setCell ?_ (by first | omega | (simp <;> omega)) _)) E2)
        all_goals
         go_ret
         exact ⟨ret_bool (by rw [HS.out]), X0.trans (hE.trans (X2.trans (by repeat with_reducible (first | exact Ext.refl _ | refine Ext.alloc ?_ _ | refine Ext.drew ?_ | refine Ext.drewN ?_ _ | refine Ext.setCell ?_ (by first | omega | (simp <;> omega)) _))))⟩
   · have hst : R0 = false := by
      rw [hR0]
      refine eqB_no ?_
      rintro ⟨_, h⟩
      rw [Int.toNat_natCast, rr_iff] at h
      obtain ⟨M, hM, _⟩ := h
      have := (List.getElem?_eq_some_iff.1 hM).1
      rw [List.length_map] at this
      omega
     have mI : ¬ ((m : Int) < (n : Int)) := by omega
     subst hst
     clear hR0
     go_enter Tryz.func117, Tryz.ntmps117
     go_wp2
     go_ret
     exact ⟨rfl, (by repeat with_reducible (first | exact Ext.refl _ | refine Ext.alloc ?_ _ | refine Ext.drew ?_ | refine Ext.drewN ?_ _ | refine Ext.setCell ?_ (by first | omega | (simp <;> omega)) _))⟩

inductive TextsT {τ : Type} (B : Nat) : MsgX τ → Prop
 | mk (x : MsgX τ) (unk : ∀ t ∈ x.unk, t.data.toList.length ≤ B) (sub : ∀ v ∈ x.vals, ∀ y ∈ v.subs, TextsT B y) : TextsT B x

theorem TextsT.unk {τ : Type} {B : Nat} {x : MsgX τ} (h : TextsT B x) : ∀ t ∈ x.unk, t.data.toList.length ≤ B := by cases h; assumption

theorem TextsT.sub {τ : Type} {B : Nat} {x : MsgX τ} (h : TextsT B x) : ∀ v ∈ x.vals, ∀ y ∈ v.subs, TextsT B y := by cases h; assumption

def TRight (S : List MsgV) (x : MsgR) : Prop := FitT 1000000000000 x → TextsT 1000000000 x → ∀ (root : Int) (w : World) (A : Option Addr) (n c : Nat), SchemaAt w A n c S → TreeAt w x →
 Calls Tryz.prog 117 #[.slice A n c, .int .i64 root, treeV x] w fun e w' => e = .returned (.bool (eqB (RI (S.map MsgV.d) root (bare x)))) ∧ Ext w w'

theorem tRightT {S : List MsgV} (hR : rightS (S.map MsgV.d) = true) (x : MsgR) : TRight S x := by
 refine MsgX.ind (P := TRight S) (fun x ih => ?_) x
 intro hfit htx root w A n c hs hx
 refine tRightM hR hs hx hfit.vals hfit.unk htx.unk (fun v hv f W hW => ?_)
 obtain ⟨l1, l2, l3⟩ := hfit.each v hv
 exact tFits (hs.up hW) ((hx.val hv).up hW) l1 l2 l3 (fun y hy W' hW' => ih v hv y hy (hfit.sub v hv y hy) (htx.sub v hv y hy) f.of_ W' A n c (hs.up (hW.trans hW')) ((hx.sub v hv y hy).up (hW.trans hW')))

set_option maxHeartbeats 1000000 in
theorem tRightS {A : Option Addr} {n c : Nat} {S : List MsgV} {root : Int} {x : MsgR} {w : World} (hs : SchemaAt w A n c S) (hx : TreeAt w x) (hfit : FitT 1000000000000 x) (htx : TextsT 1000000000 x) :
  Calls Tryz.prog 74 #[.slice A n c, .int .i64 root, treeV x] w fun e w' => e = .returned (.bool (rightS (S.map MsgV.d) && eqB (RI (S.map MsgV.d) root (bare x)))) ∧ Ext w w' := by
 have hr := fun W (h : SchemaAt W A n c S) => sRight h
 rcases hR : rightS (S.map MsgV.d) with _ | _
 · rw [hR] at hr
   have Hr := Lib.hid hr
   clear hr hR
   unfold treeV
   go_enter Tryz.func74, Tryz.ntmps74
   go_wp2_with (go_at_call 73; refine (Hr.out _ (hs.up (by repeat with_reducible (first | exact Ext.refl _ | refine Ext.alloc ?_ _ | refine Ext.drew ?_ | refine Ext.drewN ?_ _ | refine Ext.setCell ?_ (by first | omega | (simp <;> omega)) _)))).mono ?_; rintro e w1 ⟨rfl, E1⟩)
   all_goals
    go_ret
    exact ⟨rfl, Ext.trans (by repeat with_reducible (first | exact Ext.refl _ | refine Ext.alloc ?_ _ | refine Ext.drew ?_ | refine Ext.drewN ?_ _ | refine Ext.setCell ?_ (by first | omega | (simp <;> omega)) _)) E1⟩
 · have ht := fun W (h : SchemaAt W A n c S) (h2 : TreeAt W x) => tRightT hR x hfit htx root W A n c h h2
   rw [hR] at hr
   generalize eqB (RI (S.map MsgV.d) root (bare x)) = R at *
   have Hr := Lib.hid hr
   have Ht := Lib.hid ht
   clear hr hR ht
   unfold treeV at *
   go_enter Tryz.func74, Tryz.ntmps74
   go_wp2_with (first
    | (go_at_call 73; refine (Hr.out _ (hs.up (by repeat with_reducible (first | exact Ext.refl _ | refine Ext.alloc ?_ _ | refine Ext.drew ?_ | refine Ext.drewN ?_ _ | refine Ext.setCell ?_ (by first | omega | (simp <;> omega)) _)))).mono ?_; rintro e w1 ⟨rfl, E1⟩; have X1 : Ext w w1 := Ext.trans (by repeat with_reducible (first | exact Ext.refl _ | refine Ext.alloc ?_ _ | refine Ext.drew ?_ | refine Ext.drewN ?_ _ | refine Ext.setCell ?_ (by first | omega | (simp <;> omega)) _)) E1; have BX : BlkT w1 w.heap.size 35 #[.slice x.a.1 x.vals.length x.a.2, .slice x.b.1 x.unk.length x.b.2] := (BlkT.new w _ _ rfl).up E1; have x0 : w1.cell? ⟨w.heap.size, 0, none⟩ = some (.slice x.a.1 x.vals.length x.a.2) := BX.cell 0; have x1 : w1.cell? ⟨w.heap.size, 1, none⟩ = some (.slice x.b.1 x.unk.length x.b.2) := BX.cell 1)
    | (go_at_call 117; refine (Ht.out _ (hs.up (X1.trans (by repeat with_reducible (first | exact Ext.refl _ | refine Ext.alloc ?_ _ | refine Ext.drew ?_ | refine Ext.drewN ?_ _ | refine Ext.setCell ?_ (by first | omega | (simp <;> omega)) _)))) (hx.up (X1.trans (by repeat with_reducible (first | exact Ext.refl _ | refine Ext.alloc ?_ _ | refine Ext.drew ?_ | refine Ext.drewN ?_ _ | refine Ext.setCell ?_ (by first | omega | (simp <;> omega)) _))))).mono ?_; rintro e w2 ⟨rfl, E2⟩))
   all_goals
    go_ret
    exact ⟨ret_bool (by simp), X1.trans (Ext.trans (by repeat with_reducible (first | exact Ext.refl _ | refine Ext.alloc ?_ _ | refine Ext.drew ?_ | refine Ext.drewN ?_ _ | refine Ext.setCell ?_ (by first | omega | (simp <;> omega)) _)) E2)⟩

end Go.Proofs.YtnnphodgegcddaaGreat
