/- Layer 15: the reference's Last. -/
import Derived.Test.YtpicpebolghcfaaGreatDoorQjW92
import Derived.Test.YtpicpebolghcfaaGreatDoorQjW93

namespace Go.Proofs.YtpicpebolghcfaaGreatDoor
open Go.RowKit Go.Shelf
set_option linter.unusedVariables false
set_option linter.unusedSimpArgs false

theorem store6_on {w : World} {b : Nat} {t : TypeId} {f g : FieldD} (h : BlkT w b t #[.string g.name, .int .i64 g.number, .int .i64 g.kind, .bool g.rep, .bool g.packed, .int .i64 g.of_]) : BlkT (store6 w b f) b t #[.string f.name, .int .i64 f.number, .int .i64 f.kind, .bool f.rep, .bool f.packed, .int .i64 f.of_] := by
  unfold store6
  have := (((((h.set_ 0 (.string f.name)).set_ 1 (.int .i64 f.number)).set_ 2 (.int .i64 f.kind)).set_ 3 (.bool f.rep)).set_ 4 (.bool f.packed)).set_ 5 (.int .i64 f.of_)
  simpa using this

set_option maxRecDepth 100000 in
set_option maxHeartbeats 4000000 in
theorem rLast {A C : Option Addr} {n c k kc m : Nat} {S : List MsgV} {way : List Int} {f : FieldD} {w : World} (hR : rightS (S.map MsgV.d) = true) (hs : SchemaAt w A n c S) (hm : m < n) (hf : OnWay (S.map MsgV.d) m way f) (hw : Reads w C k kc 1 (way.map wyV)) (hk : way.length ≤ 65) :
    Calls Tryz.prog 12 #[.slice A n c, .int .i64 (m : Int), .slice C k kc] w fun e w' => e = .returned (.tuple #[fieldV f, .bool true]) ∧ Ext w w' := by
  have hSl := hs.length
  have hkl : way.length = k := by have := hw.len; rw [List.length_map, Nat.mul_one] at this; exact this
  have hk0 : 0 < k := by
    rcases k with _ | k
    · exact absurd (List.eq_nil_of_length_eq_zero hkl) hf.ne
    · omega
  have hpa := fun W (h : Ext w W) => rPath hR (hs.up h) hm hf (hw.ext h) hk
  have Hpa := Lib.hid hpa
  have Hs0 := Lib.hid hs
  have Hf := Lib.hid hf
  have Hw0 := Lib.hid hw
  have HR := Lib.hid hR
  clear hs hf hw hR hpa
  have B0 := BlkT.new w 43 #[.string ⟨#[]⟩, .int .i64 0, .int .i64 0, .bool false, .bool false, .int .i64 0] rfl
  have X0 : Ext w (w.alloc (.cells #[.string ⟨#[]⟩, .int .i64 0, .int .i64 0, .bool false, .bool false, .int .i64 0] 43)) := (Ext.refl w).alloc _
  go_enter Tryz.func12, Tryz.ntmps12
  go_upto_region 1 with fail
  generalize w.alloc (.cells #[.string ⟨#[]⟩, .int .i64 0, .int .i64 0, .bool false, .bool false, .int .i64 0] 43) = wx at *
  go_upto_region 5 with (go_at_call 41; refine (Hpa.out _ X0).mono ?_; rintro e w2 ⟨s, rfl, E2⟩)
  have BK := BlkT.new w2 43 #[.string ⟨#[]⟩, .int .i64 0, .int .i64 0, .bool false, .bool false, .int .i64 0] rfl
  have X3 : Ext w2 (w2.alloc (.cells #[.string ⟨#[]⟩, .int .i64 0, .int .i64 0, .bool false, .bool false, .int .i64 0] 43)) := (Ext.refl w2).alloc _
  generalize w2.alloc (.cells #[.string ⟨#[]⟩, .int .i64 0, .int .i64 0, .bool false, .bool false, .int .i64 0] 43) = w3 at *
  have X2 := X0.trans E2
  have Hs := Lib.hid (Hs0.out.up X2)
  have Hw := Lib.hid (Hw0.out.ext X2)
  have B2 := B0.up E2
  have HX2 := Lib.hid X2
  clear X2 X0 E2 B0 Hs0 Hw0 Hpa
  go_wp2_with fail
  go_loopw [1, 11] (fun t1 t11 wr => ∃ (q : Nat) (G : FieldD), q ≤ k ∧ t11 = .int .i64 q ∧ Ext w2 wr ∧ BlkT wr w2.heap.size 43 #[.string G.name, .int .i64 G.number, .int .i64 G.kind, .bool G.rep, .bool G.packed, .int .i64 G.of_] ∧
      Hid ((q < k ∧ ∃ mq : Nat, t1 = .int .i64 mq ∧ mq < n ∧ OnWay (S.map MsgV.d) mq (way.drop q) f) ∨ (q = k ∧ G = f ∧ ∃ z : Int, t1 = .int .i64 z))) (fun _ i _ => k - (intOf i).toNat)
  case atStart => exact ⟨0, ⟨⟨#[]⟩, 0, 0, false, false, 0⟩, Nat.zero_le _, rfl, X3, BK, Lib.hid (.inl ⟨hk0, m, rfl, hm, Hf.out⟩)⟩
  case round =>
    obtain ⟨q, G, hq, rfl, X, BG, hst⟩ := hrel
    by_cases hlt : q < k
    · have hlt2 : (q : Int) < k := by omega
      rcases hst.out with ⟨_, mq, e1, hmq, hon⟩ | ⟨h, _⟩
      rotate_left
      · omega
      subst e1
      obtain ⟨x, hx⟩ : ∃ x, way[q]? = some x := ⟨_, List.getElem?_eq_getElem (by omega)⟩
      have hdrop : way.drop q = x :: way.drop (q + 1) := by
        have hql : q < way.length := by omega
        rw [List.drop_eq_getElem_cons hql]
        congr 1
        exact (Option.some.inj ((List.getElem?_eq_getElem hql).symm.trans hx))
      rw [hdrop] at hon
      obtain ⟨g, hg, hnext⟩ := hon.head
      obtain ⟨sb, so, ⟨⟨Mn, Mf⟩, MA, Mk, Mc⟩, rfl, hM, hF, hMn, hsb, s0, s1⟩ := Hs.out.msg hmq
      simp only at hF hMn s0 s1
      have hM' : (S.map MsgV.d)[mq]? = some ⟨Mn, Mf⟩ := by rw [List.getElem?_map, hM]; rfl
      have hFl := hF.length
      have hF2 := (right_msg HR.out hM').2.2.1
      simp only at hF2
      have hMk : Mk ≤ 1000000000000 := by omega
      obtain ⟨j, hj, hI⟩ := find_idx hM' hg
      simp only at hj hI
      have hby := fun W (h : Ext wr W) => rFieldE (s := Mn) (x := x) (hF.up (X.trans h)) hMk hI
      have hjl : j < Mk := by have := (List.getElem?_eq_some_iff.1 hj).1; omega
      have hji : (j : Int) < Mk := by omega
      have hmi : (mq : Int) < n := by omega
      have hname := nameB_size (faultV_inv ((right_msg HR.out hM').2.2.2 j g hj)).1
      have hof := fun (h : g.kind = 17) => right_of HR.out hM' hj h
      rw [List.length_map, hSl] at hof
      obtain ⟨fb, fo, f', rfl, hf', hok, hfb, c0, c1, c2, c3, c4, c5⟩ := hF.field hjl
      obtain rfl : f' = g := Option.some.inj (hf'.symm.trans hj)
      obtain ⟨wb, wo, e, hwb, hwc⟩ := Hw.out.at_ (by omega)
      subst e
      have w0 : w2.cell? ⟨wb, wo + q, none⟩ = some (.int .i64 x) := hwc q (wyV x) (by rw [List.getElem?_map, hx]; rfl)
      replace c0 := X.of_cell c0
      replace c1 := X.of_cell c1
      replace c2 := X.of_cell c2
      replace c3 := X.of_cell c3
      replace c4 := X.of_cell c4
      replace c5 := X.of_cell c5
      replace s0 := X.of_cell s0
      replace s1 := X.of_cell s1
      replace w0 := X.of_cell w0
      replace hsb := Nat.lt_of_lt_of_le hsb X.size
      replace hfb := Nat.lt_of_lt_of_le hfb X.size
      replace hwb := Nat.lt_of_lt_of_le hwb X.size
      have Hby := Lib.hid hby
      have Hnext := Lib.hid hnext
      have Hof := Lib.hid hof
      have Hok := Lib.hid hok
      obtain ⟨fname, fnum, fkind, frep, fpk, fof⟩ := f'
      obtain ⟨gn, gnum, gkind, grep, gpk, gof⟩ := G
      simp only at c0 c1 c2 c3 c4 c5 BG
      clear hby hnext hof hok hf' hj hI hF hM hM' hFl hF2 hon hdrop hx hwc hg hst hname
      have HBG := Lib.hid BG
      clear BG
      go_wp2_with fail
      refine calmP (fun _ _ _ hd h => ⟨hd, h.2⟩) (lareg8 (q := q) hmi hlt2 hji s0 s1 w0 c0 c1 c2 c3 c4 c5 HBG.out Hby.out ?_)
      intro s29 s30 s31 s32 s33 s34 s35 s36 s37 s38 s39 s40 s41 s42 s43 s44 W6 wz hwz X6
      have BZ : BlkT wz w2.heap.size 43 #[.string fname, .int .i64 fnum, .int .i64 fkind, .bool frep, .bool fpk, .int .i64 fof] := by
        rw [hwz]
        exact store6_on (f := ⟨fname, fnum, fkind, frep, fpk, fof⟩) (g := ⟨gn, gnum, gkind, grep, gpk, gof⟩) (HBG.out.up X6)
      have XZ : Ext w2 wz := by
        rw [hwz]
        exact store6_ext (X.trans X6) (Nat.le_refl _)
      have z5 : wz.cell? ⟨w2.heap.size, 5, none⟩ = some (.int .i64 fof) := BZ.cell 5
      have zl := BZ.lt
      clear hwz
      rcases Hnext.out with ⟨h1, h2⟩ | ⟨h1, h2, h3, h4⟩
      · have hqk : q + 1 = k := by
          have := List.drop_eq_nil_iff.1 h1
          omega
        have H2 := Lib.hid h2
        clear h1 h2
        go_wp2
        go_roundw
        case rel => exact ⟨q + 1, ⟨fname, fnum, fkind, frep, fpk, fof⟩, by omega, by go_num, XZ, BZ, Lib.hid (.inr ⟨hqk, H2.out, fof, rfl⟩)⟩
        case measure => simp [intOf]; omega
      · obtain ⟨o, ho1, ho2⟩ := Hof.out h2
        have hq1 : q + 1 < k := by
          rcases Nat.lt_or_ge (q + 1) k with h | h
          · exact h
          · exact absurd (List.drop_eq_nil_iff.2 (by omega)) h1
        try simp only at ho1 h4
        subst ho1
        have H4 := Lib.hid h4
        clear h1 h4 h2 h3
        go_wp2
        go_roundw
        case rel => exact ⟨q + 1, ⟨fname, fnum, fkind, frep, fpk, o⟩, by omega, by go_num, XZ, BZ, Lib.hid (.inl ⟨hq1, o, rfl, ho2, H4.out⟩)⟩
        case measure => simp [intOf]; omega
    · obtain rfl : q = k := by omega
      obtain ⟨hG, z, hz⟩ : G = f ∧ ∃ z : Int, _ = Value.int .i64 z := by
        rcases hst.out with ⟨h, _⟩ | ⟨_, h⟩
        · omega
        · exact h
      subst hG
      subst hz
      obtain ⟨gn, gnum, gkind, grep, gpk, gof⟩ := G
      simp only at BG
      have B0 := B2.up X
      have c0 : wr.cell? ⟨w2.heap.size, 0, none⟩ = some (.string gn) := BG.cell 0
      have c1 : wr.cell? ⟨w2.heap.size, 1, none⟩ = some (.int .i64 gnum) := BG.cell 1
      have c2 : wr.cell? ⟨w2.heap.size, 2, none⟩ = some (.int .i64 gkind) := BG.cell 2
      have c3 : wr.cell? ⟨w2.heap.size, 3, none⟩ = some (.bool grep) := BG.cell 3
      have c4 : wr.cell? ⟨w2.heap.size, 4, none⟩ = some (.bool gpk) := BG.cell 4
      have c5 : wr.cell? ⟨w2.heap.size, 5, none⟩ = some (.int .i64 gof) := BG.cell 5
      have cl := BG.lt
      have y0 : wr.cell? ⟨w.heap.size, 0, none⟩ = some (.string ⟨#[]⟩) := B0.cell 0
      have y1 : wr.cell? ⟨w.heap.size, 1, none⟩ = some (.int .i64 0) := B0.cell 1
      have y2 : wr.cell? ⟨w.heap.size, 2, none⟩ = some (.int .i64 0) := B0.cell 2
      have y3 : wr.cell? ⟨w.heap.size, 3, none⟩ = some (.bool false) := B0.cell 3
      have y4 : wr.cell? ⟨w.heap.size, 4, none⟩ = some (.bool false) := B0.cell 4
      have y5 : wr.cell? ⟨w.heap.size, 5, none⟩ = some (.int .i64 0) := B0.cell 5
      have x0 := B0.free 0
      have x1 := B0.free 1
      have x2 := B0.free 2
      have x3 := B0.free 3
      have x4 := B0.free 4
      have x5 := B0.free 5
      have yl := B0.lt
      go_wp2
      refine bodyPost_ret (results_cell_tmp (ty := 43) rfl _ _ w.heap.size _ _ (0, 0) _ rfl (store6_blk (f := ⟨gn, gnum, gkind, grep, gpk, gof⟩) B0) Tryz.underlying43 rfl (by kernel_rfl)) rfl ?_
      exact ⟨rfl, store6_ext (f := ⟨gn, gnum, gkind, grep, gpk, gof⟩) (HX2.out.trans X) (Nat.le_refl _)⟩

end Go.Proofs.YtpicpebolghcfaaGreatDoor
