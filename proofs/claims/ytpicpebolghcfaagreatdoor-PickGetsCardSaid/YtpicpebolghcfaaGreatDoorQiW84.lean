/- Layer 22: the reference's pieces at a way. -/
import Derived.Test.YtpicpebolghcfaaGreatDoorQiW85
import Derived.BigQuiet

namespace Go.Proofs.YtpicpebolghcfaaGreatDoor
open Go.RowKit Go.Shelf
set_option linter.unusedVariables false
set_option linter.unusedSimpArgs false

theorem results_tmp_cell {P : Program} {fn : Func} {p u : Tmp} {ty : TypeId} (h : fn.results = #[.tmp u, .cell p ty]) (tmps : Array Value) (w : World) (g : Nat) (t : TypeId) (cs : Array Value) (fr : Nat × Nat) (d : TypeDesc)
    (hp : tmps.getD p undef = .pointer (some ⟨g, 0, none⟩)) (hg : w.heap[g]? = some (.cells cs t fr))
    (hu : P.underlying ty = some d) (hd : (match d with | .struct _ | .array _ _ => true | _ => false) = true) (hi : (P.info? ty).map (·.size) = some cs.size) :
    (results fn tmps).run P w = .ok (.tuple #[tmps.getD u undef, .agg cs]) w := by
  have hp' : tmps[p]?.getD undef = .pointer (some ⟨g, 0, none⟩) := by simpa using hp
  simp [results, h, hp', asAddr, run_loadVar_row w g t ty cs fr d hg hu hd hi]

theorem store6_same (w : World) (b : Nat) (f : FieldD) : Same (fun q => q ≠ b) w (store6 w b f) := by
  unfold store6
  exact (((((((Same.refl _ w).store _ (fun h => h rfl)).store _ (fun h => h rfl)).store _ (fun h => h rfl)).store _ (fun h => h rfl)).store _ (fun h => h rfl)).store _ (fun h => h rfl))

theorem pieces_stored {f : FieldD} {w wz W : World} {l : List BRow} {A : Option Addr} {n c B : Nat} {ps : List (List UInt8)} (hX : Ext w wz) (hb : BRowsAt wz A n c l) (hr : ∀ r ∈ l, BytesAt w r.A r.n r.c r.bs) (hp : bytesR l = ps) (hin : InS (fun q => B ≤ q) A) (hB : w.heap.size < B) (hW : Ext (store6 wz w.heap.size f) W) :
    PiecesPost f ps w (.returned (.tuple #[.slice A n c, fieldV f])) W := by
  have hE : Ext w (store6 wz w.heap.size f) := store6_ext hX (Nat.le_refl _)
  refine ⟨l, A, n, c, rfl, (rows_same hb (store6_same _ _ _) (fun _ a ha => ?_) (fun r h => (hr r h).ext hE)).up hW, hp, hE.trans hW, fun a ha => ?_⟩
  · have := hin a ha
    simp only at this ⊢
    omega
  · have := hin a ha
    simp only at this ⊢
    omega

theorem pieces_stored2 {f : FieldD} {w W6 : World} {l : List BRow} {A : Option Addr} {n c B : Nat} {ps : List (List UInt8)} (hX : Ext w W6) (hb : BRowsAt W6 A n c l) (hp : bytesR l = ps) (hin : InS (fun q => B ≤ q) A) (hB : w.heap.size < B) (BR : BlkT W6 w.heap.size 43 #[.string ⟨#[]⟩, .int .i64 0, .int .i64 0, .bool false, .bool false, .int .i64 0]) :
    PiecesPost f ps w (.returned (.tuple #[.slice A n c, fieldV f])) (store6 W6 w.heap.size f) := by
  refine ⟨l, A, n, c, rfl, rows_same hb (store6_same _ _ _) (fun _ a ha => ?_) (fun r hr => bytes_same (hb.2 r hr) (bytes_apart (hb.2 r hr) BR (fun j x h => ?_)) (store6_same _ _ _)), hp, store6_ext hX (Nat.le_refl _), fun a ha => ?_⟩
  · have := hin a ha
    simp only at this ⊢
    omega
  · rcases j with _ | _ | _ | _ | _ | _ | j <;> simp at h
  · have := hin a ha
    simp only at this ⊢
    omega

set_option maxRecDepth 100000 in
set_option maxHeartbeats 2000000 in
theorem rPiecesS {A B C : Option Addr} {n c nb cb k kc m : Nat} {S : List MsgV} {f g : FieldD} {x : Int} {rest : List Int} {bs : List UInt8} {ps : List (List UInt8)} {w : World} (hs : SchemaAt w A n c S) (hR : rightS (S.map MsgV.d) = true) (hm : m < n)
    (hf : fieldAt (S.map MsgV.d) m x = some f) (hb : BytesAt w B nb cb bs) (hnb : nb ≤ 1000000000) (hk : k = rest.length + 1) (hw : Reads w C k kc 1 ((x :: rest).map wyV)) (hk2 : k ≤ 1000)
    (h1 : rest = [] → g = f ∧ ps = piecesN (fieldsOf (S.map MsgV.d) m) bs x)
    (h2 : rest ≠ [] → ∀ (W : World) (A2 C2 : Option Addr) (m2 c2 k2 : Nat), Ext w W → BytesAt W A2 m2 c2 (piecesN (fieldsOf (S.map MsgV.d) m) bs x).flatten → Reads W C2 (k - 1) k2 1 (rest.map wyV) →
      Calls Tryz.prog 19 #[.slice A n c, .int .i64 f.of_, .slice A2 m2 c2, .slice C2 (k - 1) k2] W (PiecesPost g ps W)) :
    Calls Tryz.prog 19 #[.slice A n c, .int .i64 (m : Int), .slice B nb cb, .slice C k kc] w (PiecesPost g ps w) := by
  obtain ⟨cutA, hcut, hrest⟩ := cut_from elemWy hw .i64 (l := 1) (by omega)
  have hcut1 : ∀ W : World, (Instr.slice 34 (.slice C k kc) (some (.int .i64 1)) none none).run Tryz.prog W = .ok (.slice cutA (k - 1) (kc - 1)) W := hcut
  obtain ⟨wb, wo, rfl, hwb, hwc⟩ := hw.at_ (by omega)
  have w0 : w.cell? ⟨wb, wo, none⟩ = some (.int .i64 x) := hwc 0 _ rfl
  obtain ⟨sb, so, ⟨⟨Mn, Mf⟩, MA, Mk, Mc⟩, rfl, hM, hF, hMn, hsb, s0, s1⟩ := hs.msg hm
  simp only at hF hMn s0 s1
  have hM' : (S.map MsgV.d)[m]? = some ⟨Mn, Mf⟩ := by rw [List.getElem?_map, hM]; rfl
  have hFl := hF.length
  have hF2 := (right_msg hR hM').2.2.1
  simp only at hF2
  have hMk : Mk ≤ 1000000000000 := by omega
  rw [fieldsOf_some hM'] at h1 h2
  simp only at h1 h2
  obtain ⟨j, hj, hI⟩ := find_idx hM' hf
  simp only at hj hI
  have hby : ∀ W : World, FieldsAt W MA Mk Mc Mf → Calls Tryz.prog 42 #[.agg #[.string Mn, .slice MA Mk Mc], .int .i64 x] W fun e w' => e = .returned (.int .i64 (j : Nat)) ∧ Ext W w' := fun W h => by
    have := rFieldE (s := Mn) (x := x) h hMk hI
    exact this
  have hjl : j < Mk := by have := (List.getElem?_eq_some_iff.1 hj).1; omega
  have hji : (j : Int) < Mk := by omega
  have hmi : (m : Int) < n := by omega
  have hki : (0 : Int) < k := by omega
  have hk0 : 0 < k := by omega
  obtain ⟨fb, fo, f', rfl, hf', hok, hfb, c0, c1, c2', c3, c4, c5⟩ := hF.field hjl
  obtain rfl : f' = f := Option.some.inj (hf'.symm.trans hj)
  rcases hv : viewsV Mf bs with ⟨L, P, K⟩
  have hpn : piecesN Mf bs x = (L.filter (ofP x)).map (valueO bs) := by unfold piecesN; rw [hv]
  rw [hpn] at h1 h2
  have hbd : ∀ v ∈ L, v.r.a ≤ v.r.t ∧ v.r.t ≤ nb := fun v hvm => by
    have h := view_bd (fs := Mf) (bs := bs) (v := v) (by rw [hv]; exact hvm)
    have := hb.length
    omega
  have hVl : L.length ≤ nb := by
    have h := (viewsV_bd Mf bs).2.1
    rw [hv] at h
    have := hb.length
    simp only at h
    omega
  have hof := fun W (h : Ext w W) => vAllVR (s := Mn) (hF.up h) hMk (hb.up h) hnb hv
  have hfl : ∀ q, (((L.take q).filter (ofP x)).map (valueO bs)).flatten.length ≤ nb := by
    intro q
    have h := pieces_le_len Mf bs x
    rw [hpn, hb.length] at h
    rw [← List.take_append_drop q L, List.filter_append, List.map_append, List.flatten_append, List.length_append] at h
    omega
  have Hof := Lib.hid hof
  have Hby := Lib.hid hby
  have HFF := Lib.hid hF
  have Hs := Lib.hid hs
  have HB := Lib.hid hb
  have H1 := Lib.hid h1
  have H2 := Lib.hid h2
  have Hbd := Lib.hid hbd
  have Hcut := Lib.hid hcut1
  have Hrest := Lib.hid hrest
  have Hfl := Lib.hid hfl
  have Hk := Lib.hid hk
  have Hf' := Lib.hid hf'
  clear hof hby hF hs hb h1 h2 hbd hcut hcut1 hrest hfl hpn hv hj hI hf hM hM' hFl hF2 hok hwc hw hf' hk hR
  obtain ⟨fname, fnum, fkind, frep, fpk, fof⟩ := f'
  simp only at c0 c1 c2' c3 c4 c5
  go_enter Tryz.func19, Tryz.ntmps19
  have BR := BlkT.new w 43 #[.string ⟨#[]⟩, .int .i64 0, .int .i64 0, .bool false, .bool false, .int .i64 0] rfl
  go_wp2_with (go_at_call 37; refine (Hof.out _ (by repeat with_reducible (first | exact Ext.refl _ | refine Ext.alloc ?_ _ | refine Ext.drew ?_ | refine Ext.drewN ?_ _ | refine Ext.setCell ?_ (by first | exact Nat.le_refl _ | omega | (simp; done) | (simp; omega)) _))).mono ?_; rintro e w3 ⟨A3, c3', rfl, own3⟩)
  have X3 : Ext w w3 := Ext.trans (by repeat with_reducible (first | exact Ext.refl _ | refine Ext.alloc ?_ _ | refine Ext.drew ?_ | refine Ext.drewN ?_ _ | refine Ext.setCell ?_ (by first | exact Nat.le_refl _ | omega | (simp; done) | (simp; omega)) _)) own3.ext
  replace BR := BR.up own3.ext
  have Hlt3 := Lib.hid BR.lt
  have Hrd := Lib.hid own3.reads
  have hmax := Hrd.out.max
  replace w0 := X3.of_cell w0
  replace hwb := Nat.lt_of_lt_of_le hwb X3.size
  go_loopw [13, 14, 15] (fun t13 t14 t15 wr => ∃ (q : Nat) (A2 : Option Addr) (n2 c2 : Nat) (rows : List BRow) (A4 : Option Addr) (n4 c4 : Nat), q ≤ L.length ∧ t15 = .int .i64 q ∧ t13 = .slice A2 n2 c2 ∧ t14 = .slice A4 n4 c4 ∧ Own w3 wr 24 1 A2 n2 c2 (rows.map browV) ∧ Own w3 wr 5 1 A4 n4 c4 ((flatR rows).map bv) ∧ n2 ≤ q ∧ n4 ≤ nb ∧
      Hid ((∀ r ∈ rows, BytesAt w r.A r.n r.c r.bs) ∧ bytesR rows = ((L.take q).filter (ofP x)).map (valueO bs) ∧ n4 = (flatR rows).length))
    (fun _ _ i _ => L.length - (intOf i).toNat)
  case atStart => exact ⟨0, none, 0, 0, [], none, 0, 0, Nat.zero_le _, rfl, rfl, rfl, Own.nil (Ext.refl _) 24 1, Own.nil (Ext.refl _) 5 1, Nat.le_refl _, Nat.zero_le _, Lib.hid ⟨fun r hr => (by cases hr), rfl, rfl⟩⟩
  case round =>
    obtain ⟨q, A2, n2, k2, rows, A4, n4, k4, hq, rfl, rfl, rfl, own, ownj, hn2, hn4, hrows⟩ := hrel
    by_cases hlt : q < L.length
    · have hlt2 : (q : Int) < L.length := by omega
      obtain ⟨b, off, v, rfl, hv, hb1, d0, d1, d2, d3, d4, d5, d6⟩ := Hrd.out.view' hlt
      have hvb := Hbd.out v (List.mem_of_getElem? hv)
      obtain ⟨A9, hcut9, hb9⟩ := spanB_at10 HB.out hvb.1 hvb.2
      obtain ⟨⟨vn, vw, vf, va, vt⟩, vfi, vr⟩ := v
      simp only at d0 d1 d2 d3 d4 d5 d6 hvb hcut9 hb9
      have Hv := Lib.hid hv
      have Hb9 := Lib.hid hb9
      have e0 := own.ext.of_cell d0
      have e3 := own.ext.of_cell d3
      have e4 := own.ext.of_cell d4
      have eb := Nat.lt_of_lt_of_le hb1 own.ext.size
      have ew := own.ext.of_cell w0
      have ewb := Nat.lt_of_lt_of_le hwb own.ext.size
      clear hv hb9
      by_cases hx : (vn : Int) = x
      · have hx2 : ((vn : Int) == x) = true := by rw [beq_iff_eq]; exact hx
        have hfq : ((L.take (q + 1)).filter (ofP x)).map (valueO bs) = ((L.take q).filter (ofP x)).map (valueO bs) ++ [spanB bs va vt] := by
          rw [List.take_add_one, Hv.out, Option.toList_some, List.filter_append, List.map_append]
          simp [ofP, hx, valueO]
        have Hfq := Lib.hid hfq
        have hnew : n4 + (vt - va) ≤ nb := by
          have h := Hfl.out (q + 1)
          obtain ⟨_, h2, h3⟩ := hrows.out
          rw [hfq, ← h2, List.flatten_append, ← flat_rows, List.length_append, ← h3] at h
          have := Hb9.out.length
          simp at h
          omega
        have Hx := Lib.hid hx
        clear hx hfq
        go_wp2_with fail
        go_quiet (fail)
        go_wp2_with fail
        have Xq : Ext wr (wr.drewN nq) := (Ext.refl wr).drewN nq
        replace own := own.up Xq
        replace ownj := ownj.up Xq
        replace e3 := Xq.of_cell e3
        replace e4 := Xq.of_cell e4
        replace eb := Nat.lt_of_lt_of_le eb Xq.size
        clear e0 ew ewb d0 d1 d2 d5 d6 Xq
        generalize wr.drewN nq = wq at *
        go_region_law (first
          | (refine step_one elemBB (by rfl) (.tmp 43) (.tmp 58) (by rfl) (by rfl) own (by rfl) (by first | rfl | simp) (by rfl) (by omega) (by unfold maxLen; omega) ?_; intro A5 k5 w5 own5 g5; have j5 := ownj.beside own (by decide) (by repeat with_reducible (first | exact Ext.refl _ | refine Ext.alloc ?_ _ | refine Ext.drew ?_ | refine Ext.drewN ?_ _ | refine Ext.setCell ?_ (by first | exact Nat.le_refl _ | omega | (simp; done) | (simp; omega)) _)) g5 own5.ext))
        all_goals
          have f3 := own5.ext.of_cell d3
          have f4 := own5.ext.of_cell d4
          have fbl := Nat.lt_of_lt_of_le hb1 own5.ext.size
          have X5 : Ext w w5 := X3.trans own5.ext
          clear e3 e4 eb g5 own ownj
          go_simp
          go_wp2_with fail
          go_region_law (first
            | (refine step_more elemB (by rfl) (.tmp 60) (.tmp 74) (by rfl) (by rfl) (j5.up (by repeat with_reducible (first | exact Ext.refl _ | refine Ext.alloc ?_ _ | refine Ext.drew ?_ | refine Ext.drewN ?_ _ | refine Ext.setCell ?_ (by first | exact Nat.le_refl _ | omega | (simp; done) | (simp; omega)) _))) (by rfl) (Hb9.out.up (X5.trans (by repeat with_reducible (first | exact Ext.refl _ | refine Ext.alloc ?_ _ | refine Ext.drew ?_ | refine Ext.drewN ?_ _ | refine Ext.setCell ?_ (by first | exact Nat.le_refl _ | omega | (simp; done) | (simp; omega)) _)))) (bv_one _) (by omega) (by unfold maxLen; omega) ?_; intro A6 k6 w6 own6 g6; have o6 := own5.beside j5 (by decide) (by repeat with_reducible (first | exact Ext.refl _ | refine Ext.alloc ?_ _ | refine Ext.drew ?_ | refine Ext.drewN ?_ _ | refine Ext.setCell ?_ (by first | exact Nat.le_refl _ | omega | (simp; done) | (simp; omega)) _)) g6 own6.ext))
          all_goals
            go_simp
            go_wp2_with fail
            go_roundw
            case rel =>
              refine ⟨q + 1, A5, n2 + 1, k5, rows ++ [⟨A9, vt - va, cb - va, spanB bs va vt⟩], A6, n4 + (vt - va), k6, by omega, by go_num, rfl, rfl, by simpa [browV] using o6, by simpa [flatR] using own6, by omega, hnew, Lib.hid ⟨fun r hr => ?_, ?_, ?_⟩⟩
              · rcases List.mem_append.1 hr with hr | hr
                · exact hrows.out.1 r hr
                · rw [List.mem_singleton] at hr
                  subst hr
                  exact Hb9.out
              · have := hrows.out.2.1
                unfold bytesR at this ⊢
                rw [List.map_append, this, Hfq.out]
                rfl
              · have h1 := hrows.out.2.2
                have h2 := Hb9.out.length
                simp [flatR] at h1 h2 ⊢
                omega
            case measure => simp [intOf]; omega
      · have hx2 : ((vn : Int) == x) = false := by rw [beq_eq_false_iff_ne]; exact hx
        have hfq : (L.take (q + 1)).filter (ofP x) = (L.take q).filter (ofP x) := by
          rw [List.take_add_one, Hv.out, Option.toList_some, List.filter_append]
          simp [ofP, hx]
        have Hfq := Lib.hid hfq
        clear hx hfq
        go_wp2_with fail
        go_quiet (fail)
        go_wp2_with fail
        go_roundw
        case rel => exact ⟨q + 1, A2, n2, k2, rows, A4, n4, k4, by omega, by go_num, rfl, rfl, own.up (by repeat with_reducible (first | exact Ext.refl _ | refine Ext.alloc ?_ _ | refine Ext.drew ?_ | refine Ext.drewN ?_ _ | refine Ext.setCell ?_ (by first | exact Nat.le_refl _ | omega | (simp; done) | (simp; omega)) _)), ownj.up (by repeat with_reducible (first | exact Ext.refl _ | refine Ext.alloc ?_ _ | refine Ext.drew ?_ | refine Ext.drewN ?_ _ | refine Ext.setCell ?_ (by first | exact Nat.le_refl _ | omega | (simp; done) | (simp; omega)) _)), by omega, hn4, Lib.hid (by rw [Hfq.out]; exact hrows.out)⟩
        case measure => simp [intOf]; omega
    · have hqe : q = L.length := by omega
      subst hqe
      obtain ⟨r1, r2, r3⟩ := hrows.out
      rw [List.take_length] at r2
      have X4 := X3.trans own.ext
      replace c0 := X4.of_cell c0
      replace c1 := X4.of_cell c1
      replace c2' := X4.of_cell c2'
      replace c3 := X4.of_cell c3
      replace c4 := X4.of_cell c4
      replace c5 := X4.of_cell c5
      replace s0 := X4.of_cell s0
      replace s1 := X4.of_cell s1
      replace w0 := own.ext.of_cell w0
      replace hfb := Nat.lt_of_lt_of_le hfb X4.size
      replace hsb := Nat.lt_of_lt_of_le hsb X4.size
      replace hwb := Nat.lt_of_lt_of_le hwb own.ext.size
      replace BR := BR.up own.ext
      have hB : BRowsAt wr A2 n2 k2 rows := ⟨own.reads, fun r hr => (r1 r hr).ext X4⟩
      have hin := own_in own
      have hlt3 : w.heap.size < w3.heap.size := Hlt3.out
      have HJ := Lib.hid ownj.reads
      have HBs := Lib.hid hB
      have Hr1 := Lib.hid r1
      have Hr2 := Lib.hid r2
      have Hr3 := Lib.hid r3
      have HBR := Lib.hid BR
      have Hin := Lib.hid hin
      clear r1 r2 r3 own ownj hB hrows hmax BR Hrd hin
      go_wp2_with fail
      refine calmP (fun _ _ _ hd h => ⟨hd, h.2⟩) (preg10 hmi hki hk0 hji s0 s1 w0 c0 c1 c2' c3 c4 c5 (fun W h => Hby.out W (HFF.out.up (X4.trans h))) ?_)
      intro s16 s76 s77 s78 s79 s80 s81 s82 s83 s84 s85 s86 s87 s88 s89 s90 ka wz hs16 hka BK Ez
      subst hs16
      have HBK := Lib.hid BK
      have X6 := X4.trans Ez
      have y0 : wz.cell? ⟨w.heap.size, 0, none⟩ = some (.string ⟨#[]⟩) := (HBR.out.up Ez).cell 0
      have y1 : wz.cell? ⟨w.heap.size, 1, none⟩ = some (.int .i64 0) := (HBR.out.up Ez).cell 1
      have y2 : wz.cell? ⟨w.heap.size, 2, none⟩ = some (.int .i64 0) := (HBR.out.up Ez).cell 2
      have y3 : wz.cell? ⟨w.heap.size, 3, none⟩ = some (.bool false) := (HBR.out.up Ez).cell 3
      have y4 : wz.cell? ⟨w.heap.size, 4, none⟩ = some (.bool false) := (HBR.out.up Ez).cell 4
      have y5 : wz.cell? ⟨w.heap.size, 5, none⟩ = some (.int .i64 0) := (HBR.out.up Ez).cell 5
      have x0 := (HBR.out.up Ez).free 0
      have x1 := (HBR.out.up Ez).free 1
      have x2 := (HBR.out.up Ez).free 2
      have x3 := (HBR.out.up Ez).free 3
      have x4 := (HBR.out.up Ez).free 4
      have x5 := (HBR.out.up Ez).free 5
      have yl := (HBR.out.up Ez).lt
      have z0 : wz.cell? ⟨ka, 0, none⟩ = some (.string fname) := BK.cell 0
      have z1 : wz.cell? ⟨ka, 1, none⟩ = some (.int .i64 fnum) := BK.cell 1
      have z2 : wz.cell? ⟨ka, 2, none⟩ = some (.int .i64 fkind) := BK.cell 2
      have z3 : wz.cell? ⟨ka, 3, none⟩ = some (.bool frep) := BK.cell 3
      have z4 : wz.cell? ⟨ka, 4, none⟩ = some (.bool fpk) := BK.cell 4
      have z5 : wz.cell? ⟨ka, 5, none⟩ = some (.int .i64 fof) := BK.cell 5
      have zl := BK.lt
      clear BK c0 c1 c2' c3 c4 c5 s0 s1 w0 hfb hsb hwb
      by_cases hlast : rest = []
      · obtain ⟨rfl, rfl⟩ := H1.out hlast
        have q : ((k : Int) == 1) = true := by rw [beq_iff_eq]; have := Hk.out; rw [hlast] at this; simp at this; omega
        clear hlast
        go_wp2_with fail
        go_region_law (fail)
        all_goals
          go_simp
          go_wp2_with fail
          refine bodyPost_ret (results_tmp_cell (ty := 43) rfl _ _ w.heap.size _ _ (0, 0) _ rfl ((store6_blk (f := ⟨fname, fnum, fkind, frep, fpk, fof⟩) (HBR.out.up Ez)).up (Ext.refl _).drew) Tryz.underlying43 rfl (by kernel_rfl)) rfl ?_
          exact pieces_stored (f := ⟨fname, fnum, fkind, frep, fpk, fof⟩) X6 (HBs.out.up Ez) Hr1.out Hr2.out Hin.out hlt3 (Ext.refl _).drew
      · have hp := List.length_pos_iff.2 hlast
        have q : ((k : Int) == 1) = false := by rw [beq_eq_false_iff_ne]; have := Hk.out; omega
        have hrec := H2.out hlast
        have hflat : flatR rows = ((L.filter (ofP x)).map (valueO bs)).flatten := by rw [flat_rows, Hr2.out]
        rw [← hflat] at hrec
        have hrest1 : Reads w cutA (k - 1) (kc - 1) 1 (rest.map wyV) := by simpa using Hrest.out
        have Hrec := Lib.hid hrec
        have Hrest1 := Lib.hid hrest1
        obtain ⟨gn, gnum, gkind, grep, gpk, gof⟩ := g
        clear hlast hp hrec hrest1 hflat
        go_wp2_with fail
        refine calmP (fun _ _ _ hd h => ⟨hd, h.2⟩) (preg13 (gn := gn) (gnum := gnum) (gkind := gkind) (grep := grep) (gpk := gpk) (gof := gof) (ps := ps) z5 (HBR.out.up Ez) (fun W h => Hrec.out W A4 cutA n4 k4 (kc - 1) (X6.trans h) (BytesAt.up HJ.out (Ez.trans h)) (Hrest1.out.ext (X6.trans h))) Hcut.out ?_)
        intro s8 s96 s97 s98 s99 s100 s101 s102 s103 s104 A6 n6 c6 l6 W6 w7 h8 hw7 E7 B7 p7 i7
        subst hw7 h8
        go_wp2
        refine bodyPost_ret (results_tmp_cell (ty := 43) rfl _ _ w.heap.size _ _ (0, 0) _ rfl (store6_blk (f := ⟨gn, gnum, gkind, grep, gpk, gof⟩) ((HBR.out.up Ez).up E7)) Tryz.underlying43 rfl (by kernel_rfl)) rfl ?_
        exact pieces_stored2 (f := ⟨gn, gnum, gkind, grep, gpk, gof⟩) (X6.trans E7) B7 p7 i7 yl ((HBR.out.up Ez).up E7)

end Go.Proofs.YtpicpebolghcfaaGreatDoor
