/- Layer 15: the reference's At. -/
import Derived.Test.YtpicpebolghcfaaGreatDoorQjW95
import Derived.Test.YtpicpebolghcfaaGreatDoorQjW84

namespace Go.Proofs.YtpicpebolghcfaaGreatDoor
open Go.RowKit Go.Shelf
set_option linter.unusedVariables false
set_option linter.unusedSimpArgs false

def AtPost (way : List Int) (x : MsgR) (w : World) (e : Ending) (w' : World) : Prop :=
  ∃ (v : ValR) (ok : Bool), e = .returned (.tuple #[tvalV v, .bool ok]) ∧ Ext w w' ∧ ((ok = false ∧ atR way x = none) ∨ (ok = true ∧ atR way x = some v))

def zeroR : ValR := ⟨(none, 0), (none, 0), (none, 0), 0, [], [], []⟩

theorem alloc_next {w : World} {o p : Obj} {t : TypeId} {cs : Array Value} (h : p = .cells cs t) : BlkT ((w.alloc o).alloc p) (w.heap.size + 1) t cs := by
  subst h
  have : (w.alloc o).heap.size = w.heap.size + 1 := by simp
  rw [← this]
  exact BlkT.new _ _ _ rfl

set_option maxRecDepth 100000 in
set_option maxHeartbeats 4000000 in
theorem rAtS {x : MsgR} {C : Option Addr} {k kc : Nat} {N : Int} {l : List Int} {w : World} (hx : TreeAt w x) (hk : k = l.length + 1) (hw : Reads w C k kc 1 ((N :: l).map wyV)) (hk2 : k ≤ 1000) (hsol : solidM (N :: l) (bare x))
    (h2 : l ≠ [] → ∀ (y : MsgR) (W : World) (C2 : Option Addr) (k2 : Nat), TreeAt W y → solidM l (bare y) → Reads W C2 (k - 1) k2 1 (l.map wyV) → Calls Tryz.prog 13 #[treeV y, .slice C2 (k - 1) k2] W (AtPost l y W)) :
    Calls Tryz.prog 13 #[treeV x, .slice C k kc] w (AtPost (N :: l) x w) := by
  obtain ⟨cutA, hcut, hrest⟩ := cut_from elemWy hw .i64 (l := 1) (by omega)
  have hcut1 : ∀ W : World, (Instr.slice 34 (.slice C k kc) (some (.int .i64 1)) none none).run Tryz.prog W = .ok (.slice cutA (k - 1) (kc - 1)) W := hcut
  have hrest1 : Reads w cutA (k - 1) (kc - 1) 1 (l.map wyV) := by simpa using hrest
  obtain ⟨wb, wo, rfl, hwb, hwc⟩ := hw.at_ (by omega)
  have w0 : w.cell? ⟨wb, wo, none⟩ = some (.int .i64 N) := hwc 0 _ rfl
  have hki : (0 : Int) < k := by omega
  have hk0 : 0 < k := by omega
  have hget := fun W (h : Ext w W) => rGet (N := N) (hx.up h)
  have hmax := hx.vals.max
  have X0 : Ext w ((w.alloc (.cells #[.slice x.a.1 x.vals.length x.a.2, .slice x.b.1 x.unk.length x.b.2] 40)).alloc (.cells #[.int .i64 0, .slice none 0 0, .slice none 0 0, .slice none 0 0] 48)) := ((Ext.refl w).alloc _).alloc _
  have BX : BlkT ((w.alloc (.cells #[.slice x.a.1 x.vals.length x.a.2, .slice x.b.1 x.unk.length x.b.2] 40)).alloc (.cells #[.int .i64 0, .slice none 0 0, .slice none 0 0, .slice none 0 0] 48)) w.heap.size 40 #[.slice x.a.1 x.vals.length x.a.2, .slice x.b.1 x.unk.length x.b.2] := (BlkT.new w _ _ rfl).up ((Ext.refl _).alloc _)
  have BZ : BlkT ((w.alloc (.cells #[.slice x.a.1 x.vals.length x.a.2, .slice x.b.1 x.unk.length x.b.2] 40)).alloc (.cells #[.int .i64 0, .slice none 0 0, .slice none 0 0, .slice none 0 0] 48)) (w.heap.size + 1) 48 #[.int .i64 0, .slice none 0 0, .slice none 0 0, .slice none 0 0] := alloc_next rfl
  rcases idxB_cases (fun v : ValR => v.number == N) x.vals with ⟨hI, _⟩ | ⟨i, v, hI, hv, hp, _⟩
  · have hfind := find_of_idx.1 hI
    have hnone : atR (N :: l) x = none := by unfold atR; rw [hfind]
    rw [hI] at hget
    unfold treeV at hget ⊢
    have Hget := Lib.hid hget
    have HN := Lib.hid hnone
    clear hget hnone hfind hI h2 hsol hx hcut hcut1 hrest hrest1 hw hwc
    go_enter Tryz.func13, Tryz.ntmps13
    go_upto_region 1 with fail
    generalize (w.alloc (.cells #[.slice x.a.1 x.vals.length x.a.2, .slice x.b.1 x.unk.length x.b.2] 40)).alloc (.cells #[.int .i64 0, .slice none 0 0, .slice none 0 0, .slice none 0 0] 48) = w2 at *
    have x0 : w2.cell? ⟨w.heap.size, 0, none⟩ = some (.slice x.a.1 x.vals.length x.a.2) := BX.cell 0
    have x1 : w2.cell? ⟨w.heap.size, 1, none⟩ = some (.slice x.b.1 x.unk.length x.b.2) := BX.cell 1
    have xl := BX.lt
    replace w0 := X0.of_cell w0
    replace hwb := Nat.lt_of_lt_of_le hwb X0.size
    go_region_law (go_simp; go_at_call 43; refine (Hget.out _ (X0.trans (by repeat with_reducible (first | exact Ext.refl _ | refine Ext.alloc ?_ _ | refine Ext.drew ?_ | refine Ext.drewN ?_ _ | refine Ext.setCell ?_ (by first | exact Nat.le_refl _ | omega | (simp; done) | (simp; omega)) _)))).mono ?_; rintro e w3 ⟨rfl, E3⟩; have X3 : Ext w2 w3 := Ext.trans (by repeat with_reducible (first | exact Ext.refl _ | refine Ext.alloc ?_ _ | refine Ext.drew ?_ | refine Ext.drewN ?_ _ | refine Ext.setCell ?_ (by first | exact Nat.le_refl _ | omega | (simp; done) | (simp; omega)) _)) E3)
    all_goals
      go_simp
      have B3 := BZ.up X3
      have y0 : w3.cell? ⟨w.heap.size + 1, 0, none⟩ = some (.int .i64 0) := B3.cell 0
      have y1 : w3.cell? ⟨w.heap.size + 1, 1, none⟩ = some (.slice none 0 0) := B3.cell 1
      have y2 : w3.cell? ⟨w.heap.size + 1, 2, none⟩ = some (.slice none 0 0) := B3.cell 2
      have y3 : w3.cell? ⟨w.heap.size + 1, 3, none⟩ = some (.slice none 0 0) := B3.cell 3
      have f0 := B3.free 0
      have f1 := B3.free 1
      have f2 := B3.free 2
      have f3 := B3.free 3
      have yl := B3.lt
      go_wp2
      refine bodyPost_ret (results_cell_tmp (ty := 48) rfl _ _ (w.heap.size + 1) _ _ (0, 0) _ rfl (store4_blk (v := zeroR) (u := zeroR) B3) Tryz.underlying48 rfl (by kernel_rfl)) rfl ?_
      exact ⟨zeroR, false, rfl, store4_ext (v := zeroR) (X0.trans X3) (Nat.le_succ _), .inl ⟨rfl, HN.out⟩⟩
  · have hfind := find_of_idx.2 i v hI hv
    have hil : i < x.vals.length := (List.getElem?_eq_some_iff.1 hv).1
    rw [hI] at hget
    obtain ⟨vb, vo, v', hA, hv', hvb, d0, d1, d2, d3⟩ := valCells hx.vals hil
    obtain rfl : v' = v := Option.some.inj (hv'.symm.trans hv)
    have hvin := List.mem_of_getElem? hv
    have hsub := hx.sub v' hvin
    have hown := hx.each v' hvin
    unfold treeV at hget ⊢
    rw [hA] at hget BX BZ X0 ⊢
    have Hget := Lib.hid hget
    have hin : (i : Int) < x.vals.length := by omega
    have hineg : ¬ (i : Int) < 0 := by omega
    generalize x.vals.length = vn at *
    by_cases hl : l = []
    · subst hl
      have hat : atR [N] x = some v' := by unfold atR; rw [hfind]; rfl
      have HAt := Lib.hid hat
      have hk1 : ((k : Int) == 1) = true := by rw [beq_iff_eq]; simp at hk; omega
      clear hget hat hfind hI h2 hsol hx hcut hcut1 hrest hrest1 hw hwc hv hv' hA hsub hown hvin hp
      go_enter Tryz.func13, Tryz.ntmps13
      go_upto_region 1 with fail
      generalize (w.alloc (.cells #[.slice (some ⟨vb, vo, none⟩) vn x.a.2, .slice x.b.1 x.unk.length x.b.2] 40)).alloc (.cells #[.int .i64 0, .slice none 0 0, .slice none 0 0, .slice none 0 0] 48) = w2 at *
      have x0 : w2.cell? ⟨w.heap.size, 0, none⟩ = some (.slice (some ⟨vb, vo, none⟩) vn x.a.2) := BX.cell 0
      have x1 : w2.cell? ⟨w.heap.size, 1, none⟩ = some (.slice x.b.1 x.unk.length x.b.2) := BX.cell 1
      have xl := BX.lt
      replace w0 := X0.of_cell w0
      replace hwb := Nat.lt_of_lt_of_le hwb X0.size
      go_region_law (go_simp; go_at_call 43; refine (Hget.out _ (X0.trans (by repeat with_reducible (first | exact Ext.refl _ | refine Ext.alloc ?_ _ | refine Ext.drew ?_ | refine Ext.drewN ?_ _ | refine Ext.setCell ?_ (by first | exact Nat.le_refl _ | omega | (simp; done) | (simp; omega)) _)))).mono ?_; rintro e w3 ⟨rfl, E3⟩; have X3 : Ext w2 w3 := Ext.trans (by repeat with_reducible (first | exact Ext.refl _ | refine Ext.alloc ?_ _ | refine Ext.drew ?_ | refine Ext.drewN ?_ _ | refine Ext.setCell ?_ (by first | exact Nat.le_refl _ | omega | (simp; done) | (simp; omega)) _)) E3)
      all_goals
        go_simp
        have B3 := BZ.up X3
        have y0 : w3.cell? ⟨w.heap.size + 1, 0, none⟩ = some (.int .i64 0) := B3.cell 0
        have y1 : w3.cell? ⟨w.heap.size + 1, 1, none⟩ = some (.slice none 0 0) := B3.cell 1
        have y2 : w3.cell? ⟨w.heap.size + 1, 2, none⟩ = some (.slice none 0 0) := B3.cell 2
        have y3 : w3.cell? ⟨w.heap.size + 1, 3, none⟩ = some (.slice none 0 0) := B3.cell 3
        have f0 := B3.free 0
        have f1 := B3.free 1
        have f2 := B3.free 2
        have f3 := B3.free 3
        have yl := B3.lt
        replace x0 := X3.of_cell x0
        replace xl := Nat.lt_of_lt_of_le xl X3.size
        have X4 := X0.trans X3
        replace d0 := X4.of_cell d0
        replace d1 := X4.of_cell d1
        replace d2 := X4.of_cell d2
        replace d3 := X4.of_cell d3
        replace hvb := Nat.lt_of_lt_of_le hvb X4.size
        go_wp2
        refine bodyPost_ret (results_cell_tmp (ty := 48) rfl _ _ (w.heap.size + 1) _ _ (0, 0) _ rfl (store4_blk (v := v') (u := zeroR) B3) Tryz.underlying48 rfl (by kernel_rfl)) rfl ?_
        exact ⟨v', true, rfl, store4_ext (v := v') X4 (Nat.le_succ _), .inr ⟨rfl, HAt.out⟩⟩
    · obtain ⟨y, ys, hvs, hsy⟩ := solid_sub hsol hl hfind
      have hat : atR (N :: l) x = atR l y := by
        conv => lhs; unfold atR
        rw [hfind]
        simp only [if_neg hl, hvs]
      have hy := hsub y (by rw [hvs]; exact List.mem_cons_self)
      have hsl : 0 < v'.subs.length := by rw [hvs]; simp
      obtain ⟨sb, so, y', hB, hy', hsb, g0, g1⟩ := treeCells hown.subs hsl
      obtain rfl : y' = y := by
        rw [hvs] at hy'
        exact (Option.some.inj hy').symm
      have hsl2 : (0 : Int) < v'.subs.length := by omega
      rw [hB] at d3
      have hrec := fun (W : World) (h : Ext w W) => h2 hl y' W cutA (kc - 1) (hy.up h) hsy (hrest1.ext h)
      unfold AtPost treeV at hrec
      have HAt := Lib.hid hat
      have Hrec := Lib.hid hrec
      have Hcut := Lib.hid hcut1
      have hk1 : ((k : Int) == 1) = false := by
        rw [beq_eq_false_iff_ne]
        have := List.length_pos_iff.2 hl
        omega
      simp only [Nat.zero_mul, Nat.add_zero, Nat.zero_add] at g0 g1
      generalize hsn : v'.subs.length = sn at *
      clear hget hat hfind hI h2 hsol hx hcut hcut1 hrest hrest1 hw hwc hv hv' hA hsub hown hvin hp hsn hrec hy hy' hB hvs hsy hk
      go_enter Tryz.func13, Tryz.ntmps13
      go_upto_region 1 with fail
      generalize (w.alloc (.cells #[.slice (some ⟨vb, vo, none⟩) vn x.a.2, .slice x.b.1 x.unk.length x.b.2] 40)).alloc (.cells #[.int .i64 0, .slice none 0 0, .slice none 0 0, .slice none 0 0] 48) = w2 at *
      have x0 : w2.cell? ⟨w.heap.size, 0, none⟩ = some (.slice (some ⟨vb, vo, none⟩) vn x.a.2) := BX.cell 0
      have x1 : w2.cell? ⟨w.heap.size, 1, none⟩ = some (.slice x.b.1 x.unk.length x.b.2) := BX.cell 1
      have xl := BX.lt
      replace w0 := X0.of_cell w0
      replace hwb := Nat.lt_of_lt_of_le hwb X0.size
      go_region_law (go_simp; go_at_call 43; refine (Hget.out _ (X0.trans (by repeat with_reducible (first | exact Ext.refl _ | refine Ext.alloc ?_ _ | refine Ext.drew ?_ | refine Ext.drewN ?_ _ | refine Ext.setCell ?_ (by first | exact Nat.le_refl _ | omega | (simp; done) | (simp; omega)) _)))).mono ?_; rintro e w3 ⟨rfl, E3⟩; have X3 : Ext w2 w3 := Ext.trans (by repeat with_reducible (first | exact Ext.refl _ | refine Ext.alloc ?_ _ | refine Ext.drew ?_ | refine Ext.drewN ?_ _ | refine Ext.setCell ?_ (by first | exact Nat.le_refl _ | omega | (simp; done) | (simp; omega)) _)) E3)
      all_goals
        go_simp
        have B3 := BZ.up X3
        replace x0 := X3.of_cell x0
        have X4 := X0.trans X3
        replace d3 := X4.of_cell d3
        replace g0 := X4.of_cell g0
        replace g1 := X4.of_cell g1
        have HB3 := Lib.hid B3
        clear B3
        go_wp2_with fail
        refine calmP (fun _ _ _ hd h => ⟨hd, h.2⟩) (areg6 (PA := fun v ok => (ok = false ∧ atR l y' = none) ∨ (ok = true ∧ atR l y' = some v)) hin hsl hsl2 x0 d3 g0 g1 HB3.out (fun W h => Hrec.out W (X4.trans h)) Hcut.out ?_)
        intro s5 s23 s24 s25 s26 s27 s28 s29 s30 s31 s32 s33 s34 s35 v ok W6 wz h5 hpa hwz X6
        subst h5 hwz
        go_wp2
        refine bodyPost_ret (results_cell_tmp (ty := 48) rfl _ _ (w.heap.size + 1) _ _ (0, 0) _ rfl (store4_blk (v := v) (u := zeroR) (HB3.out.up X6)) Tryz.underlying48 rfl (by kernel_rfl)) rfl ?_
        exact ⟨v, ok, rfl, store4_ext (v := v) (X4.trans X6) (Nat.le_succ _), by rw [HAt.out]; exact hpa⟩

theorem rAt : ∀ (way : List Int) {x : MsgR} {C : Option Addr} {kc : Nat} {w : World}, way ≠ [] → TreeAt w x → solidM way (bare x) → Reads w C way.length kc 1 (way.map wyV) → way.length ≤ 1000 →
    Calls Tryz.prog 13 #[treeV x, .slice C way.length kc] w (AtPost way x w)
  | [], x, C, kc, w, h, _, _, _, _ => absurd rfl h
  | N :: l, x, C, kc, w, _, hx, hs, hw, hk => by
    have ih := fun {x : MsgR} {C : Option Addr} {kc : Nat} {w : World} a b c d e => rAt l (x := x) (C := C) (kc := kc) (w := w) a b c d e
    refine rAtS hx rfl hw hk hs (fun hl y W C2 k2 hy hsy hr => ?_)
    exact ih hl hy hsy hr (by simp at hk; omega)

end Go.Proofs.YtpicpebolghcfaaGreatDoor
