/- The walk of the law ViewParts, out of its callees' contracts. -/
import Derived.Test.YtlmmlmmadgcmcaaW10h
import Derived.Test.YtlmmlmmadgcmcaaKViewLooks
namespace Go.Proofs.Ytlmmlmmadgcmcaa
open Go.RowKit Go.Shelf
set_option linter.unusedVariables false

/-- How many ahead are so. -/
def cnt {α : Type} (p : α → Bool) (l : List α) (k : Nat) : Nat := ((l.take k).filter p).length

theorem cnt_succ {α : Type} {p : α → Bool} {l : List α} {k : Nat} {x : α} (h : l[k]? = some x) : cnt p l (k + 1) = cnt p l k + (if p x = true then 1 else 0) := by
  unfold cnt
  rw [take_filter h, List.length_append]
  split <;> simp

theorem cnt_le {α : Type} (p : α → Bool) (l : List α) (k : Nat) : cnt p l k ≤ k ∧ cnt p l k ≤ (l.filter p).length := by
  constructor
  · unfold cnt
    have h1 := List.length_filter_le p (l.take k)
    rw [List.length_take] at h1
    omega
  · unfold cnt
    have h := congrArg (fun t => (t.filter p).length) (List.take_append_drop k l)
    simp only [List.filter_append, List.length_append] at h
    omega

theorem cnt_all {α : Type} (p : α → Bool) (l : List α) : cnt p l l.length = (l.filter p).length := by unfold cnt; rw [List.take_length]

theorem filter_get {α : Type} {p : α → Bool} {l : List α} {k : Nat} {x : α} (h : l[k]? = some x) (hp : p x = true) : (l.filter p)[cnt p l k]? = some x := by
  have hlt := (List.getElem?_eq_some_iff.1 h).1
  have hsp : l = l.take k ++ x :: l.drop (k + 1) := by
    have : l[k]'hlt = x := (List.getElem?_eq_some_iff.1 h).2
    rw [← this, ← List.drop_eq_getElem_cons hlt, List.take_append_drop]
  have hf : l.filter p = (l.take k).filter p ++ x :: (l.drop (k + 1)).filter p := by
    conv => lhs; rw [hsp]
    rw [List.filter_append, List.filter_cons_of_pos hp]
  rw [hf]
  unfold cnt
  rw [List.getElem?_append_right (Nat.le_refl _), Nat.sub_self]
  rfl

/-- A view's field is -1 or a place. -/
theorem seen_field {l : List FieldD} {r : Rec} {v : ViewD} (h : seenV l r = (v, 0)) : v.field = -1 ∨ 0 ≤ v.field := by
  rcases idxB_cases (numP (r.n : Int)) l with ⟨h1, _⟩ | ⟨k, f, h1, h2, _⟩
  · rw [seenV_none h1] at h; cases h; exact .inl rfl
  · rw [seenV_some h1 h2] at h
    split at h
    · cases h; exact .inr (by simp)
    · split at h
      · cases h; exact .inr (by simp)
      · cases h

theorem rows_get {w0 w : World} {eb : TypeId} {vs : List Value} {bs : List UInt8} {L : List ViewD} {k : Nat} {v : ViewD} (h : Rows w0 w eb vs (unkB bs L)) (hv : L[k]? = some v) (hp : unkP v = true) :
    ∃ A n c, vs[cnt unkP L k]? = some (.slice A n c) ∧ Own w0 w eb 1 A n c ((spanB bs v.r.f v.r.t).map bv) := by
  have hg := filter_get hv hp
  obtain ⟨A, n, c, h1, h2, h3⟩ := h.row (cnt unkP L k) (spanB bs v.r.f v.r.t) (by unfold unkB; rw [List.getElem?_map, hg]; rfl)
  exact ⟨A, n, c, h1, h3⟩

theorem Rows.since {w00 w0 w : World} {eb : TypeId} {vs : List Value} {rows : List (List UInt8)} (h : Rows w0 w eb vs rows) (hE : Ext w00 w0) : Rows w00 w eb vs rows :=
  ⟨h.len, fun i r hr => by
    obtain ⟨A, n, c, h1, h2, h3⟩ := h.row i r hr
    exact ⟨A, n, c, h1, h2, h3.since hE⟩⟩

theorem unkB_length (bs : List UInt8) (L : List ViewD) : (unkB bs L).length = (L.filter unkP).length := by unfold unkB; simp

-- the walk (printed by gen_viewparts.py)

set_option maxRecDepth 100000 in
set_option maxHeartbeats 2000000 in
theorem viewParts_walk {s : ByteArray} {A B : Option Addr} {n c m d : Nat} {l : List FieldD} {bs : List UInt8} {x : Int} {w : World} (hf : FieldsAt w A n c l) (hb : BytesAt w B m d bs) (hp : -9223372036854775808 ≤ x ∧ x < 9223372036854775808) :
    Calls Try.prog 12 #[.agg #[.string s, .slice A n c], .slice B m d, .int .i64 x] w fun e w' => e = .returned (.bool true) ∧ Ext w w' := by
  have hmax := Reads.max hb
  have hcap := Reads.cap hb
  have hmax2 := Reads.max hf.1
  have hcap2 := Reads.cap hf.1
  unfold maxLen at hmax hmax2
  have hE := Ext.refl w
  by_cases hn : (300 : Int) < n
  · go_enter Try.func12, Try.ntmps12
    go_wp2_with (first | (go_at_call 23; refine (alive10 _).mono ?_; rintro e w1 ⟨rfl, E1⟩; have BM := E1.new_blk; have X_ : Ext w w1 := Ext.trans (by repeat with_reducible (first | exact Ext.refl _ | refine Ext.alloc ?_ _ | refine Ext.drew ?_ | refine Ext.drewN ?_ _ | refine Ext.setCell ?_ (by first | exact Nat.le_refl _ | omega | (simp; done) | (simp; omega)) _)) E1; replace hf := hf.up X_; replace hb := hb.up X_; replace hE := hE.up X_; clear X_; have m0 : w1.cell? ⟨w.heap.size, 0, none⟩ = some (.string s) := BM.cell 0;  have m1 : w1.cell? ⟨w.heap.size, 1, none⟩ = some (.slice A n c) := BM.cell 1;  have ml := BM.lt) | (go_at_call 24; refine (lawWide).mono ?_; rintro e w2 ⟨rfl, E2⟩; have X_ : Ext w1 w2 := Ext.trans (by repeat with_reducible (first | exact Ext.refl _ | refine Ext.alloc ?_ _ | refine Ext.drew ?_ | refine Ext.drewN ?_ _ | refine Ext.setCell ?_ (by first | exact Nat.le_refl _ | omega | (simp; done) | (simp; omega)) _)) E2; replace hE := hE.up X_; clear X_))
    go_ret
    exact ⟨rfl, hE⟩
  · by_cases hm : (2000 : Int) < m
    · go_enter Try.func12, Try.ntmps12
      go_wp2_with (first | (go_at_call 23; refine (alive10 _).mono ?_; rintro e w1 ⟨rfl, E1⟩; have BM := E1.new_blk; have X_ : Ext w w1 := Ext.trans (by repeat with_reducible (first | exact Ext.refl _ | refine Ext.alloc ?_ _ | refine Ext.drew ?_ | refine Ext.drewN ?_ _ | refine Ext.setCell ?_ (by first | exact Nat.le_refl _ | omega | (simp; done) | (simp; omega)) _)) E1; replace hf := hf.up X_; replace hb := hb.up X_; replace hE := hE.up X_; clear X_; have m0 : w1.cell? ⟨w.heap.size, 0, none⟩ = some (.string s) := BM.cell 0;  have m1 : w1.cell? ⟨w.heap.size, 1, none⟩ = some (.slice A n c) := BM.cell 1;  have ml := BM.lt) | (go_at_call 24; refine (lawWide).mono ?_; rintro e w2 ⟨rfl, E2⟩; have X_ : Ext w1 w2 := Ext.trans (by repeat with_reducible (first | exact Ext.refl _ | refine Ext.alloc ?_ _ | refine Ext.drew ?_ | refine Ext.drewN ?_ _ | refine Ext.setCell ?_ (by first | exact Nat.le_refl _ | omega | (simp; done) | (simp; omega)) _)) E2; replace hE := hE.up X_; clear X_))
      go_ret
      exact ⟨rfl, hE⟩
    · rcases hv : viewsV l bs with ⟨L, P, D⟩
      have hD := viewsV_le l bs
      have hvb := viewsV_bd l bs
      have heach := viewsV_each l bs
      rw [hv] at hD hvb heach
      rw [hb.length] at hvb
      simp only at hD hvb heach
      have hLl := hvb.2.1
      have Hv := Lib.hid hv
      have Heach := Lib.hid heach
      clear hv hvb heach
      have hcn := fun k => cnt_le (ofP x) L k
      have hcu := fun k => cnt_le unkP L k
      have Hcn := Lib.hid hcn
      have Hcu := Lib.hid hcu
      have hul := unkB_length bs L
      have Hul := Lib.hid hul
      clear hcn hcu hul
      go_enter Try.func12, Try.ntmps12
      go_upto_region 6 with (first
        | (go_at_call 23; refine (alive10 _).mono ?_; rintro e w1 ⟨rfl, E1⟩; have BM := E1.new_blk; have X_ : Ext w w1 := Ext.trans (by repeat with_reducible (first | exact Ext.refl _ | refine Ext.alloc ?_ _ | refine Ext.drew ?_ | refine Ext.drewN ?_ _ | refine Ext.setCell ?_ (by first | exact Nat.le_refl _ | omega | (simp; done) | (simp; omega)) _)) E1; replace hf := hf.up X_; replace hb := hb.up X_; replace hE := hE.up X_; clear X_; have m0 : w1.cell? ⟨w.heap.size, 0, none⟩ = some (.string s) := BM.cell 0;  have m1 : w1.cell? ⟨w.heap.size, 1, none⟩ = some (.slice A n c) := BM.cell 1;  have ml := BM.lt)
        | (go_at_call 24; refine (lawWide).mono ?_; rintro e w2 ⟨rfl, E2⟩; have X_ : Ext w1 w2 := Ext.trans (by repeat with_reducible (first | exact Ext.refl _ | refine Ext.alloc ?_ _ | refine Ext.drew ?_ | refine Ext.drewN ?_ _ | refine Ext.setCell ?_ (by first | exact Nat.le_refl _ | omega | (simp; done) | (simp; omega)) _)) E2; replace hf := hf.up X_; replace hb := hb.up X_; replace hE := hE.up X_; replace BM := BM.up X_; clear X_; replace m0 : w2.cell? ⟨w.heap.size, 0, none⟩ = some (.string s) := BM.cell 0;  replace m1 : w2.cell? ⟨w.heap.size, 1, none⟩ = some (.slice A n c) := BM.cell 1;  replace ml := BM.lt)
        | (go_at_call 28; refine (vAllVR hf (by omega) hb (by omega) Hv.out).mono ?_; rintro e w5 ⟨A5, c5, rfl, own5⟩; have X_ : Ext w2 w5 := Ext.trans (by repeat with_reducible (first | exact Ext.refl _ | refine Ext.alloc ?_ _ | refine Ext.drew ?_ | refine Ext.drewN ?_ _ | refine Ext.setCell ?_ (by first | exact Nat.le_refl _ | omega | (simp; done) | (simp; omega)) _)) own5.ext; replace hf := hf.up X_; replace hb := hb.up X_; replace hE := hE.up X_; replace BM := BM.up X_; clear X_; replace m0 : w5.cell? ⟨w.heap.size, 0, none⟩ = some (.string s) := BM.cell 0;  replace m1 : w5.cell? ⟨w.heap.size, 1, none⟩ = some (.slice A n c) := BM.cell 1;  replace ml := BM.lt))
      go_cut [10, 11] (fun a b wz => ∃ A6 c6 A7 c7 vs7, a = .slice A6 (L.filter (ofP x)).length c6 ∧ b = .slice A7 (unkB bs L).length c7 ∧ Own w5 wz 48 7 A6 (L.filter (ofP x)).length c6 ((L.filter (ofP x)).flatMap viewC) ∧ Own w5 wz 43 1 A7 (unkB bs L).length c7 vs7 ∧ Rows w5 wz 5 vs7 (unkB bs L) ∧ Ext w5 wz)
      case first =>
        go_region_held3 (fun W => Ext w5 W ∧ ∀ b o, b < w5.heap.size → W.cell? ⟨b, o, none⟩ = w5.cell? ⟨b, o, none⟩) ((refine Ext.keep ?_; repeat with_reducible (first | assumption | exact Ext.refl _ | refine Ext.alloc ?_ _ | refine Ext.drew ?_ | refine Ext.drewN ?_ _ | refine Ext.setCell ?_ (by first | exact Nat.le_refl _ | omega | (simp; done) | (simp; omega)) _)))
          (first
            | (go_split_ands; go_at_call 49; refine (vOf (hf.up (by with_reducible assumption)) (by omega) (hb.up (by with_reducible assumption)) (by omega) Hv.out).mono ?_; rintro e w6 ⟨A6, c6, rfl, own6⟩; have q0 : Ext w5 w6 := Ext.trans (by with_reducible assumption) own6.ext; replace own6 := own6.since (show Ext w5 _ from (by with_reducible assumption)); try (replace own7 := own7.up own6.ext; replace rows7 := rows7.up own6.ext))
            | (go_split_ands; go_at_call 47; refine (vUnknown (hf.up (by with_reducible assumption)) (by omega) (hb.up (by with_reducible assumption)) (by omega) Hv.out).mono ?_; rintro e w7 ⟨A7, c7, vs7, rfl, own7, rows7⟩; have q1 : Ext w5 w7 := Ext.trans (by with_reducible assumption) own7.ext; try (replace own6 := own6.up own7.ext); replace rows7 := rows7.since (show Ext w5 _ from (by with_reducible assumption)); replace own7 := own7.since (show Ext w5 _ from (by with_reducible assumption))))
        all_goals
          go_wp2_with fail
          go_meet
          exact ⟨A6, c6, A7, c7, vs7, rfl, rfl, own6, own7, rows7, by with_reducible assumption⟩
      case rest =>
       obtain ⟨A6, c6, A7, c7, vs7, rfl, rfl, own6, own7, rows7, X5⟩ := hcut
       have BMc := BM.up X5
       replace m0 : wc.cell? ⟨w.heap.size, 0, none⟩ = some (.string s) := BMc.cell 0
       replace m1 : wc.cell? ⟨w.heap.size, 1, none⟩ = some (.slice A n c) := BMc.cell 1
       replace ml := BMc.lt
       go_wp2_with (first
        | (go_at_call 46; refine (vDrop (hf.up X5) (by omega) (hb.up X5) (by omega) Hv.out).mono ?_; rintro e w8 ⟨A8, c8, rfl, own8⟩; have X_ : Ext wc w8 := Ext.trans (by repeat with_reducible (first | exact Ext.refl _ | refine Ext.alloc ?_ _ | refine Ext.drew ?_ | refine Ext.drewN ?_ _ | refine Ext.setCell ?_ (by first | exact Nat.le_refl _ | omega | (simp; done) | (simp; omega)) _)) own8.ext; replace own6 := own6.up X_; replace own7 := own7.up X_; replace rows7 := rows7.up X_; replace X5 := X5.up X_; have X8 := X_; clear X_; have hE8 := hE.trans X5;  have BM8 := BM.up X5;  replace m0 : w8.cell? ⟨w.heap.size, 0, none⟩ = some (.string s) := BM8.cell 0;  replace m1 : w8.cell? ⟨w.heap.size, 1, none⟩ = some (.slice A n c) := BM8.cell 1;  replace ml := BM8.lt))
       go_loopw [14, 15, 16, 17] (fun a b u i wr => ∃ (k : Nat) (A2 : Option Addr) (c2 : Nat), k ≤ L.length ∧ i = .int .i64 k ∧ a = .int .i64 (cnt (ofP x) L k : Nat) ∧ b = .int .i64 (cnt unkP L k : Nat) ∧ u = .slice A2 (keptB bs knownP (L.take k)).length c2 ∧ Own w8 wr 5 1 A2 (keptB bs knownP (L.take k)).length c2 ((keptB bs knownP (L.take k)).map bv)) (fun _ _ _ i _ => L.length - (intOf i).toNat)
       case atStart => exact ⟨0, none, 0, Nat.zero_le _, rfl, rfl, rfl, rfl, Own.nil (Ext.refl _) 5 1⟩
       case round =>
        obtain ⟨k, A2, c2, hk, rfl, rfl, rfl, rfl, own⟩ := hrel
        have hEr := hE8.trans own.ext
        by_cases hlt : k < L.length
        · have hlt2 : (k : Int) < L.length := by omega
          obtain ⟨b, off, v, rfl, hv, hb1, d0, d1, d2, d3, d4, d5, d6⟩ := (own5.up (X5.trans own.ext)).reads.view' hlt
          have hev := Heach.out v (List.mem_of_getElem? hv)
          have hnx := nextV_ok hev.1
          have hfd := seen_field hev.2
          rw [hb.length] at hnx
          have hsn := keptB_snoc (bs := bs) (q := knownP) hv
          have hle := keptB_le bs knownP (L.take k)
          rw [hb.length] at hle
          have hle2 : (keptB bs knownP (L.take k)).length ≤ 10000000 := by
            have h1 : (L.take k).length ≤ 2000 := by rw [List.length_take]; omega
            have h2 : m ≤ 2000 := by omega
            have := Nat.mul_le_mul h1 h2
            omega
          have hc1 := cnt_succ (p := ofP x) hv
          have hc2 := cnt_succ (p := unkP) hv
          have hb1' := (Hcn.out k).1
          have hb2' := (Hcu.out k).1
          have hgo := fun h => filter_get (p := ofP x) hv h
          have hft : v.r.f ≤ v.r.t := by omega
          have htm : v.r.t ≤ m := by omega
          obtain ⟨A9, hcut, hb9⟩ := spanB_at10 (hb.up (X5.trans own.ext)) hft htm
          have hsl := hb9.length
          have hgu := fun h => rows_get rows7 hv h
          obtain ⟨⟨vn, vw, vf, va, vt⟩, vfi, vr⟩ := v
          simp only at d0 d1 d2 d3 d4 d5 d6 hft htm hsl hfd hcut
          have Hsn := Lib.hid hsn
          have Hsl := Lib.hid hsl
          have Hc1 := Lib.hid hc1
          have Hc2 := Lib.hid hc2
          have Hgo := Lib.hid hgo
          have Hgu := Lib.hid hgu
          have hfi : (vf : Int) ≤ vt := by omega
          have hti : (vt : Int) ≤ m := by omega
          clear hev hnx hv hsn hle hsl hc1 hc2 hgo hgu
          rcases hof : ofP x ⟨⟨vn, vw, vf, va, vt⟩, vfi, vr⟩ with _ | _
          · have qn : ((vn : Int) == x) = false := hof
            rcases hfd with hfd | hfd
            · subst hfd
              have hkn : knownP ⟨⟨vn, vw, vf, va, vt⟩, -1, vr⟩ = false := rfl
              have hun : unkP ⟨⟨vn, vw, vf, va, vt⟩, -1, vr⟩ = true := rfl
              obtain ⟨Au, nu, cu, hvs, ownu⟩ := Hgu.out hun
              have hlt7 : cnt unkP L k < (unkB bs L).length := by have h1 := (List.getElem?_eq_some_iff.1 hvs).1; have h2 := rows7.len; omega
              have hlt7i : (cnt unkP L k : Int) < (unkB bs L).length := by omega
              obtain ⟨b7, off7, rfl, hb7, hc7⟩ := (own7.up own.ext).reads.at_ (by omega)
              have z7 := hc7 _ _ hvs
              have Hof := Lib.hid hof
              have Hkn := Lib.hid hkn
              have Hun := Lib.hid hun
              clear hof hkn hun hvs hc7
              have hul' : (unkB bs L).length ≤ 2000 := by rw [Hul.out]; have := List.length_filter_le unkP L; omega
              generalize hN : cnt unkP L k = N at *
              have HN := Lib.hid hN
              clear hN
              go_wp2
              have X0 : Ext wr (wr.alloc (.cells #[.int .i64 (vn : Int), .int .i64 (vw : Int), .int .i64 (vf : Int), .int .i64 (va : Int), .int .i64 (vt : Int)] 51)) := (by repeat with_reducible (first | exact Ext.refl _ | refine Ext.alloc ?_ _ | refine Ext.drew ?_ | refine Ext.drewN ?_ _ | refine Ext.setCell ?_ (by first | exact Nat.le_refl _ | omega | (simp; done) | (simp; omega)) _))
              have B0 := Ext.new_blk (Ext.refl (wr.alloc (.cells #[.int .i64 (vn : Int), .int .i64 (vw : Int), .int .i64 (vf : Int), .int .i64 (va : Int), .int .i64 (vt : Int)] 51)))
              generalize wr.alloc (.cells #[.int .i64 (vn : Int), .int .i64 (vw : Int), .int .i64 (vf : Int), .int .i64 (va : Int), .int .i64 (vt : Int)] 51) = wx at *
              have y2 : wx.cell? ⟨wr.heap.size, 2, none⟩ = some (.int .i64 (vf : Int)) := B0.cell 2
              have y4 : wx.cell? ⟨wr.heap.size, 4, none⟩ = some (.int .i64 (vt : Int)) := B0.cell 4
              have yl := B0.lt
              have z7x := X0.of_cell z7
              have zl : b7 < wx.heap.size := Nat.lt_of_lt_of_le hb7 X0.size
              have hb9x := hb9.up X0
              have hd1 : decide ((unkB bs L).length ≤ N) = false := decide_eq_false (by omega)
              have ownux := ownu.up (own.ext.trans X0)
              go_region_held3 (fun W => Ext wx W ∧ ∀ b o, b < wx.heap.size → W.cell? ⟨b, o, none⟩ = wx.cell? ⟨b, o, none⟩) ((refine Ext.keep ?_; repeat with_reducible (first | assumption | exact Ext.refl _ | refine Ext.alloc ?_ _ | refine Ext.drew ?_ | refine Ext.drewN ?_ _ | refine Ext.setCell ?_ (by first | exact Nat.le_refl _ | omega | (simp; done) | (simp; omega)) _)))
                (first | (go_split_ands; go_at_call 35; refine (same (ownux.bytes.up (by with_reducible assumption)) (hb9x.up (by with_reducible assumption))).mono ?_; rintro e w' ⟨rfl, rfl⟩))
              all_goals
                go_wp2
                go_roundw
                case rel =>
                  refine ⟨k + 1, A2, c2, by omega, by go_num, by rw [Hc1.out, Hof.out]; simp, by rw [Hc2.out, Hun.out, if_pos rfl]; go_num, ?_, ?_⟩
                  · rw [Hsn.out, Hkn.out]; simp
                  · rw [Hsn.out, Hkn.out]; simpa using own.up (X0.trans (by with_reducible assumption))
                case measure => simp [intOf]; omega
            · have hkn : knownP ⟨⟨vn, vw, vf, va, vt⟩, vfi, vr⟩ = true := by show (vfi != -1) = true; rw [bne_iff_ne]; omega
              have hun : unkP ⟨⟨vn, vw, vf, va, vt⟩, vfi, vr⟩ = false := by show (vfi == -1) = false; rw [beq_eq_false_iff_ne]; omega
              have Hof := Lib.hid hof
              have Hkn := Lib.hid hkn
              have Hun := Lib.hid hun
              clear hof hkn hun
              go_wp2_with (at_builtin; refine wpList_more elemB rfl (.tmp 87) (.tmp 93) rfl rfl (own.up (by repeat with_reducible (first | exact Ext.refl _ | refine Ext.alloc ?_ _ | refine Ext.drew ?_ | refine Ext.drewN ?_ _ | refine Ext.setCell ?_ (by first | exact Nat.le_refl _ | omega | (simp; done) | (simp; omega)) _))) rfl (hb9.up (by repeat with_reducible (first | exact Ext.refl _ | refine Ext.alloc ?_ _ | refine Ext.drew ?_ | refine Ext.drewN ?_ _ | refine Ext.setCell ?_ (by first | exact Nat.le_refl _ | omega | (simp; done) | (simp; omega)) _))) (bv_one _) (by omega) (by unfold maxLen; omega) ?_; intro A4 c4 w4 own4 _)
              go_roundw
              case rel =>
                refine ⟨k + 1, A4, c4, by omega, by go_num, by rw [Hc1.out, Hof.out]; simp, by rw [Hc2.out, Hun.out]; simp, ?_, ?_⟩
                · rw [Hsn.out, Hkn.out]; simp [Hsl.out]
                · rw [Hsn.out, Hkn.out]; simpa [Hsl.out] using own4
              case measure => simp [intOf]; omega
          · have qt : ((vn : Int) == x) = true := hof
            have hgo1 := Hgo.out hof
            have hlt6 : cnt (ofP x) L k < (L.filter (ofP x)).length := (List.getElem?_eq_some_iff.1 hgo1).1
            obtain ⟨b6, off6, v6, rfl, hv6, hb6, f0, f1, f2, f3, f4, f5, f6⟩ := (own6.up own.ext).reads.view' hlt6
            rw [hgo1] at hv6
            cases hv6
            simp only at f0 f1 f2 f3 f4 f5 f6
            have hlt6i : (cnt (ofP x) L k : Int) < (L.filter (ofP x)).length := by omega
            have hfl6 : (L.filter (ofP x)).length ≤ 2000 := by have := List.length_filter_le (ofP x) L; omega
            have Hof := Lib.hid hof
            clear hof hgo1
            generalize hM : cnt (ofP x) L k = M at *
            have HM := Lib.hid hM
            clear hM
            go_wp2
            have X0 : Ext wr (wr.alloc (.cells #[.int .i64 (vn : Int), .int .i64 (vw : Int), .int .i64 (vf : Int), .int .i64 (va : Int), .int .i64 (vt : Int)] 51)) := (by repeat with_reducible (first | exact Ext.refl _ | refine Ext.alloc ?_ _ | refine Ext.drew ?_ | refine Ext.drewN ?_ _ | refine Ext.setCell ?_ (by first | exact Nat.le_refl _ | omega | (simp; done) | (simp; omega)) _))
            have B0 := Ext.new_blk (Ext.refl (wr.alloc (.cells #[.int .i64 (vn : Int), .int .i64 (vw : Int), .int .i64 (vf : Int), .int .i64 (va : Int), .int .i64 (vt : Int)] 51)))
            generalize wr.alloc (.cells #[.int .i64 (vn : Int), .int .i64 (vw : Int), .int .i64 (vf : Int), .int .i64 (va : Int), .int .i64 (vt : Int)] 51) = wx at *
            have g0 := X0.of_cell f0
            have g1 := X0.of_cell f1
            have g2 := X0.of_cell f2
            have g3 := X0.of_cell f3
            have g4 := X0.of_cell f4
            have g5 := X0.of_cell f5
            have g6 := X0.of_cell f6
            have e0 := X0.of_cell d0
            have e1 := X0.of_cell d1
            have e2 := X0.of_cell d2
            have e3 := X0.of_cell d3
            have e4 := X0.of_cell d4
            have e5 := X0.of_cell d5
            have e6 := X0.of_cell d6
            have zl6 : b6 < wx.heap.size := Nat.lt_of_lt_of_le hb6 X0.size
            have zl1 : b < wx.heap.size := Nat.lt_of_lt_of_le hb1 X0.size
            have yl := B0.lt
            have hd1 : decide ((L.filter (ofP x)).length ≤ M) = false := decide_eq_false (by omega)
            clear f0 f1 f2 f3 f4 f5 f6 d0 d1 d2 d3 d4 d5 d6
            go_region_held3 (fun W => Ext wx W ∧ ∀ b o, b < wx.heap.size → W.cell? ⟨b, o, none⟩ = wx.cell? ⟨b, o, none⟩) ((refine Ext.keep ?_; repeat with_reducible (first | assumption | exact Ext.refl _ | refine Ext.alloc ?_ _ | refine Ext.drew ?_ | refine Ext.drewN ?_ _ | refine Ext.setCell ?_ (by first | exact Nat.le_refl _ | omega | (simp; done) | (simp; omega)) _)))
              (first | (go_split_ands; go_at_call 29; refine lawSameE.mono ?_; rintro e wy ⟨rfl, E8⟩; have q0 : Ext wx wy := Ext.trans (by with_reducible assumption) E8))
            all_goals
              rename Ext wx wy ∧ _ => hS
              clear hS
              have X1 : Ext wr wy := X0.trans q0
              have B1 := B0.up q0
              have y2 : wy.cell? ⟨wr.heap.size, 2, none⟩ = some (.int .i64 (vf : Int)) := B1.cell 2
              have y4 : wy.cell? ⟨wr.heap.size, 4, none⟩ = some (.int .i64 (vt : Int)) := B1.cell 4
              have yl' := B1.lt
              have e5' := q0.of_cell e5
              have hb9y := hb9.up X1
              have ownY := own.up X1
              clear g0 g1 g2 g3 g4 g5 g6 e0 e1 e2 e3 e4 e5 e6 B0 hd1 yl zl6
              rcases hfd with hfd | hfd
              · subst hfd
                have hkn : knownP ⟨⟨vn, vw, vf, va, vt⟩, -1, vr⟩ = false := rfl
                have hun : unkP ⟨⟨vn, vw, vf, va, vt⟩, -1, vr⟩ = true := rfl
                obtain ⟨Au, nu, cu, hvs, ownu⟩ := Hgu.out hun
                have hlt7 : cnt unkP L k < (unkB bs L).length := by have h1 := (List.getElem?_eq_some_iff.1 hvs).1; have h2 := rows7.len; omega
                have hlt7i : (cnt unkP L k : Int) < (unkB bs L).length := by omega
                obtain ⟨b7, off7, rfl, hb7, hc7⟩ := (own7.up ownY.ext).reads.at_ (by omega)
                have z7 := hc7 _ _ hvs
                have Hkn := Lib.hid hkn
                have Hun := Lib.hid hun
                clear hkn hun hvs hc7
                have hul' : (unkB bs L).length ≤ 2000 := by rw [Hul.out]; have := List.length_filter_le unkP L; omega
                generalize hN : cnt unkP L k = N at *
                have HN := Lib.hid hN
                clear hN
                go_wp2
                have hd2 : decide ((unkB bs L).length ≤ N) = false := decide_eq_false (by omega)
                have ownuy := ownu.up ownY.ext
                go_region_held3 (fun W => Ext wy W ∧ ∀ b o, b < wy.heap.size → W.cell? ⟨b, o, none⟩ = wy.cell? ⟨b, o, none⟩) ((refine Ext.keep ?_; repeat with_reducible (first | assumption | exact Ext.refl _ | refine Ext.alloc ?_ _ | refine Ext.drew ?_ | refine Ext.drewN ?_ _ | refine Ext.setCell ?_ (by first | exact Nat.le_refl _ | omega | (simp; done) | (simp; omega)) _)))
                  (first | (go_split_ands; go_at_call 35; refine (same (ownuy.bytes.up (by with_reducible assumption)) (hb9y.up (by with_reducible assumption))).mono ?_; rintro e w' ⟨rfl, rfl⟩))
                all_goals
                  go_wp2
                  go_roundw
                  case rel =>
                    refine ⟨k + 1, A2, c2, by omega, by go_num, by rw [Hc1.out, Hof.out, if_pos rfl]; go_num, by rw [Hc2.out, Hun.out, if_pos rfl]; go_num, ?_, ?_⟩
                    · rw [Hsn.out, Hkn.out]; simp
                    · rw [Hsn.out, Hkn.out]; simpa using ownY.up (by with_reducible assumption)
                  case measure => simp [intOf]; omega
              · have hkn : knownP ⟨⟨vn, vw, vf, va, vt⟩, vfi, vr⟩ = true := by show (vfi != -1) = true; rw [bne_iff_ne]; omega
                have hun : unkP ⟨⟨vn, vw, vf, va, vt⟩, vfi, vr⟩ = false := by show (vfi == -1) = false; rw [beq_eq_false_iff_ne]; omega
                have Hkn := Lib.hid hkn
                have Hun := Lib.hid hun
                clear hkn hun
                go_wp2_with (at_builtin; refine wpList_more elemB rfl (.tmp 87) (.tmp 93) rfl rfl (ownY.up (by repeat with_reducible (first | exact Ext.refl _ | refine Ext.alloc ?_ _ | refine Ext.drew ?_ | refine Ext.drewN ?_ _ | refine Ext.setCell ?_ (by first | exact Nat.le_refl _ | omega | (simp; done) | (simp; omega)) _))) rfl (hb9y.up (by repeat with_reducible (first | exact Ext.refl _ | refine Ext.alloc ?_ _ | refine Ext.drew ?_ | refine Ext.drewN ?_ _ | refine Ext.setCell ?_ (by first | exact Nat.le_refl _ | omega | (simp; done) | (simp; omega)) _))) (bv_one _) (by omega) (by unfold maxLen; omega) ?_; intro A4 c4 w4 own4 _)
                go_roundw
                case rel =>
                  refine ⟨k + 1, A4, c4, by omega, by go_num, by rw [Hc1.out, Hof.out, if_pos rfl]; go_num, by rw [Hc2.out, Hun.out]; simp, ?_, ?_⟩
                  · rw [Hsn.out, Hkn.out]; simp [Hsl.out]
                  · rw [Hsn.out, Hkn.out]; simpa [Hsl.out] using own4
                case measure => simp [intOf]; omega
        · have hkl : k = L.length := by omega
          subst hkl
          rw [List.take_length] at own ⊢
          rw [cnt_all, cnt_all, ← Hul.out]
          have BMr := BM8.up own.ext
          replace m0 : wr.cell? ⟨w.heap.size, 0, none⟩ = some (.string s) := BMr.cell 0
          replace m1 : wr.cell? ⟨w.heap.size, 1, none⟩ = some (.slice A n c) := BMr.cell 1
          replace ml := BMr.lt
          have hfr := hf.up (X5.trans own.ext)
          have hbr := hb.up (X5.trans own.ext)
          have own8r := own8.up own.ext
          go_wp2_with (first
            | (go_at_call 50; refine (vHas hfr (by omega) hbr (by omega) Hv.out).mono ?_; rintro e w9 ⟨rfl, E9⟩; have X_ : Ext wr w9 := Ext.trans (by repeat with_reducible (first | exact Ext.refl _ | refine Ext.alloc ?_ _ | refine Ext.drew ?_ | refine Ext.drewN ?_ _ | refine Ext.setCell ?_ (by first | exact Nat.le_refl _ | omega | (simp; done) | (simp; omega)) _)) E9; replace own := own.up X_; replace own8r := own8r.up X_; replace hEr := hEr.up X_; clear X_)
            | (go_at_call 35; refine (same own8r.reads own.reads).mono ?_; rintro e w' ⟨rfl, rfl⟩))
          go_ret
          exact ⟨rfl, hEr⟩

end Go.Proofs.Ytlmmlmmadgcmcaa
