/- Contracts of layer 9: a run cut behind so many values. -/
import Derived.Test.YtlmmlmmadgcmcaaW9c
import Derived.Test.YtlmmlmmadgcmcaaS9h
namespace Go.Proofs.Ytlmmlmmadgcmcaa
open Go.RowKit Go.Shelf
set_option linter.unusedVariables false
attribute [local go_sem] Oper.semAt_some

theorem BlkT.put1 {W : World} {b : Nat} {t : TypeId} {u : Value} (h : BlkT W b t #[u]) (v : Value) : BlkT (W.setCell ⟨b, 0, none⟩ v) b t #[v] := by
  have := h.set_ 0 v
  simpa using this

/-- A piece of code that neither returns nor panics. -/
def Calm (R : Act → World → Prop) : Exit → Act → World → Prop
  | .normal, a, w => R a w
  | _, _, _ => False

theorem wpIn_calm {F : Fence} {d : Nat} {P : Program} {c : Code} {Q : Exit → Act → World → Prop} {a : Act} {w : World} (h : c.wpIn F d P (Calm (Q .normal)) a w) : c.wpIn F d P Q a w :=
  wpIn_mono h (fun e a w hq => by cases e <;> first | exact hq | exact hq.elim)

/-- What becomes of a cut. -/
def CutP (k : Int) (bs : List UInt8) (n : Int) (w : World) (e : Ending) (w' : World) : Prop :=
  (codeV k bs ≠ 0 ∧ e = .returned (.tuple #[.slice none 0 0, .slice none 0 0, .int .u8 (codeV k bs : Nat)]) ∧ Ext w w') ∨
  (codeV k bs = 0 ∧ (n < 0 ∨ ((valsV k bs).length : Int) < n) ∧ e = .returned (.tuple #[.slice none 0 0, .slice none 0 0, .int .u8 11]) ∧ Ext w w') ∨
  (codeV k bs = 0 ∧ 0 ≤ n ∧ n ≤ (valsV k bs).length ∧ ∃ s A1 c1 A2 c2, s = sumL ((valsV k bs).take n.toNat) ∧ e = .returned (.tuple #[.slice A1 s c1, .slice A2 (bs.length - s) c2, .int .u8 0]) ∧
    Own w w' 5 1 A1 s c1 ((bs.take s).map bv) ∧ Own w w' 5 1 A2 (bs.length - s) c2 ((bs.drop s).map bv))

structure CutI (k : Int) (bs : List UInt8) (n : Int) (w wa : World) (vs : List RunV) (j : Nat) (W : World) : Prop where
  r0 : BlkT W w.heap.size 43 #[.slice none 0 0]
  r1 : BlkT W (w.heap.size + 1) 43 #[.slice none 0 0]
  r2 : BlkT W (w.heap.size + 1 + 1) 28 #[.int .u8 0]
  r3 : BlkT W (w.heap.size + 1 + 1 + 1) 3 #[.int .i64 (atV k bs n j : Nat)]
  r4 : BlkT W (w.heap.size + 1 + 1 + 1 + 1) 3 #[.int .i64 (leftI n j)]
  ext : Ext w W
  size : wa.heap.size ≤ W.heap.size
  fine : ∀ (i : Nat) v, i < j → vs[i]? = some v → v.e = 0

structure CutX (w : World) (bs : List UInt8) (k : Int) (c : Code) (W : World) : Prop where
  ret : c = .ret
  r0 : BlkT W w.heap.size 43 #[.slice none 0 0]
  r1 : BlkT W (w.heap.size + 1) 43 #[.slice none 0 0]
  r2 : BlkT W (w.heap.size + 1 + 1) 28 #[.int .u8 (codeV k bs : Nat)]
  ext : Ext w W
  bad : codeV k bs ≠ 0

set_option maxRecDepth 100000 in
set_option maxHeartbeats 1000000 in
theorem uCut {A : Option Addr} {m c : Nat} {bs : List UInt8} {k n : Int} {w : World} (hb : BytesAt w A m c bs) (hm : m ≤ 1000000000) (hn : -9223372036854775808 ≤ n ∧ n < 9223372036854775808) :
    Calls Try.prog 42 #[.int .i64 k, .slice A m c, .int .i64 n] w (CutP k bs n w) := by
  have hl := hb.length
  refine (callsIn_wide (n := 3)).1 ?_
  refine callsIn_of_wp_marks Try.func42 rfl trivial ?_ rfl
  simp only [Try.ntmps42, List.size_toArray, List.length_cons, List.length_nil, Nat.reduceAdd, Nat.reduceSub, Array.replicate_succ, Array.replicate_zero, List.push_toArray, List.append_toArray, List.nil_append, List.cons_append]
  gi_wp2_with (first | (refine ⟨trivial, ?_⟩; gi_at_call 87; refine (callsIn_wide.2 uValues).mono ?_; rintro e w1 ⟨rfl, rfl⟩))
  obtain ⟨wa, hwa⟩ : ∃ wa, wa = (((((((w.alloc (.cells #[.slice none 0 0] 43)).alloc (.cells #[.slice none 0 0] 43)).alloc (.cells #[.int .u8 0] 28)).alloc (.cells #[.int .i64 0] 3)).alloc (.cells #[.int .i64 n] 3)).alloc (.cells #[.int .i64 k] 3)).alloc (.cells #[.slice A m c] 43)) := ⟨_, rfl⟩
  rw [← hwa]
  have X : Ext w wa := by rw [hwa]; exact (by repeat with_reducible (first | exact Ext.refl _ | refine Ext.alloc ?_ _ | refine Ext.drew ?_ | refine Ext.drewN ?_ _ | refine Ext.setCell ?_ (by first | exact Nat.le_refl _ | omega | (simp; done) | (simp; omega)) _))
  have sz : wa.heap.size = w.heap.size + 7 := by rw [hwa]; simp
  have b0 : BlkT wa w.heap.size 43 #[.slice none 0 0] := by rw [hwa]; exact ((((((BlkT.new w _ _ rfl).alloc _).alloc _).alloc _).alloc _).alloc _).alloc _
  have b1 : BlkT wa (w.heap.size + 1) 43 #[.slice none 0 0] := by rw [hwa]; exact (((((BlkT.new _ _ _ (by simp)).alloc _).alloc _).alloc _).alloc _).alloc _
  have b2 : BlkT wa (w.heap.size + 1 + 1) 28 #[.int .u8 0] := by rw [hwa]; exact ((((BlkT.new _ _ _ (by simp)).alloc _).alloc _).alloc _).alloc _
  have b3 : BlkT wa (w.heap.size + 1 + 1 + 1) 3 #[.int .i64 0] := by rw [hwa]; exact (((BlkT.new _ _ _ (by simp)).alloc _).alloc _).alloc _
  have b4 : BlkT wa (w.heap.size + 1 + 1 + 1 + 1) 3 #[.int .i64 n] := by rw [hwa]; exact ((BlkT.new _ _ _ (by simp)).alloc _).alloc _
  have b5 : BlkT wa (w.heap.size + 1 + 1 + 1 + 1 + 1) 3 #[.int .i64 k] := by rw [hwa]; exact (BlkT.new _ _ _ (by simp)).alloc _
  have b6 : BlkT wa (w.heap.size + 1 + 1 + 1 + 1 + 1 + 1) 43 #[.slice A m c] := by rw [hwa]; exact BlkT.new _ _ _ (by simp)
  obtain ⟨vs, hV, hit⟩ := vals_iter hb hm X b6 b5 (by omega) (by omega) (by omega)
  have hvl : vs.length ≤ m + 1 := by have := valsV_len k bs; rw [← hV.list, List.length_map, hb.length] at this; exact this
  refine wp_range (w := wa) rfl (enters_of Try.func105 (by kernel_rfl) rfl) hit (fun b h => by have := b6.lt; omega) b6.lt (fun _ => rfl)
    (CutI k bs n w wa vs) (CutX w bs k)
    (fun j x a₁ W => CutI k bs n w wa vs j W ∧ ∃ b7, BlkT W b7 131 #[.slice x.A x.n x.c, .int .u8 (x.e : Int)] ∧ w.heap.size + 7 ≤ b7 ∧ a₁ = { tmps := #[.int .i64 k, .slice A m c, .int .i64 n, undef, undef, undef, .pointer (some ⟨w.heap.size, 0, none⟩), .pointer (some ⟨w.heap.size + 1, 0, none⟩), .pointer (some ⟨w.heap.size + 1 + 1, 0, none⟩), .pointer (some ⟨w.heap.size + 1 + 1 + 1, 0, none⟩), .pointer (some ⟨w.heap.size + 1 + 1 + 1 + 1, 0, none⟩), .pointer (some ⟨b7, 0, none⟩), .int .i64 n, .int .i64 k, .slice A m c,
      .func (.func 105) #[] #[.pointer (some ⟨w.heap.size + 1 + 1 + 1 + 1 + 1, 0, none⟩), .pointer (some ⟨w.heap.size + 1 + 1 + 1 + 1 + 1 + 1, 0, none⟩)], runV x, undef, undef, undef, undef, undef, undef, undef, undef, undef, undef, undef, undef, undef, undef, undef, undef, undef, undef, undef, undef, undef, undef, undef, undef, undef, undef, undef, undef], defers := [] })
    (fun j W h => h.size) ?hI ?hIB ?hIx ?hIxB ?hA ⟨b0, b1, b2, by rw [atV_zero]; exact b3, by rw [leftI_zero]; exact b4, X, Nat.le_refl _, fun i v h => absurd h (Nat.not_lt_zero i)⟩ ?assign ?body ?done ?stop
  case hI =>
    intro j W W' b o h hb2 ho hc hO
    exact ⟨h.r0.besides ho hc hO, h.r1.besides ho hc hO, h.r2.besides ho hc hO, h.r3.besides ho hc hO, h.r4.besides ho hc hO, hO.toExt h.ext (by omega), Nat.le_trans h.size hO.size, h.fine⟩
  case hIB =>
    intro j W W' h hO
    exact ⟨h.r0.onlyB hO (by omega), h.r1.onlyB hO (by omega), h.r2.onlyB hO (by omega), h.r3.onlyB hO (by omega), h.r4.onlyB hO (by omega), hO.toExt h.ext (by omega), Nat.le_trans h.size hO.size, h.fine⟩
  case hIx =>
    intro cc W W' b o h hb2 ho hc hO
    exact ⟨h.ret, h.r0.besides ho hc hO, h.r1.besides ho hc hO, h.r2.besides ho hc hO, hO.toExt h.ext (by omega), h.bad⟩
  case hIxB =>
    intro cc W W' h hO
    exact ⟨h.ret, h.r0.onlyB hO (by omega), h.r1.onlyB hO (by omega), h.r2.onlyB hO (by omega), hO.toExt h.ext (by omega), h.bad⟩
  case hA =>
    rintro j x a₁ W W' b o ⟨h, b7, h7, hl, rfl⟩ hb2 ho hc hO
    exact ⟨⟨h.r0.besides ho hc hO, h.r1.besides ho hc hO, h.r2.besides ho hc hO, h.r3.besides ho hc hO, h.r4.besides ho hc hO, hO.toExt h.ext (by omega), Nat.le_trans h.size hO.size, h.fine⟩, b7, h7.besides ho hc hO, hl, rfl⟩
  case assign =>
    intro l j x W K h hx hK
    unfold runV
    gi_wp2
    refine hK _ _ ⟨?_, W.heap.size, BlkT.new W _ _ rfl, by have := h.size; omega, rfl⟩ (Ext.alloc (Ext.refl W) _)
    exact ⟨h.r0.alloc _, h.r1.alloc _, h.r2.alloc _, h.r3.alloc _, h.r4.alloc _, h.ext.alloc _, Nat.le_trans h.size (by simp), h.fine⟩
  case body =>
    rintro l j x a₁ W ⟨h, b7, h7, hl7, rfl⟩ hx
    have y7 : W.cell? ⟨b7, 1, none⟩ = some (.int .u8 (x.e : Int)) := h7.cell 1
    have y70 : W.cell? ⟨b7, 0, none⟩ = some (.slice x.A x.n x.c) := h7.cell 0
    have yl := h7.lt
    by_cases he : x.e = 0
    · have H := Lib.hid h
      have y3 := h.r3.cell 0
      have f3 := h.r3.free 0
      have l3 := h.r3.lt
      have y4 := h.r4.cell 0
      have f4 := h.r4.free 0
      have l4 := h.r4.lt
      have q : ((x.e : Int) != 0) = false := by rw [he]; rfl
      have He := Lib.hid he
      have Hx := Lib.hid hx
      have hj : j < vs.length := (List.getElem?_eq_some_iff.1 hx).1
      have hbx : BytesAt w x.A x.n x.c x.bs := (hV.each x (List.mem_of_getElem? hx)).1
      have hxn := hbx.length
      have hvx : (valsV k bs)[j]? = some (x.bs, 0) := by rw [← hV.list, List.getElem?_map, hx, Option.map_some, he]
      have hfin : ∀ (i : Nat) v, i < j + 1 → vs[i]? = some v → v.e = 0 := fun i v hi hv => by
        by_cases e : i = j
        · subst e
          have := hx.symm.trans hv
          cases this
          exact he
        · exact h.fine i v (by omega) hv
      have Hfin := Lib.hid hfin
      have hat := atV_le k bs n j
      have hat1 := atV_le k bs n (j + 1)
      have hlb := leftI_bd n j hn
      by_cases hp : 0 < leftI n j
      · obtain ⟨m1, m2⟩ := cut_more hvx hp
        simp only at m2
        rw [hxn] at m2
        have hm9 : (atV k bs n j : Int) + x.n ≤ 1000000000 := by rw [m2] at hat1; omega
        have M1 := Lib.hid m1
        have M2 := Lib.hid m2
        clear h he h7 b0 b1 b2 b3 b4 b5 b6 hit hwa hx hbx hxn hvx hfin m1 m2 hn
        generalize atV k bs n j = S at *
        generalize leftI n j = L at *
        have hmx : Try.prog.follows .mixedOrders = true := by kernel_rfl
        have wr1 : IntKind.i64.wrap ((S : Int) + x.n) = (S : Int) + x.n := IntWalk.i64_in _ ⟨by omega, by omega⟩
        have wr2 : IntKind.i64.wrap (L - 1) = L - 1 := IntWalk.i64_in _ ⟨by omega, by omega⟩
        have fin : ∀ a, roundEnd (fun b => b < w.heap.size ∨ b = w.heap.size + 1 + 1 + 1 + 1 + 1 ∨ b = w.heap.size + 1 + 1 + 1 + 1 + 1 + 1) (CutI k bs n w wa vs) (CutX w bs k) j W .normal a
            ((W.setCell ⟨w.heap.size + 1 + 1 + 1, 0, none⟩ (.int .i64 ((S : Int) + x.n))).setCell ⟨w.heap.size + 1 + 1 + 1 + 1, 0, none⟩ (.int .i64 (L - 1))).drew := by
          intro a
          have h := H.out
          refine ⟨((KeepsOthers.setCell _ _ _).trans (KeepsOthers.setCell _ _ _)).trans (KeepsOthers.drew _), fun b hb3 => (Below.heap_setCell _ ⟨w.heap.size + 1 + 1 + 1 + 1, 0, none⟩ _ b (by show b ≠ w.heap.size + 1 + 1 + 1 + 1; omega)).trans (Below.heap_setCell W ⟨w.heap.size + 1 + 1 + 1, 0, none⟩ _ b (by show b ≠ w.heap.size + 1 + 1 + 1; omega)), ?_⟩
          refine ⟨((h.r0.far (p := ⟨w.heap.size + 1 + 1 + 1, 0, none⟩) (by show _ ≠ w.heap.size + 1 + 1 + 1; omega) _).far (p := ⟨w.heap.size + 1 + 1 + 1 + 1, 0, none⟩) (by show _ ≠ w.heap.size + 1 + 1 + 1 + 1; omega) _).drew,
            ((h.r1.far (p := ⟨w.heap.size + 1 + 1 + 1, 0, none⟩) (by show _ ≠ w.heap.size + 1 + 1 + 1; omega) _).far (p := ⟨w.heap.size + 1 + 1 + 1 + 1, 0, none⟩) (by show _ ≠ w.heap.size + 1 + 1 + 1 + 1; omega) _).drew,
            ((h.r2.far (p := ⟨w.heap.size + 1 + 1 + 1, 0, none⟩) (by show _ ≠ w.heap.size + 1 + 1 + 1; omega) _).far (p := ⟨w.heap.size + 1 + 1 + 1 + 1, 0, none⟩) (by show _ ≠ w.heap.size + 1 + 1 + 1 + 1; omega) _).drew, ?_, ?_,
            ((h.ext.setCell (p := ⟨w.heap.size + 1 + 1 + 1, 0, none⟩) (by show w.heap.size ≤ w.heap.size + 1 + 1 + 1; omega) _).setCell (p := ⟨w.heap.size + 1 + 1 + 1 + 1, 0, none⟩) (by show w.heap.size ≤ w.heap.size + 1 + 1 + 1 + 1; omega) _).drew, by simpa using h.size, Hfin.out⟩
          · rw [M2.out]
            have := ((h.r3.put1 (.int .i64 ((S : Int) + x.n))).far (p := ⟨w.heap.size + 1 + 1 + 1 + 1, 0, none⟩) (by show _ ≠ w.heap.size + 1 + 1 + 1 + 1; omega) (.int .i64 (L - 1))).drew
            simpa using this
          · rw [M1.out]
            exact ((h.r4.far (p := ⟨w.heap.size + 1 + 1 + 1, 0, none⟩) (by show _ ≠ w.heap.size + 1 + 1 + 1; omega) _).put1 _).drew
        have Fin := Lib.hid fin
        clear fin M1 M2 hat1 hlb hm9
        gi_wp2
        gi_region_with_o (fail)
        all_goals gi_wp2
        all_goals exact Fin.out _
      · obtain ⟨m1, m2⟩ := cut_same (k := k) (bs := bs) hp
        have hnp : ¬ 0 < leftI n j := hp
        have M1 := Lib.hid m1
        have M2 := Lib.hid m2
        clear h he h7 b0 b1 b2 b3 b4 b5 b6 hit hwa hx hbx hxn hvx hfin m1 m2 hat1 hn hp
        gi_wp2
        have h := H.out
        refine ⟨KeepsOthers.refl _, fun b hb3 => rfl, h.r0, h.r1, h.r2, ?_, ?_, h.ext, h.size, Hfin.out⟩
        · rw [M2.out]; exact h.r3
        · rw [M1.out]; exact h.r4
    · have H := Lib.hid h
      have hcd := hV.bad hx he
      have y0 := h.r0.cell 0
      have y1 := h.r1.cell 0
      have y2 := h.r2.cell 0
      have f0 := h.r0.free 0
      have f1 := h.r1.free 0
      have f2 := h.r2.free 0
      have l0 := h.r0.lt
      have l1 := h.r1.lt
      have l2 := h.r2.lt
      have q : ((x.e : Int) != 0) = true := by rw [bne_iff_ne]; omega
      have Hcd := Lib.hid hcd
      have He := Lib.hid he
      clear h he h7 b0 b1 b2 b3 b4 b5 b6 hit hwa hx hcd y70 hn
      have hmx : Try.prog.follows .mixedOrders = true := by kernel_rfl
      have fin : ∀ a, roundEnd (fun b => b < w.heap.size ∨ b = w.heap.size + 1 + 1 + 1 + 1 + 1 ∨ b = w.heap.size + 1 + 1 + 1 + 1 + 1 + 1) (CutI k bs n w wa vs) (CutX w bs k) j W .ret a
          (((W.setCell ⟨w.heap.size, 0, none⟩ (.slice none 0 0)).setCell ⟨w.heap.size + 1, 0, none⟩ (.slice none 0 0)).setCell ⟨w.heap.size + 1 + 1, 0, none⟩ (.int .u8 (x.e : Int))).drew := by
        intro a
        have h := H.out
        refine ⟨(((KeepsOthers.setCell _ _ _).trans (KeepsOthers.setCell _ _ _)).trans (KeepsOthers.setCell _ _ _)).trans (KeepsOthers.drew _), rfl, ?_, ?_, ?_, ?_, by rw [Hcd.out]; exact He.out⟩
        · exact (((h.r0.put1 _).far (p := ⟨w.heap.size + 1, 0, none⟩) (by show _ ≠ w.heap.size + 1; omega) _).far (p := ⟨w.heap.size + 1 + 1, 0, none⟩) (by show _ ≠ w.heap.size + 1 + 1; omega) _).drew
        · exact (((h.r1.far (p := ⟨w.heap.size, 0, none⟩) (by show _ ≠ w.heap.size; omega) _).put1 _).far (p := ⟨w.heap.size + 1 + 1, 0, none⟩) (by show _ ≠ w.heap.size + 1 + 1; omega) _).drew
        · rw [Hcd.out]
          exact (((h.r2.far (p := ⟨w.heap.size, 0, none⟩) (by show _ ≠ w.heap.size; omega) _).far (p := ⟨w.heap.size + 1, 0, none⟩) (by show _ ≠ w.heap.size + 1; omega) _).put1 _).drew
        · exact (((h.ext.setCell (p := ⟨w.heap.size, 0, none⟩) (Nat.le_refl _) _).setCell (p := ⟨w.heap.size + 1, 0, none⟩) (Nat.le_succ _) _).setCell (p := ⟨w.heap.size + 1 + 1, 0, none⟩) (by show w.heap.size ≤ w.heap.size + 1 + 1; omega) _).drew
      have Fin := Lib.hid fin
      clear fin
      gi_wp2
      gi_region_with_o (fail)
      all_goals gi_wp2
      all_goals exact Fin.out _
  case done =>
    intro D W hD h hK
    have hcd := hV.fine h.fine
    have hll : vs.length = (valsV k bs).length := by rw [← hV.list, List.length_map]
    have hat := atV_le k bs n vs.length
    have H := Lib.hid h
    have HK := Lib.hid hK
    have Hll := Lib.hid hll
    have R3 := Lib.hid h.r3
    have y3 := h.r3.cell 0
    have l3 := h.r3.lt
    have y4 := h.r4.cell 0
    have l4 := h.r4.lt
    have f0 := h.r0.free 0
    have f1 := h.r1.free 0
    have f2 := h.r2.free 0
    have l0 := h.r0.lt
    have l1 := h.r1.lt
    have l2 := h.r2.lt
    have z0 := h.r0.cell 0
    have z1 := h.r1.cell 0
    have z2 := h.r2.cell 0
    have Hcd := Lib.hid hcd
    clear h b0 b1 b2 b3 b4 b5 b6 hit hwa hK hcd hll
    -- nothing is cut
    have no : (n < 0 ∨ ((valsV k bs).length : Int) < n) → ∀ W2, W2 = ((W.setCell ⟨w.heap.size, 0, none⟩ (.slice none 0 0)).setCell ⟨w.heap.size + 1, 0, none⟩ (.slice none 0 0)).setCell ⟨w.heap.size + 1 + 1, 0, none⟩ (.int .u8 11) →
        W2.heap[D]? = some (.deferred (some [])) ∧ (W2.putObj D (.deferred none)).cell? ⟨w.heap.size, 0, none⟩ = some (.slice none 0 0) ∧ (W2.putObj D (.deferred none)).cell? ⟨w.heap.size + 1, 0, none⟩ = some (.slice none 0 0) ∧ (W2.putObj D (.deferred none)).cell? ⟨w.heap.size + 1 + 1, 0, none⟩ = some (.int .u8 11) ∧ CutP k bs n w (.returned (.tuple #[.slice none 0 0, .slice none 0 0, .int .u8 11])) (W2.putObj D (.deferred none)) := by
      rintro hno W2 rfl
      have h := H.out
      refine ⟨?_, ?_, ?_, ?_, .inr (.inl ⟨Hcd.out, hno, rfl, ?_⟩)⟩
      · rw [Below.heap_setCell _ ⟨w.heap.size + 1 + 1, 0, none⟩ _ D (by show D ≠ w.heap.size + 1 + 1; omega), Below.heap_setCell _ ⟨w.heap.size + 1, 0, none⟩ _ D (by show D ≠ w.heap.size + 1; omega), Below.heap_setCell _ ⟨w.heap.size, 0, none⟩ _ D (by show D ≠ w.heap.size; omega)]
        exact HK.out
      · exact ((((h.r0.put1 _).far (p := ⟨w.heap.size + 1, 0, none⟩) (by show _ ≠ w.heap.size + 1; omega) _).far (p := ⟨w.heap.size + 1 + 1, 0, none⟩) (by show _ ≠ w.heap.size + 1 + 1; omega) _).putObj (D := D) (by omega) _).cell 0
      · exact ((((h.r1.far (p := ⟨w.heap.size, 0, none⟩) (by show _ ≠ w.heap.size; omega) _).put1 _).far (p := ⟨w.heap.size + 1 + 1, 0, none⟩) (by show _ ≠ w.heap.size + 1 + 1; omega) _).putObj (D := D) (by omega) _).cell 0
      · exact ((((h.r2.far (p := ⟨w.heap.size, 0, none⟩) (by show _ ≠ w.heap.size; omega) _).far (p := ⟨w.heap.size + 1, 0, none⟩) (by show _ ≠ w.heap.size + 1; omega) _).put1 _).putObj (D := D) (by omega) _).cell 0
      · exact (only_putObj _ _ _).toExt (((h.ext.setCell (p := ⟨w.heap.size, 0, none⟩) (Nat.le_refl _) _).setCell (p := ⟨w.heap.size + 1, 0, none⟩) (Nat.le_succ _) _).setCell (p := ⟨w.heap.size + 1 + 1, 0, none⟩) (by show w.heap.size ≤ w.heap.size + 1 + 1; omega) _) (by omega)
    have No := Lib.hid no
    clear no
    by_cases h0 : n < 0
    · gi_wp2
      obtain ⟨t1, t2, t3, t4, t5⟩ := No.out (.inl h0) _ rfl
      refine ⟨by simp, .inl ⟨_, _, rfl, run_takeDeferred (b := D) (ds := []) t1, ?_⟩⟩
      exact ⟨.tuple #[.slice none 0 0, .slice none 0 0, .int .u8 11], by simp [results, Try.results42, go_sem, t2, t3, t4], t5⟩
    · by_cases h1 : 0 < leftI n vs.length
      · have h2 : ((valsV k bs).length : Int) < n := by have hll := Hll.out; unfold leftI at h1; rw [if_neg h0] at h1; omega
        gi_wp2
        obtain ⟨t1, t2, t3, t4, t5⟩ := No.out (.inr h2) _ rfl
        refine ⟨by simp, .inl ⟨_, _, rfl, run_takeDeferred (b := D) (ds := []) t1, ?_⟩⟩
        exact ⟨.tuple #[.slice none 0 0, .slice none 0 0, .int .u8 11], by simp [results, Try.results42, go_sem, t2, t3, t4], t5⟩
      · have h2 : n ≤ (valsV k bs).length := by have hll := Hll.out; unfold leftI at h1; rw [if_neg h0] at h1; omega
        have hs := atV_end (k := k) (bs := bs) (j := vs.length) (n := n) (by omega) (by have hll := Hll.out; omega)
        generalize atV k bs n vs.length = S at *
        generalize leftI n vs.length = L at *
        obtain ⟨A3, c3, r3⟩ := cut_to elemB hb .i64 (m := S) (by omega)
        obtain ⟨A4, c4, r4⟩ := cut_from elemB hb .i64 (l := S) (by omega)
        have r3' : BytesAt w A3 S c (bs.take S) := by unfold BytesAt; rw [List.map_take]; simpa using r3
        have r4' : BytesAt w A4 (m - S) (c - S) (bs.drop S) := by unfold BytesAt; rw [List.map_drop]; simpa using r4
        have E0 := H.out.ext
        have hmx : Try.prog.follows .mixedOrders = true := by kernel_rfl
        have Hs := Lib.hid hs
        clear hs r3 r4
        gi_wp2
        refine wpIn_calm ?_
        gi_region_with_o (first | (refine ⟨trivial, ?_⟩; gi_at_call 88; ((with_reducible refine (callsIn_wide.2 (clone (r3'.up (by repeat with_reducible (first | exact E0 | exact Ext.refl _ | refine Ext.alloc ?_ _ | refine Ext.drew ?_ | refine Ext.drewN ?_ _ | refine Ext.setCell ?_ (by first | exact Nat.le_refl _ | omega | (simp; done) | (simp; omega)) _))) (by omega))).mono ?_); rintro e w1 ⟨A5, c5, rfl, own1⟩; have X1 : Ext W w1 := Ext.trans (by repeat with_reducible (first | exact Ext.refl _ | refine Ext.alloc ?_ _ | refine Ext.drew ?_ | refine Ext.drewN ?_ _ | refine Ext.setCell ?_ (by first | exact Nat.le_refl _ | omega | (simp; done) | (simp; omega)) _)) own1.ext; have y3 := (R3.out.up X1).cell 0; have z0 := (H.out.r0.up X1).cell 0; have z1 := (H.out.r1.up X1).cell 0; have z2 := (H.out.r2.up X1).cell 0)) | (refine ⟨trivial, ?_⟩; gi_at_call 88; ((with_reducible refine (callsIn_wide.2 (clone (r4'.up (E0.trans (Ext.trans X1 (by repeat with_reducible (first | exact Ext.refl _ | refine Ext.alloc ?_ _ | refine Ext.drew ?_ | refine Ext.drewN ?_ _ | refine Ext.setCell ?_ (by first | exact Nat.le_refl _ | omega | (simp; done) | (simp; omega)) _))))) (by omega))).mono ?_); rintro e w2 ⟨A6, c6, rfl, own2⟩; have X2 : Ext W w2 := X1.trans (Ext.trans (by repeat with_reducible (first | exact Ext.refl _ | refine Ext.alloc ?_ _ | refine Ext.drew ?_ | refine Ext.drewN ?_ _ | refine Ext.setCell ?_ (by first | exact Nat.le_refl _ | omega | (simp; done) | (simp; omega)) _)) own2.ext); have f0 := (H.out.r0.up X2).free 0; have f1 := (H.out.r1.up X2).free 0; have f2 := (H.out.r2.up X2).free 0; have z0 := (H.out.r0.up X2).cell 0; have z1 := (H.out.r1.up X2).cell 0; have z2 := (H.out.r2.up X2).cell 0; have l0 := (H.out.r0.up X2).lt; have l1 := (H.out.r1.up X2).lt; have l2 := (H.out.r2.up X2).lt)))
        all_goals unfold Calm
        all_goals gi_wp2
        all_goals
          have h := H.out
          have Q0 := (h.r0.up X2).put1 (.slice A5 S c5)
          have Q1 := (h.r1.up X2).far (p := ⟨w.heap.size, 0, none⟩) (by show _ ≠ w.heap.size; omega) (.slice A5 S c5)
          have Q2 := ((h.r2.up X2).far (p := ⟨w.heap.size, 0, none⟩) (by show _ ≠ w.heap.size; omega) (.slice A5 S c5)).far (p := ⟨w.heap.size + 1, 0, none⟩) (by show _ ≠ w.heap.size + 1; omega) (.slice A6 (m - S) c6)
          have R0 := ((Q0.far (p := ⟨w.heap.size + 1, 0, none⟩) (by show _ ≠ w.heap.size + 1; omega) (.slice A6 (m - S) c6)).far (p := ⟨w.heap.size + 1 + 1, 0, none⟩) (by show _ ≠ w.heap.size + 1 + 1; omega) (.int .u8 0)).putObj (D := D) (by omega) (.deferred none)
          have R1 := ((Q1.put1 (.slice A6 (m - S) c6)).far (p := ⟨w.heap.size + 1 + 1, 0, none⟩) (by show _ ≠ w.heap.size + 1 + 1; omega) (.int .u8 0)).putObj (D := D) (by omega) (.deferred none)
          have R2 := (Q2.put1 (.int .u8 0)).putObj (D := D) (by omega) (.deferred none)
          have c0 := R0.cell 0
          have c1 := R1.cell 0
          have c2 := R2.cell 0
          have hD2 := X2.block D (Array.getElem?_eq_some_iff.1 HK.out).1
          have s1 := X1.size
          have s2 := own2.ext.size
          have sW := h.size
          have E : Ext w (((((w2.setCell ⟨w.heap.size, 0, none⟩ (.slice A5 S c5)).setCell ⟨w.heap.size + 1, 0, none⟩ (.slice A6 (m - S) c6)).setCell ⟨w.heap.size + 1 + 1, 0, none⟩ (.int .u8 0))).putObj D (.deferred none)) :=
            (only_putObj _ _ _).toExt ((((h.ext.trans X2).setCell (p := ⟨w.heap.size, 0, none⟩) (Nat.le_refl _) _).setCell (p := ⟨w.heap.size + 1, 0, none⟩) (Nat.le_succ _) _).setCell (p := ⟨w.heap.size + 1 + 1, 0, none⟩) (by show w.heap.size ≤ w.heap.size + 1 + 1; omega) _) (by omega)
          have rowOf : ∀ {A n c} {xs : List Value}, w2.ownsRow wa.heap.size 5 1 (.slice A n c) n xs → (((((w2.setCell ⟨w.heap.size, 0, none⟩ (.slice A5 S c5)).setCell ⟨w.heap.size + 1, 0, none⟩ (.slice A6 (m - S) c6)).setCell ⟨w.heap.size + 1 + 1, 0, none⟩ (.int .u8 0))).putObj D (.deferred none)).ownsRow wa.heap.size 5 1 (.slice A n c) n xs := by
            intro A n c xs row
            refine ownsRow_putObj (ownsRow_setCell_below (ownsRow_setCell_below (ownsRow_setCell_below row (by show w.heap.size < wa.heap.size; omega) _) (by show w.heap.size + 1 < wa.heap.size; omega) _) (by show w.heap.size + 1 + 1 < wa.heap.size; omega) _) (.deferred none) (o := .deferred (some [])) ?_ rfl
            rw [Below.heap_setCell _ ⟨w.heap.size + 1 + 1, 0, none⟩ _ D (by show D ≠ w.heap.size + 1 + 1; omega), Below.heap_setCell _ ⟨w.heap.size + 1, 0, none⟩ _ D (by show D ≠ w.heap.size + 1; omega), Below.heap_setCell _ ⟨w.heap.size, 0, none⟩ _ D (by show D ≠ w.heap.size; omega), hD2]
            exact HK.out
          have w1' := rowOf (row_up (ownsRow_more own1.row (show wa.heap.size ≤ W.drew.heap.size from sW)) own2.ext)
          have w2' := rowOf (ownsRow_more own2.row (show wa.heap.size ≤ w1.heap.size by omega))
          simp at c0 c1 c2
          refine ⟨by simp, .inl ⟨_, _, rfl, run_takeDeferred (b := D) (ds := []) ?_, ?_⟩⟩
          · rw [Below.heap_setCell _ ⟨w.heap.size + 1 + 1, 0, none⟩ _ D (by show D ≠ w.heap.size + 1 + 1; omega), Below.heap_setCell _ ⟨w.heap.size + 1, 0, none⟩ _ D (by show D ≠ w.heap.size + 1; omega), Below.heap_setCell _ ⟨w.heap.size, 0, none⟩ _ D (by show D ≠ w.heap.size; omega), hD2]
            exact HK.out
          · refine ⟨.tuple #[.slice A5 S c5, .slice A6 (m - S) c6, .int .u8 0], by simp [results, Try.results42, go_sem, c0, c1, c2], .inr (.inr ⟨Hcd.out, by omega, h2, S, A5, c5, A6, c6, Hs.out, by rw [hl], ?_, ?_⟩)⟩
            · exact ⟨ownsRow_more w1' X.size, E⟩
            · rw [hl]
              exact ⟨ownsRow_more w2' X.size, E⟩
  case stop =>
    intro D cc W hD h hK
    obtain rfl := h.ret
    have H := Lib.hid h
    have HK := Lib.hid hK
    clear h b0 b1 b2 b3 b4 b5 b6 hit hwa hn
    gi_wp2
    have h := H.out
    refine ⟨by simp, .inl ⟨_, _, rfl, run_takeDeferred HK.out, ?_⟩⟩
    have R0 := (h.r0.putObj (D := D) (by omega) (.deferred none)).cell 0
    have R1 := (h.r1.putObj (D := D) (by omega) (.deferred none)).cell 0
    have R2 := (h.r2.putObj (D := D) (by omega) (.deferred none)).cell 0
    have E : Ext w (W.putObj D (.deferred none)) := (only_putObj _ _ _).toExt h.ext (by omega)
    simp at R0 R1 R2
    exact ⟨.tuple #[.slice none 0 0, .slice none 0 0, .int .u8 (codeV k bs : Nat)], by simp [results, Try.results42, go_sem, R0, R1, R2], .inl ⟨h.bad, rfl, E⟩⟩

end Go.Proofs.Ytlmmlmmadgcmcaa
