/- Contracts of layer 9: how many values a run has. -/
import Derived.Test.YtlmmlmmadgcmcaaW9
namespace Go.Proofs.Ytlmmlmmadgcmcaa
open Go.RowKit Go.Shelf
set_option linter.unusedVariables false
attribute [local go_sem] Oper.semAt_some

theorem uValues {A : Option Addr} {n c : Nat} {k : Int} {w : World} :
    Calls Try.prog 87 #[.int .i64 k, .slice A n c] w fun e w' => e = .returned (.func (.func 105) #[] #[.pointer (some ⟨w.heap.size, 0, none⟩), .pointer (some ⟨w.heap.size + 1, 0, none⟩)]) ∧
      (w.alloc (.cells #[.int .i64 k] 3)).alloc (.cells #[.slice A n c] 43) = w' := by
  go_enter Try.func87, Try.ntmps87
  go_wp2
  go_ret
  exact ⟨rfl, rfl⟩

/-- All values of a run, with where they lie, and what is known of them. -/
structure Vals (k : Int) (bs : List UInt8) (w : World) (m : Nat) (vs : List RunV) : Prop where
  each : ∀ v ∈ vs, BytesAt w v.A v.n v.c v.bs ∧ v.e ≤ 4 ∧ v.n ≤ m
  list : vs.map (fun v => (v.bs, v.e)) = valsV k bs

theorem vals_iter {A : Option Addr} {m c : Nat} {bs : List UInt8} {k : Int} {w0 w : World} (hb : BytesAt w0 A m c bs) (hm : m ≤ 1000000000) (hE : Ext w0 w) {Bk B : Nat} (cB : BlkT w B 43 #[.slice A m c]) (ck : BlkT w Bk 3 #[.int .i64 k]) (h1 : w0.heap.size ≤ Bk) (h2 : w0.heap.size ≤ B) (hne : Bk ≠ B) :
    ∃ vs, Vals k bs w0 m vs ∧ IterK Try.prog 105 #[.pointer (some ⟨Bk, 0, none⟩), .pointer (some ⟨B, 0, none⟩)] (fun v => #[runV v]) vs (fun b => b < w0.heap.size ∨ b = Bk ∨ b = B) B w := by
  rcases hk : numberB k with _ | _
  · refine ⟨_, ⟨fun v hv => ?_, ?_⟩, valuesIter_no (Bk := Bk) (B := B) hk ck (.inr (.inl rfl))⟩
    · simp only [List.mem_singleton] at hv
      subst hv
      exact ⟨BytesAt.nil w0, by simp, by simp⟩
    · unfold valsV
      rw [if_pos hk]
      rfl
  · obtain ⟨vs, c1, c2, c3⟩ := chain_has k bs.length A m c bs w0 hb (Nat.le_refl _)
    refine ⟨vs, ⟨c2, by unfold valsV; rw [if_neg (by rw [hk]; simp)]; exact c3⟩, valuesIter (hb.up hE) hm hk c1 cB ck (.inr (.inl rfl)) (.inr (.inr rfl)) hne (fun h0 a ha => ?_)⟩
    obtain ⟨b, off, e, hb1, _⟩ := hb.at_ h0
    rw [e] at ha
    cases ha
    exact ⟨.inl hb1, by show b ≠ B; omega⟩

theorem Vals.bad {k : Int} {bs : List UInt8} {w : World} {m j : Nat} {vs : List RunV} {x : RunV} (h : Vals k bs w m vs) (hx : vs[j]? = some x) (he : x.e ≠ 0) : codeV k bs = x.e := by
  have : (valsV k bs)[j]? = some (x.bs, x.e) := by rw [← h.list, List.getElem?_map, hx]; rfl
  exact codeV_bad this he

theorem Vals.fine {k : Int} {bs : List UInt8} {w : World} {m : Nat} {vs : List RunV} (h : Vals k bs w m vs) (hf : ∀ (i : Nat) v, i < vs.length → vs[i]? = some v → v.e = 0) : codeV k bs = 0 := by
  refine codeV_fine (fun j x hx => ?_)
  rw [← h.list, List.getElem?_map] at hx
  rcases hv : vs[j]? with _ | v
  · rw [hv] at hx; cases hx
  · rw [hv] at hx
    simp only [Option.map_some, Option.some.injEq] at hx
    subst hx
    exact hf j v (List.getElem?_eq_some_iff.1 hv).1 hv

/-- What the caller's own cells hold when so many values have come. -/
structure CountI (w wa : World) (vs : List RunV) (j : Nat) (W : World) : Prop where
  r0 : BlkT W w.heap.size 3 #[.int .i64 0]
  r1 : BlkT W (w.heap.size + 1) 28 #[.int .u8 0]
  r2 : BlkT W (w.heap.size + 1 + 1) 3 #[.int .i64 (j : Int)]
  ext : Ext w W
  size : wa.heap.size ≤ W.heap.size
  fine : ∀ (i : Nat) v, i < j → vs[i]? = some v → v.e = 0

structure CountX (w : World) (bs : List UInt8) (k : Int) (c : Code) (W : World) : Prop where
  ret : c = .ret
  r0 : BlkT W w.heap.size 3 #[.int .i64 0]
  r1 : BlkT W (w.heap.size + 1) 28 #[.int .u8 (codeV k bs : Nat)]
  ext : Ext w W
  bad : codeV k bs ≠ 0

set_option maxRecDepth 100000 in
set_option maxHeartbeats 1000000 in
theorem uCount {A : Option Addr} {m c : Nat} {bs : List UInt8} {k : Int} {w : World} (hb : BytesAt w A m c bs) (hm : m ≤ 1000000000) :
    Calls Try.prog 55 #[.int .i64 k, .slice A m c] w fun e w' => e = .returned (.tuple #[.int .i64 (countV k bs : Nat), .int .u8 (codeV k bs : Nat)]) ∧ Ext w w' := by
  refine (callsIn_wide (n := 3)).1 ?_
  refine callsIn_of_wp_marks Try.func55 rfl trivial ?_ rfl
  simp only [Try.ntmps55, List.size_toArray, List.length_cons, List.length_nil, Nat.reduceAdd, Nat.reduceSub, Array.replicate_succ, Array.replicate_zero, List.push_toArray, List.append_toArray, List.nil_append, List.cons_append]
  gi_wp2_with (first | (refine ⟨trivial, ?_⟩; gi_at_call 87; refine (callsIn_wide.2 uValues).mono ?_; rintro e w1 ⟨rfl, rfl⟩))
  obtain ⟨wa, hwa⟩ : ∃ wa, wa = (((((w.alloc (.cells #[.int .i64 0] 3)).alloc (.cells #[.int .u8 0] 28)).alloc (.cells #[.int .i64 0] 3)).alloc (.cells #[.int .i64 k] 3)).alloc (.cells #[.slice A m c] 43)) := ⟨_, rfl⟩
  rw [← hwa]
  have X : Ext w wa := by rw [hwa]; exact (by repeat with_reducible (first | exact Ext.refl _ | refine Ext.alloc ?_ _ | refine Ext.drew ?_ | refine Ext.drewN ?_ _ | refine Ext.setCell ?_ (by first | exact Nat.le_refl _ | omega | (simp; done) | (simp; omega)) _))
  have sz : wa.heap.size = w.heap.size + 5 := by rw [hwa]; simp
  have b0 : BlkT wa w.heap.size 3 #[.int .i64 0] := by rw [hwa]; exact ((((BlkT.new w _ _ rfl).alloc _).alloc _).alloc _).alloc _
  have b1 : BlkT wa (w.heap.size + 1) 28 #[.int .u8 0] := by rw [hwa]; exact (((BlkT.new _ _ _ (by simp)).alloc _).alloc _).alloc _
  have b2 : BlkT wa (w.heap.size + 1 + 1) 3 #[.int .i64 0] := by rw [hwa]; exact ((BlkT.new _ _ _ (by simp)).alloc _).alloc _
  have b3 : BlkT wa (w.heap.size + 1 + 1 + 1) 3 #[.int .i64 k] := by rw [hwa]; exact (BlkT.new _ _ _ (by simp)).alloc _
  have b4 : BlkT wa (w.heap.size + 1 + 1 + 1 + 1) 43 #[.slice A m c] := by rw [hwa]; exact BlkT.new _ _ _ (by simp)
  obtain ⟨vs, hV, hit⟩ := vals_iter hb hm X b4 b3 (by omega) (by omega) (by omega)
  have hvl : vs.length ≤ m + 1 := by have := valsV_len k bs; rw [← hV.list, List.length_map, hb.length] at this; exact this
  refine wp_range (w := wa) rfl (enters_of Try.func105 (by kernel_rfl) rfl) hit (fun b h => by have := b4.lt; omega) b4.lt (fun _ => rfl)
    (CountI w wa vs) (CountX w bs k)
    (fun j x a₁ W => CountI w wa vs j W ∧ ∃ b7, BlkT W b7 131 #[.slice x.A x.n x.c, .int .u8 (x.e : Int)] ∧ w.heap.size + 5 ≤ b7 ∧ a₁ = { tmps := #[.int .i64 k, .slice A m c, undef, undef, .pointer (some ⟨w.heap.size, 0, none⟩), .pointer (some ⟨w.heap.size + 1, 0, none⟩), .pointer (some ⟨w.heap.size + 1 + 1, 0, none⟩), .pointer (some ⟨b7, 0, none⟩), .int .i64 k, .slice A m c,
      .func (.func 105) #[] #[.pointer (some ⟨w.heap.size + 1 + 1 + 1, 0, none⟩), .pointer (some ⟨w.heap.size + 1 + 1 + 1 + 1, 0, none⟩)], runV x, undef, undef, undef, undef, undef, undef, undef, undef], defers := [] })
    (fun j W h => h.size) ?hI ?hIB ?hIx ?hIxB ?hA ⟨b0, b1, b2, X, Nat.le_refl _, fun i v h => absurd h (Nat.not_lt_zero i)⟩ ?assign ?body ?done ?stop
  case hI =>
    intro j W W' b o h hb2 ho hc hO
    exact ⟨h.r0.besides ho hc hO, h.r1.besides ho hc hO, h.r2.besides ho hc hO, hO.toExt h.ext (by omega), Nat.le_trans h.size hO.size, h.fine⟩
  case hIB =>
    intro j W W' h hO
    exact ⟨h.r0.onlyB hO (by omega), h.r1.onlyB hO (by omega), h.r2.onlyB hO (by omega), hO.toExt h.ext (by omega), Nat.le_trans h.size hO.size, h.fine⟩
  case hIx =>
    intro cc W W' b o h hb2 ho hc hO
    exact ⟨h.ret, h.r0.besides ho hc hO, h.r1.besides ho hc hO, hO.toExt h.ext (by omega), h.bad⟩
  case hIxB =>
    intro cc W W' h hO
    exact ⟨h.ret, h.r0.onlyB hO (by omega), h.r1.onlyB hO (by omega), hO.toExt h.ext (by omega), h.bad⟩
  case hA =>
    rintro j x a₁ W W' b o ⟨h, b7, h7, hl, rfl⟩ hb2 ho hc hO
    exact ⟨⟨h.r0.besides ho hc hO, h.r1.besides ho hc hO, h.r2.besides ho hc hO, hO.toExt h.ext (by omega), Nat.le_trans h.size hO.size, h.fine⟩, b7, h7.besides ho hc hO, hl, rfl⟩
  case assign =>
    intro l j x W K h hx hK
    unfold runV
    gi_wp2
    refine hK _ _ ⟨?_, W.heap.size, BlkT.new W _ _ rfl, by have := h.size; omega, rfl⟩ (Ext.alloc (Ext.refl W) _)
    exact ⟨h.r0.alloc _, h.r1.alloc _, h.r2.alloc _, h.ext.alloc _, Nat.le_trans h.size (by simp), h.fine⟩
  case body =>
    rintro l j x a₁ W ⟨h, b7, h7, hl, rfl⟩ hx
    have y7 : W.cell? ⟨b7, 1, none⟩ = some (.int .u8 (x.e : Int)) := h7.cell 1
    have yl := h7.lt
    by_cases he : x.e = 0
    · have H := Lib.hid h
      have y2 := h.r2.cell 0
      have f2 := h.r2.free 0
      have l2 := h.r2.lt
      have q : ((x.e : Int) != 0) = false := by rw [he]; rfl
      have He := Lib.hid he
      have Hx := Lib.hid hx
      have hj : j < vs.length := (List.getElem?_eq_some_iff.1 hx).1
      clear h he h7 b0 b1 b2 b3 b4 hit hwa hx
      gi_wp2
      have h := H.out
      refine ⟨KeepsOthers.setCell _ _ _, fun b hb3 => Below.heap_setCell W ⟨w.heap.size + 1 + 1, 0, none⟩ _ b (by show b ≠ w.heap.size + 1 + 1; omega), ?_⟩
      refine ⟨h.r0.far (by show w.heap.size ≠ w.heap.size + 1 + 1; omega) _, h.r1.far (by show w.heap.size + 1 ≠ w.heap.size + 1 + 1; omega) _, ?_, h.ext.setCell (by show w.heap.size ≤ w.heap.size + 1 + 1; omega) _, by have := h.size; simpa using this, fun i v hi hv => ?_⟩
      · have := h.r2.set_ 0 (.int .i64 ((j : Int) + 1))
        simpa using this
      · by_cases e : i = j
        · subst e
          have := Hx.out.symm.trans hv
          cases this
          exact He.out
        · exact h.fine i v (by omega) hv
    · have H := Lib.hid h
      have hcd := hV.bad hx he
      have y0 := h.r0.cell 0
      have y1 := h.r1.cell 0
      have f0 := h.r0.free 0
      have f1 := h.r1.free 0
      have l0 := h.r0.lt
      have l1 := h.r1.lt
      have q : ((x.e : Int) != 0) = true := by rw [bne_iff_ne]; omega
      have Hcd := Lib.hid hcd
      have He := Lib.hid he
      clear h he h7 b0 b1 b2 b3 b4 hit hwa hx hcd
      have hmx : Try.prog.follows .mixedOrders = true := by kernel_rfl
      gi_wp2
      gi_region_with_o (fail)
      all_goals gi_wp2
      all_goals
        have h := H.out
        refine ⟨((KeepsOthers.setCell _ _ _).trans (KeepsOthers.setCell _ _ _)).trans (KeepsOthers.drew _), rfl, ?_, ?_, ?_, by rw [Hcd.out]; exact He.out⟩
        · have := ((h.r0.set_ 0 (.int .i64 0)).far (p := ⟨w.heap.size + 1, 0, none⟩) (by show w.heap.size ≠ w.heap.size + 1; omega) (.int .u8 (x.e : Int))).drew
          simpa using this
        · have := ((h.r1.far (p := ⟨w.heap.size, 0, none⟩) (by show w.heap.size + 1 ≠ w.heap.size; omega) (.int .i64 0)).set_ 0 (.int .u8 (x.e : Int))).drew
          rw [Hcd.out]
          simpa using this
        · exact ((h.ext.setCell (p := ⟨w.heap.size, 0, none⟩) (Nat.le_refl _) _).setCell (p := ⟨w.heap.size + 1, 0, none⟩) (Nat.le_succ _) _).drew
  case done =>
    intro D W hD h hK
    have y2 := h.r2.cell 0
    have l2 := h.r2.lt
    have H := Lib.hid h
    have z0 := h.r0.cell 0
    have z1 := h.r1.cell 0
    have g0 := h.r0.free 0
    have g1 := h.r1.free 0
    have l0 := h.r0.lt
    have l1 := h.r1.lt
    have hcd := hV.fine h.fine
    have hll : vs.length = (valsV k bs).length := by rw [← hV.list, List.length_map]
    have HK := Lib.hid hK
    have Hcd := Lib.hid hcd
    have Hll := Lib.hid hll
    clear h b0 b1 b2 b3 b4 hit hwa hcd hll
    gi_wp2
    have h := H.out
    refine ⟨by simp, .inl ⟨_, _, rfl, run_takeDeferred (b := D) (ds := []) ?_, ?_⟩⟩
    · rw [Below.heap_setCell _ ⟨w.heap.size + 1, 0, none⟩ _ D (by show D ≠ w.heap.size + 1; omega), Below.heap_setCell _ ⟨w.heap.size, 0, none⟩ _ D (by show D ≠ w.heap.size; omega)]
      exact HK.out
    · have R0 := (((h.r0.set_ 0 (.int .i64 (vs.length : Int))).far (p := ⟨w.heap.size + 1, 0, none⟩) (by show w.heap.size ≠ w.heap.size + 1; omega) (.int .u8 0)).putObj (D := D) (by omega) (.deferred none)).cell 0
      have R1 := (((h.r1.far (p := ⟨w.heap.size, 0, none⟩) (by show w.heap.size + 1 ≠ w.heap.size; omega) (.int .i64 (vs.length : Int))).set_ 0 (.int .u8 0)).putObj (D := D) (by omega) (.deferred none)).cell 0
      have E : Ext w (((W.setCell ⟨w.heap.size, 0, none⟩ (.int .i64 (vs.length : Int))).setCell ⟨w.heap.size + 1, 0, none⟩ (.int .u8 0)).putObj D (.deferred none)) := (only_putObj _ _ _).toExt ((h.ext.setCell (p := ⟨w.heap.size, 0, none⟩) (Nat.le_refl _) _).setCell (p := ⟨w.heap.size + 1, 0, none⟩) (Nat.le_succ _) _) (by omega)
      simp at R0 R1
      exact ⟨.tuple #[.int .i64 (vs.length : Int), .int .u8 0], by simp [results, Try.results55, go_sem, R0, R1], by unfold countV; rw [Hcd.out, if_pos rfl, Hll.out]; rfl, E⟩
  case stop =>
    intro D cc W hD h hK
    obtain rfl := h.ret
    have H := Lib.hid h
    have HK := Lib.hid hK
    clear h b0 b1 b2 b3 b4 hit hwa
    gi_wp2
    have h := H.out
    refine ⟨by simp, .inl ⟨_, _, rfl, run_takeDeferred HK.out, ?_⟩⟩
    have R0 := (h.r0.putObj (D := D) (by omega) (.deferred none)).cell 0
    have R1 := (h.r1.putObj (D := D) (by omega) (.deferred none)).cell 0
    have E : Ext w (W.putObj D (.deferred none)) := (only_putObj _ _ _).toExt h.ext (by omega)
    simp at R0 R1
    exact ⟨.tuple #[.int .i64 0, .int .u8 (codeV k bs : Nat)], by simp [results, Try.results55, go_sem, R0, R1], by unfold countV; rw [if_neg h.bad]; rfl, E⟩

end Go.Proofs.Ytlmmlmmadgcmcaa
