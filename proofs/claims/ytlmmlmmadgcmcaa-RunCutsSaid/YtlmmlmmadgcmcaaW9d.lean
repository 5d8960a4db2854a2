/- Contracts of layer 9: is a run canonical; runs packed. -/
import Derived.Test.YtlmmlmmadgcmcaaW9c
namespace Go.Proofs.Ytlmmlmmadgcmcaa
open Go.RowKit Go.Shelf
set_option linter.unusedVariables false
attribute [local go_sem] Oper.semAt_some

/-- Is a run canonical? -/
def canV (k : Int) (bs : List UInt8) : Bool := (valsV k bs).all fun v => decide (v.2 = 0) && canonB k v.1

theorem Vals.can_no {k : Int} {bs : List UInt8} {w : World} {m j : Nat} {vs : List RunV} {x : RunV} (h : Vals k bs w m vs) (hx : vs[j]? = some x) (he : x.e ≠ 0 ∨ canonB k x.bs = false) : canV k bs = false := by
  unfold canV
  rw [← h.list, List.all_map, List.all_eq_false]
  refine ⟨x, List.mem_of_getElem? hx, ?_⟩
  rcases he with he | he
  · simp [he]
  · simp [he]

theorem Vals.can_yes {k : Int} {bs : List UInt8} {w : World} {m : Nat} {vs : List RunV} (h : Vals k bs w m vs) (hf : ∀ (i : Nat) v, i < vs.length → vs[i]? = some v → v.e = 0 ∧ canonB k v.bs = true) : canV k bs = true := by
  unfold canV
  rw [← h.list, List.all_map, List.all_eq_true]
  intro x hx
  obtain ⟨i, hi⟩ := List.getElem?_of_mem hx
  have := hf i x (List.getElem?_eq_some_iff.1 hi).1 hi
  simp [this.1, this.2]

structure CanI (k : Int) (w wa : World) (vs : List RunV) (j : Nat) (W : World) : Prop where
  bk : BlkT W w.heap.size 3 #[.int .i64 k]
  r0 : BlkT W (w.heap.size + 1) 4 #[.bool false]
  ext : Ext w W
  size : wa.heap.size ≤ W.heap.size
  fine : ∀ (i : Nat) v, i < j → vs[i]? = some v → v.e = 0 ∧ canonB k v.bs = true

structure CanX (w : World) (bs : List UInt8) (k : Int) (c : Code) (W : World) : Prop where
  ret : c = .ret
  r0 : BlkT W (w.heap.size + 1) 4 #[.bool false]
  ext : Ext w W
  bad : canV k bs = false

set_option maxRecDepth 100000 in
set_option maxHeartbeats 1000000 in
theorem uCanonical {A : Option Addr} {m c : Nat} {bs : List UInt8} {k : Int} {w : World} (hb : BytesAt w A m c bs) (hm : m ≤ 1000000000) :
    Calls Try.prog 53 #[.int .i64 k, .slice A m c] w fun e w' => e = .returned (.bool (canV k bs)) ∧ Ext w w' := by
  refine (callsIn_wide (n := 3)).1 ?_
  refine callsIn_of_wp_marks Try.func53 rfl trivial ?_ rfl
  simp only [Try.ntmps53, List.size_toArray, List.length_cons, List.length_nil, Nat.reduceAdd, Nat.reduceSub, Array.replicate_succ, Array.replicate_zero, List.push_toArray, List.append_toArray, List.nil_append, List.cons_append]
  gi_wp2_with (first | (refine ⟨trivial, ?_⟩; gi_at_call 87; refine (callsIn_wide.2 uValues).mono ?_; rintro e w1 ⟨rfl, rfl⟩))
  obtain ⟨wa, hwa⟩ : ∃ wa, wa = ((((w.alloc (.cells #[.int .i64 k] 3)).alloc (.cells #[.bool false] 4)).alloc (.cells #[.int .i64 k] 3)).alloc (.cells #[.slice A m c] 43)) := ⟨_, rfl⟩
  rw [← hwa]
  have X : Ext w wa := by rw [hwa]; exact (by repeat with_reducible (first | exact Ext.refl _ | refine Ext.alloc ?_ _ | refine Ext.drew ?_ | refine Ext.drewN ?_ _ | refine Ext.setCell ?_ (by first | exact Nat.le_refl _ | omega | (simp; done) | (simp; omega)) _))
  have sz : wa.heap.size = w.heap.size + 4 := by rw [hwa]; simp
  have bk : BlkT wa w.heap.size 3 #[.int .i64 k] := by rw [hwa]; exact (((BlkT.new w _ _ rfl).alloc _).alloc _).alloc _
  have b0 : BlkT wa (w.heap.size + 1) 4 #[.bool false] := by rw [hwa]; exact ((BlkT.new _ _ _ (by simp)).alloc _).alloc _
  have b3 : BlkT wa (w.heap.size + 1 + 1) 3 #[.int .i64 k] := by rw [hwa]; exact (BlkT.new _ _ _ (by simp)).alloc _
  have b4 : BlkT wa (w.heap.size + 1 + 1 + 1) 43 #[.slice A m c] := by rw [hwa]; exact BlkT.new _ _ _ (by simp)
  obtain ⟨vs, hV, hit⟩ := vals_iter hb hm X b4 b3 (by omega) (by omega) (by omega)
  refine wp_range (w := wa) rfl (enters_of Try.func105 (by kernel_rfl) rfl) hit (fun b h => by have := b4.lt; omega) b4.lt (fun _ => rfl)
    (CanI k w wa vs) (CanX w bs k)
    (fun j x a₁ W => CanI k w wa vs j W ∧ ∃ b7, BlkT W b7 131 #[.slice x.A x.n x.c, .int .u8 (x.e : Int)] ∧ w.heap.size + 4 ≤ b7 ∧ a₁ = { tmps := #[.int .i64 k, .slice A m c, .pointer (some ⟨w.heap.size, 0, none⟩), undef, .pointer (some ⟨w.heap.size + 1, 0, none⟩), .pointer (some ⟨b7, 0, none⟩), .int .i64 k, .slice A m c,
      .func (.func 105) #[] #[.pointer (some ⟨w.heap.size + 1 + 1, 0, none⟩), .pointer (some ⟨w.heap.size + 1 + 1 + 1, 0, none⟩)], runV x, undef, undef, undef, undef, undef, undef, undef, undef, undef, undef], defers := [] })
    (fun j W h => h.size) ?hI ?hIB ?hIx ?hIxB ?hA ⟨bk, b0, X, Nat.le_refl _, fun i v h => absurd h (Nat.not_lt_zero i)⟩ ?assign ?body ?done ?stop
  case hI =>
    intro j W W' b o h hb2 ho hc hO
    exact ⟨h.bk.besides ho hc hO, h.r0.besides ho hc hO, hO.toExt h.ext (by omega), Nat.le_trans h.size hO.size, h.fine⟩
  case hIB =>
    intro j W W' h hO
    exact ⟨h.bk.onlyB hO (by omega), h.r0.onlyB hO (by omega), hO.toExt h.ext (by omega), Nat.le_trans h.size hO.size, h.fine⟩
  case hIx =>
    intro cc W W' b o h hb2 ho hc hO
    exact ⟨h.ret, h.r0.besides ho hc hO, hO.toExt h.ext (by omega), h.bad⟩
  case hIxB =>
    intro cc W W' h hO
    exact ⟨h.ret, h.r0.onlyB hO (by omega), hO.toExt h.ext (by omega), h.bad⟩
  case hA =>
    rintro j x a₁ W W' b o ⟨h, b7, h7, hl, rfl⟩ hb2 ho hc hO
    exact ⟨⟨h.bk.besides ho hc hO, h.r0.besides ho hc hO, hO.toExt h.ext (by omega), Nat.le_trans h.size hO.size, h.fine⟩, b7, h7.besides ho hc hO, hl, rfl⟩
  case assign =>
    intro l j x W K h hx hK
    unfold runV
    gi_wp2
    refine hK _ _ ⟨?_, W.heap.size, BlkT.new W _ _ rfl, by have := h.size; omega, rfl⟩ (Ext.alloc (Ext.refl W) _)
    exact ⟨h.bk.alloc _, h.r0.alloc _, h.ext.alloc _, Nat.le_trans h.size (by simp), h.fine⟩
  case body =>
    rintro l j x a₁ W ⟨h, b7, h7, hl, rfl⟩ hx
    have y7 : W.cell? ⟨b7, 1, none⟩ = some (.int .u8 (x.e : Int)) := h7.cell 1
    have y70 : W.cell? ⟨b7, 0, none⟩ = some (.slice x.A x.n x.c) := h7.cell 0
    have yl := h7.lt
    have H := Lib.hid h
    have hsz := h.size
    have yk := h.bk.cell 0
    have lk := h.bk.lt
    have R0 := Lib.hid h.r0
    by_cases he : x.e = 0
    · have q : ((x.e : Int) != 0) = false := by rw [he]; rfl
      have hbx : BytesAt W x.A x.n x.c x.bs := ((hV.each x (List.mem_of_getElem? hx)).1).up h.ext
      rcases hcc : canonB k x.bs with _ | _
      · have hcd := hV.can_no hx (.inr hcc)
        have Hcd := Lib.hid hcd
        have Hcc := Lib.hid hcc
        clear h he h7 bk b0 b3 b4 hit hwa hx hcc hcd
        gi_wp2_with (first | (refine ⟨trivial, ?_⟩; gi_at_call 38; refine (CallsIn.inRound l (callsIn_wide.2 (sCanonical (k := k) hbx))).mono ?_; rintro e w2 ⟨rfl, E2⟩; rw [Hcc.out]; have z0 := (R0.out.up E2).cell 0; have zf := (R0.out.up E2).free 0; have zl := (R0.out.up E2).lt))
        have h := H.out
        refine ⟨KeepsOthers.trans ⟨E2.size, fun l o h _ => (E2.block l (Array.getElem?_eq_some_iff.1 h).1).trans h⟩ (KeepsOthers.setCell _ _ _), rfl, ?_, ?_, Hcd.out⟩
        · have := (R0.out.up E2).set_ 0 (.bool false)
          simpa using this
        · exact (h.ext.trans E2).setCell (p := ⟨w.heap.size + 1, 0, none⟩) (Nat.le_succ _) _
      · have Hcc := Lib.hid hcc
        have He := Lib.hid he
        have Hx := Lib.hid hx
        clear h he h7 bk b0 b3 b4 hit hwa hx hcc
        gi_wp2_with (first | (refine ⟨trivial, ?_⟩; gi_at_call 38; refine (CallsIn.inRound l (callsIn_wide.2 (sCanonical (k := k) hbx))).mono ?_; rintro e w2 ⟨rfl, E2⟩; rw [Hcc.out]))
        have h := H.out
        refine ⟨⟨E2.size, fun l o h _ => (E2.block l (Array.getElem?_eq_some_iff.1 h).1).trans h⟩, fun b hb3 => E2.block b (by omega), h.bk.up E2, h.r0.up E2, h.ext.trans E2, Nat.le_trans hsz E2.size, fun i v hi hv => ?_⟩
        by_cases e : i = j
        · subst e
          have := Hx.out.symm.trans hv
          cases this
          exact ⟨He.out, Hcc.out⟩
        · exact h.fine i v (by omega) hv
    · have q : ((x.e : Int) != 0) = true := by rw [bne_iff_ne]; omega
      have hcd := hV.can_no hx (.inl he)
      have Hcd := Lib.hid hcd
      have z0 := h.r0.cell 0
      have zf := h.r0.free 0
      have zl := h.r0.lt
      clear h he h7 bk b0 b3 b4 hit hwa hx hcd
      gi_wp2
      refine ⟨trivial, ?_⟩
      gi_wp2
      have h := H.out
      refine ⟨KeepsOthers.setCell _ _ _, rfl, ?_, ?_, Hcd.out⟩
      · have := h.r0.set_ 0 (.bool false)
        simpa using this
      · exact h.ext.setCell (p := ⟨w.heap.size + 1, 0, none⟩) (Nat.le_succ _) _
  case done =>
    intro D W hD h hK
    have H := Lib.hid h
    have z0 := h.r0.cell 0
    have g0 := h.r0.free 0
    have l0 := h.r0.lt
    have Hcd := Lib.hid (hV.can_yes h.fine)
    have HK := Lib.hid hK
    clear h bk b0 b3 b4 hit hwa
    gi_wp2
    have h := H.out
    refine ⟨by simp, .inl ⟨_, _, rfl, run_takeDeferred (b := D) (ds := []) ?_, ?_⟩⟩
    · rw [Below.heap_setCell _ ⟨w.heap.size + 1, 0, none⟩ _ D (by show D ≠ w.heap.size + 1; omega)]
      exact HK.out
    · have R0 := ((h.r0.set_ 0 (.bool true)).putObj (D := D) (by omega) (.deferred none)).cell 0
      have E : Ext w ((W.setCell ⟨w.heap.size + 1, 0, none⟩ (.bool true)).putObj D (.deferred none)) := (only_putObj _ _ _).toExt (h.ext.setCell (p := ⟨w.heap.size + 1, 0, none⟩) (Nat.le_succ _) _) (by omega)
      simp at R0
      exact ⟨.bool true, by simp [results, Try.results53, go_sem, R0], by rw [Hcd.out], E⟩
  case stop =>
    intro D cc W hD h hK
    obtain rfl := h.ret
    have H := Lib.hid h
    have HK := Lib.hid hK
    clear h bk b0 b3 b4 hit hwa
    gi_wp2
    have h := H.out
    refine ⟨by simp, .inl ⟨_, _, rfl, run_takeDeferred HK.out, ?_⟩⟩
    have R0 := (h.r0.putObj (D := D) (by omega) (.deferred none)).cell 0
    have E : Ext w (W.putObj D (.deferred none)) := (only_putObj _ _ _).toExt h.ext (by omega)
    simp at R0
    exact ⟨.bool false, by simp [results, Try.results53, go_sem, R0], by rw [h.bad], E⟩

end Go.Proofs.Ytlmmlmmadgcmcaa
