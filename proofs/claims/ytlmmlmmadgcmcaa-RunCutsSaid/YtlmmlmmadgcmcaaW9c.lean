/- Contracts of layer 9: the words of a run. -/
import Derived.Test.YtlmmlmmadgcmcaaW9b
import Derived.RangeFuncBox
namespace Go.Proofs.Ytlmmlmmadgcmcaa
open Go.RowKit Go.Shelf
set_option linter.unusedVariables false
attribute [local go_sem] Oper.semAt_some

/-- 'out = append(out, x)' inside a fence, out owned above a base: the world has just laid x in a block of its own. -/
theorem wpListIn_rowOne {F : Fence} {d : Nat} {P : Program} {ops : Array Oper} {rest : List Oper} {o : Oper} {a : Act} {Q : Exit → Act → World → Prop} {t e : TypeId} {bytes base : Nat} {w : World} {A : Option Addr} {n c : Nat} {xs : List Value} (T : Elem P t e 1 bytes) (hgd : o.guard = none) (s x : Operand)
    (ho : o.op = .call { callee := .builtin .append, args := #[s, x], argTypes := #[t, t] })
    (hs : a.eval s = .slice A n c) (row : w.ownsRow base e 1 (.slice A n c) n xs) {u : Value} {b : Nat} (hx : a.eval x = .slice (some ⟨b, 0, none⟩) 1 1) (hb0 : b = w.heap.size)
    (h1 : u.oneCell' = true) (hb : (n + 1) * bytes ≤ 140737488355328) (h63 : n + 1 ≤ maxLen) (hbase : base ≤ w.heap.size)
    (k : ∀ A' c' w', w'.ownsRow base e 1 (.slice A' (n + 1) c') (n + 1) (xs ++ [u]) → (w.alloc (.cells #[u] e)).grownBy w' (Value.slice A n c).ownBlock → wpListIn F d P ops Q rest (a.put o.dst (.slice A' (n + 1) c')) w') :
    wpListIn F d P ops Q (o :: rest) a (w.alloc (.cells #[u] e)) := by
  obtain ⟨i, z, hi, hz, hsz, hby, hzs⟩ := T.info
  subst hb0
  refine wpListIn_append_own _ hgd s x t ho base e i z 1 bytes T.under hi hz hsz hby hzs (by omega) (.slice A n c) n xs hs (row.alloc _) ⟨w.heap.size, 0, none⟩ 1 1 [u] hx rfl (fun j v hv => ?_) (by simpa using h1) h63 hb (by simp; omega) ?_
  · rcases j with _ | j
    · simp at hv; subst hv
      simp [addr_add]
    · simp at hv
  · intro v' w' hrow hg _
    obtain ⟨g, cap, rfl⟩ := ownsRow_succ hrow
    exact k _ _ _ hrow hg

theorem row_up {W W' : World} {base : Nat} {e : TypeId} {size n c : Nat} {A : Option Addr} {xs : List Value} (h : W.ownsRow base e size (.slice A n c) n xs) (hE : Ext W W') : W'.ownsRow base e size (.slice A n c) n xs := by
  refine ⟨h.1, ?_⟩
  rcases h.2 with h2 | ⟨g, cap, cur, hv, hg, hh, r⟩
  · exact .inl h2
  · refine .inr ⟨g, cap, cur, hv, hg, ?_, r⟩
    rw [hE.block g (Array.getElem?_eq_some_iff.1 hh).1]
    exact hh

theorem row_only {W W' : World} {base B : Nat} {e : TypeId} {size n c : Nat} {A : Option Addr} {xs : List Value} (h : W.ownsRow base e size (.slice A n c) n xs) (hO : Only B W W') (hB : B < base) : W'.ownsRow base e size (.slice A n c) n xs := by
  refine h.kept hO ?_
  rcases h.2 with ⟨hv, _⟩ | ⟨g, cap, cur, hv, hg, _⟩
  · exact .inl (by rw [hv]; rfl)
  · refine .inr fun e' => ?_
    rw [hv] at e'
    have : g = B := by simpa [Value.ownBlock] using e'
    omega

theorem row_besides {W W' : World} {base b : Nat} {e : TypeId} {size n c : Nat} {A : Option Addr} {xs : List Value} {o : Obj} (h : W.ownsRow base e size (.slice A n c) n xs) (ho : W.heap[b]? = some o) (hc : o.isCells = false) (hO : Only b W W') : W'.ownsRow base e size (.slice A n c) n xs := by
  refine h.kept hO ?_
  rcases h.2 with ⟨hv, _⟩ | ⟨g, cap, cur, hv, hg, hh, _⟩
  · exact .inl (by rw [hv]; rfl)
  · refine .inr fun e' => ?_
    rw [hv] at e'
    have : g = b := by simpa [Value.ownBlock] using e'
    subst this
    rw [ho] at hh
    cases hh
    cases hc

theorem row_block {W : World} {base : Nat} {e : TypeId} {size n c : Nat} {A : Option Addr} {xs : List Value} (h : W.ownsRow base e size (.slice A n c) n xs) {b : Nat} (hb : (Value.slice A n c).ownBlock = some b) : base ≤ b ∧ ∃ o, W.heap[b]? = some o ∧ o.isCells = true := by
  rcases h.2 with ⟨hv, _⟩ | ⟨g, cap, cur, hv, hg, hh, _⟩
  · rw [hv] at hb; cases hb
  · rw [hv] at hb
    have : g = b := by simpa [Value.ownBlock] using hb
    subst this
    exact ⟨hg, _, hh, rfl⟩

/-- Behind an append onto a slice owned above a base, a block below it. -/
theorem row_beside {W w2 w4 : World} {base : Nat} {e : TypeId} {size n c : Nat} {A : Option Addr} {xs : List Value} {o : Obj} (row : W.ownsRow base e size (.slice A n c) n xs) (E2 : Ext W w2) (hbase : base ≤ W.heap.size) (hg : (w2.alloc o).grownBy w4 (Value.slice A n c).ownBlock) {b : Nat} (hb : b < base) : w4.heap[b]? = W.heap[b]? := by
  have l2 := E2.size
  refine (hg.block b (by simp; omega) (fun q => ?_)).trans ((Below.heap_alloc _ _ _ (by omega)).trans (E2.block b (by omega)))
  have := (row_block row q.symm).1
  omega

theorem row_appended {W w2 w4 : World} {base B : Nat} {e : TypeId} {size n c : Nat} {A : Option Addr} {xs : List Value} {o : Obj} (row : W.ownsRow base e size (.slice A n c) n xs) (E2 : Ext W w2) (hbase : base ≤ W.heap.size) (hg : (w2.alloc o).grownBy w4 (Value.slice A n c).ownBlock) (hB : B < base) (v : Value) :
    KeepsOthers W (w4.setCell ⟨B, 0, none⟩ v) ∧ (∀ b, b < base → b ≠ B → (w4.setCell ⟨B, 0, none⟩ v).heap[b]? = W.heap[b]?) ∧ (∀ w0, Ext w0 W → w0.heap.size ≤ B → Ext w0 (w4.setCell ⟨B, 0, none⟩ v)) ∧ W.heap.size ≤ (w4.setCell ⟨B, 0, none⟩ v).heap.size := by
  have hk : KeepsOthers W w2 := ⟨E2.size, fun l o h _ => (E2.block l (Array.getElem?_eq_some_iff.1 h).1).trans h⟩
  have hk4 : KeepsOthers W w4 := (hk.trans (KeepsOthers.alloc w2 o)).trans (KeepsOthers.of_grownBy hg fun j o' ej hj => by
    obtain ⟨_, o2, h2, hc⟩ := row_block row ej
    have h3 := (Below.heap_alloc w2 o j (by have := (Array.getElem?_eq_some_iff.1 h2).1; have := E2.size; omega)).trans ((E2.block j (Array.getElem?_eq_some_iff.1 h2).1).trans h2)
    rw [h3] at hj
    cases hj
    exact hc)
  refine ⟨hk4.trans (KeepsOthers.setCell _ _ _), fun b hb hne => (Below.heap_setCell w4 ⟨B, 0, none⟩ v b hne).trans (row_beside row E2 hbase hg hb), fun w0 h0 hw => ?_, (hk4.trans (KeepsOthers.setCell _ _ _)).size⟩
  refine Ext.setCell (p := ⟨B, 0, none⟩) (Below.grown ((h0.trans E2).alloc o) hg (((h0.trans E2).alloc o).size) (fun k hk => ?_)) hw v
  have := (row_block row hk).1
  omega

/-- The words of a run, if it is one; the code. -/
def wordsV (k : Int) (bs : List UInt8) : List Nat × Nat := (if codeV k bs = 0 then (valsV k bs).map (fun v => (readS k v.1).1) else [], codeV k bs)

structure WordsI (k : Int) (w wa : World) (vs : List RunV) (j : Nat) (W : World) : Prop where
  bk : BlkT W w.heap.size 3 #[.int .i64 k]
  r0 : BlkT W (w.heap.size + 1) 86 #[.slice none 0 0]
  r1 : BlkT W (w.heap.size + 1 + 1) 28 #[.int .u8 0]
  r2 : ∃ A c, BlkT W (w.heap.size + 1 + 1 + 1) 86 #[.slice A j c] ∧ W.ownsRow wa.heap.size 64 1 (.slice A j c) j ((vs.take j).map fun v => uv (readS k v.bs).1)
  ext : Ext w W
  size : wa.heap.size ≤ W.heap.size
  fine : ∀ (i : Nat) v, i < j → vs[i]? = some v → v.e = 0

structure WordsX (w : World) (bs : List UInt8) (k : Int) (c : Code) (W : World) : Prop where
  ret : c = .ret
  r0 : BlkT W (w.heap.size + 1) 86 #[.slice none 0 0]
  r1 : BlkT W (w.heap.size + 1 + 1) 28 #[.int .u8 (codeV k bs : Nat)]
  ext : Ext w W
  bad : codeV k bs ≠ 0

set_option maxRecDepth 100000 in
set_option maxHeartbeats 1000000 in
theorem uWords {A : Option Addr} {m c : Nat} {bs : List UInt8} {k : Int} {w : World} (hb : BytesAt w A m c bs) (hm : m ≤ 1000000000) :
    Calls Try.prog 44 #[.int .i64 k, .slice A m c] w fun e w' => ∃ A' c', e = .returned (.tuple #[.slice A' (wordsV k bs).1.length c', .int .u8 ((wordsV k bs).2 : Nat)]) ∧ Own w w' 64 1 A' (wordsV k bs).1.length c' ((wordsV k bs).1.map uv) := by
  refine (callsIn_wide (n := 3)).1 ?_
  refine callsIn_of_wp_marks Try.func44 rfl trivial ?_ rfl
  simp only [Try.ntmps44, List.size_toArray, List.length_cons, List.length_nil, Nat.reduceAdd, Nat.reduceSub, Array.replicate_succ, Array.replicate_zero, List.push_toArray, List.append_toArray, List.nil_append, List.cons_append]
  gi_wp2_with (first | (refine ⟨trivial, ?_⟩; gi_at_call 87; refine (callsIn_wide.2 uValues).mono ?_; rintro e w1 ⟨rfl, rfl⟩))
  obtain ⟨wa, hwa⟩ : ∃ wa, wa = ((((((w.alloc (.cells #[.int .i64 k] 3)).alloc (.cells #[.slice none 0 0] 86)).alloc (.cells #[.int .u8 0] 28)).alloc (.cells #[.slice none 0 0] 86)).alloc (.cells #[.int .i64 k] 3)).alloc (.cells #[.slice A m c] 43)) := ⟨_, rfl⟩
  rw [← hwa]
  have X : Ext w wa := by rw [hwa]; exact (by repeat with_reducible (first | exact Ext.refl _ | refine Ext.alloc ?_ _ | refine Ext.drew ?_ | refine Ext.drewN ?_ _ | refine Ext.setCell ?_ (by first | exact Nat.le_refl _ | omega | (simp; done) | (simp; omega)) _))
  have sz : wa.heap.size = w.heap.size + 6 := by rw [hwa]; simp
  have bk : BlkT wa w.heap.size 3 #[.int .i64 k] := by rw [hwa]; exact (((((BlkT.new w _ _ rfl).alloc _).alloc _).alloc _).alloc _).alloc _
  have b0 : BlkT wa (w.heap.size + 1) 86 #[.slice none 0 0] := by rw [hwa]; exact ((((BlkT.new _ _ _ (by simp)).alloc _).alloc _).alloc _).alloc _
  have b1 : BlkT wa (w.heap.size + 1 + 1) 28 #[.int .u8 0] := by rw [hwa]; exact (((BlkT.new _ _ _ (by simp)).alloc _).alloc _).alloc _
  have b2 : BlkT wa (w.heap.size + 1 + 1 + 1) 86 #[.slice none 0 0] := by rw [hwa]; exact ((BlkT.new _ _ _ (by simp)).alloc _).alloc _
  have b3 : BlkT wa (w.heap.size + 1 + 1 + 1 + 1) 3 #[.int .i64 k] := by rw [hwa]; exact (BlkT.new _ _ _ (by simp)).alloc _
  have b4 : BlkT wa (w.heap.size + 1 + 1 + 1 + 1 + 1) 43 #[.slice A m c] := by rw [hwa]; exact BlkT.new _ _ _ (by simp)
  obtain ⟨vs, hV, hit⟩ := vals_iter hb hm X b4 b3 (by omega) (by omega) (by omega)
  have hvl : vs.length ≤ m + 1 := by have := valsV_len k bs; rw [← hV.list, List.length_map, hb.length] at this; exact this
  refine wp_range (w := wa) rfl (enters_of Try.func105 (by kernel_rfl) rfl) hit (fun b h => by have := b4.lt; omega) b4.lt (fun _ => rfl)
    (WordsI k w wa vs) (WordsX w bs k)
    (fun j x a₁ W => WordsI k w wa vs j W ∧ ∃ b7, BlkT W b7 131 #[.slice x.A x.n x.c, .int .u8 (x.e : Int)] ∧ w.heap.size + 6 ≤ b7 ∧ a₁ = { tmps := #[.int .i64 k, .slice A m c, .pointer (some ⟨w.heap.size, 0, none⟩), undef, .pointer (some ⟨w.heap.size + 1, 0, none⟩), .pointer (some ⟨w.heap.size + 1 + 1, 0, none⟩), .pointer (some ⟨w.heap.size + 1 + 1 + 1, 0, none⟩), .pointer (some ⟨b7, 0, none⟩), undef, undef, .int .i64 k, .slice A m c,
      .func (.func 105) #[] #[.pointer (some ⟨w.heap.size + 1 + 1 + 1 + 1, 0, none⟩), .pointer (some ⟨w.heap.size + 1 + 1 + 1 + 1 + 1, 0, none⟩)], runV x, undef, undef, undef, undef, undef, undef, undef, undef, undef, undef, undef, undef, undef, undef, undef, undef, undef], defers := [] })
    (fun j W h => h.size) ?hI ?hIB ?hIx ?hIxB ?hA ⟨bk, b0, b1, ⟨none, 0, b2, World.ownsRow_nil _ _ _ _⟩, X, Nat.le_refl _, fun i v h => absurd h (Nat.not_lt_zero i)⟩ ?assign ?body ?done ?stop
  case hI =>
    intro j W W' b o h hb2 ho hc hO
    obtain ⟨A2, c2, r2, row⟩ := h.r2
    exact ⟨h.bk.besides ho hc hO, h.r0.besides ho hc hO, h.r1.besides ho hc hO, ⟨A2, c2, r2.besides ho hc hO, row_besides row ho hc hO⟩, hO.toExt h.ext (by omega), Nat.le_trans h.size hO.size, h.fine⟩
  case hIB =>
    intro j W W' h hO
    obtain ⟨A2, c2, r2, row⟩ := h.r2
    exact ⟨h.bk.onlyB hO (by omega), h.r0.onlyB hO (by omega), h.r1.onlyB hO (by omega), ⟨A2, c2, r2.onlyB hO (by omega), row_only row hO (by omega)⟩, hO.toExt h.ext (by omega), Nat.le_trans h.size hO.size, h.fine⟩
  case hIx =>
    intro cc W W' b o h hb2 ho hc hO
    exact ⟨h.ret, h.r0.besides ho hc hO, h.r1.besides ho hc hO, hO.toExt h.ext (by omega), h.bad⟩
  case hIxB =>
    intro cc W W' h hO
    exact ⟨h.ret, h.r0.onlyB hO (by omega), h.r1.onlyB hO (by omega), hO.toExt h.ext (by omega), h.bad⟩
  case hA =>
    rintro j x a₁ W W' b o ⟨h, b7, h7, hl, rfl⟩ hb2 ho hc hO
    obtain ⟨A2, c2, r2, row⟩ := h.r2
    exact ⟨⟨h.bk.besides ho hc hO, h.r0.besides ho hc hO, h.r1.besides ho hc hO, ⟨A2, c2, r2.besides ho hc hO, row_besides row ho hc hO⟩, hO.toExt h.ext (by omega), Nat.le_trans h.size hO.size, h.fine⟩, b7, h7.besides ho hc hO, hl, rfl⟩
  case assign =>
    intro l j x W K h hx hK
    unfold runV
    gi_wp2
    refine hK _ _ ⟨?_, W.heap.size, BlkT.new W _ _ rfl, by have := h.size; omega, rfl⟩ (Ext.alloc (Ext.refl W) _)
    obtain ⟨A2, c2, r2, row⟩ := h.r2
    exact ⟨h.bk.alloc _, h.r0.alloc _, h.r1.alloc _, ⟨A2, c2, r2.alloc _, row.alloc _⟩, h.ext.alloc _, Nat.le_trans h.size (by simp), h.fine⟩
  case body =>
    rintro l j x a₁ W ⟨h, b7, h7, hl, rfl⟩ hx
    have y7 : W.cell? ⟨b7, 1, none⟩ = some (.int .u8 (x.e : Int)) := h7.cell 1
    have y70 : W.cell? ⟨b7, 0, none⟩ = some (.slice x.A x.n x.c) := h7.cell 0
    have yl := h7.lt
    by_cases he : x.e = 0
    · have H := Lib.hid h
      obtain ⟨A2, c2, r2, row⟩ := h.r2
      have q : ((x.e : Int) != 0) = false := by rw [he]; rfl
      have He := Lib.hid he
      have Hx := Lib.hid hx
      have hj : j < vs.length := (List.getElem?_eq_some_iff.1 hx).1
      have hbx : BytesAt W x.A x.n x.c x.bs := ((hV.each x (List.mem_of_getElem? hx)).1).up h.ext
      rcases hrs : readS k x.bs with ⟨Wd, Cd⟩
      have Hrs := Lib.hid hrs
      have yk := h.bk.cell 0
      have lk := h.bk.lt
      have R2 := Lib.hid r2
      have Row := Lib.hid row
      have hsz := h.size
      clear h he h7 bk b0 b1 b2 b3 b4 hit hwa hx r2 row hrs
      gi_wp2_with (first | (refine ⟨trivial, ?_⟩; gi_at_call 36; refine (CallsIn.inRound l (callsIn_wide.2 (sRead hbx Hrs.out))).mono ?_; rintro e w2 ⟨rfl, E2⟩; have z2 := (R2.out.up E2).cell 0; have z2l := (R2.out.up E2).lt) | (gi_at_builtin; apply wpListIn_rowOne elemU rfl (.tmp 26) (.tmp 28) rfl rfl; (case row => exact row_up Row.out E2); (case hx => rfl); (case hb0 => first | rfl | simp); (case h1 => rfl); (case hb => omega); (case h63 => unfold maxLen; omega); (case hbase => have := E2.size; omega); intro A4 c4 w4 row4 g4; have z4 := (show BlkT w4 (w.heap.size + 1 + 1 + 1) 86 #[.slice A2 j c2] from (row_beside Row.out E2 hsz g4 (by omega)).trans R2.out); have y4 := z4.cell 0; have f4 := z4.free 0; have l4 := z4.lt; have Z4 := Lib.hid z4; have G4 := Lib.hid g4; have Row4 := Lib.hid row4; clear z4 g4 row4))
      have h := H.out
      obtain ⟨K1, K2, K3, K4⟩ := row_appended Row.out E2 hsz G4.out (show w.heap.size + 1 + 1 + 1 < wa.heap.size by omega) (.slice A4 (j + 1) c4)
      refine ⟨K1, fun b hb3 => K2 b (by omega) (by omega), ?_⟩
      refine ⟨(K2 _ (by omega) (by omega)).trans h.bk, (K2 _ (by omega) (by omega)).trans h.r0, (K2 _ (by omega) (by omega)).trans h.r1, ⟨A4, c4, ?_, ?_⟩, K3 w h.ext (by omega), Nat.le_trans hsz K4, fun i v hi hv => ?_⟩
      · have := Z4.out.set_ 0 (.slice A4 (j + 1) c4)
        simpa using this
      · refine ownsRow_setCell_below ?_ (by show w.heap.size + 1 + 1 + 1 < wa.heap.size; omega) _
        have e : (vs.take (j + 1)).map (fun v => uv (readS k v.bs).1) = (vs.take j).map (fun v => uv (readS k v.bs).1) ++ [uv Wd] := by
          rw [List.take_add_one, Hx.out]
          simp [Hrs.out]
        rw [e]
        simpa [uv] using Row4.out
      · by_cases e : i = j
        · subst e
          have := Hx.out.symm.trans hv
          cases this
          exact He.out
        · exact h.fine i v (by omega) hv
    · have H := Lib.hid h
      have hcd := hV.bad hx he
      have y0 := h.r0.cell 0
      have y1 := h.r1.cell 0
      have f0 := h.r0.free 0
      have f1 := h.r1.free 0
      have l0 := h.r0.lt
      have l1 := h.r1.lt
      have q : ((x.e : Int) != 0) = true := by rw [bne_iff_ne]; omega
      have Hcd := Lib.hid hcd
      have He := Lib.hid he
      clear h he h7 bk b0 b1 b2 b3 b4 hit hwa hx hcd y70
      have hmx : Try.prog.follows .mixedOrders = true := by kernel_rfl
      gi_wp2
      gi_region_with_o (fail)
      all_goals gi_wp2
      all_goals
        have h := H.out
        refine ⟨((KeepsOthers.setCell _ _ _).trans (KeepsOthers.setCell _ _ _)).trans (KeepsOthers.drew _), rfl, ?_, ?_, ?_, by rw [Hcd.out]; exact He.out⟩
        · have := ((h.r0.set_ 0 (.slice none 0 0)).far (p := ⟨w.heap.size + 1 + 1, 0, none⟩) (by show w.heap.size + 1 ≠ w.heap.size + 1 + 1; omega) (.int .u8 (x.e : Int))).drew
          simpa using this
        · have := ((h.r1.far (p := ⟨w.heap.size + 1, 0, none⟩) (by show w.heap.size + 1 + 1 ≠ w.heap.size + 1; omega) (.slice none 0 0)).set_ 0 (.int .u8 (x.e : Int))).drew
          rw [Hcd.out]
          simpa using this
        · exact ((h.ext.setCell (p := ⟨w.heap.size + 1, 0, none⟩) (Nat.le_succ _) _).setCell (p := ⟨w.heap.size + 1 + 1, 0, none⟩) (by show w.heap.size ≤ w.heap.size + 1 + 1; omega) _).drew
  case done =>
    intro D W hD h hK
    obtain ⟨A2, c2, r2, row⟩ := h.r2
    have y2 := r2.cell 0
    have l2 := r2.lt
    have H := Lib.hid h
    have z0 := h.r0.cell 0
    have z1 := h.r1.cell 0
    have g0 := h.r0.free 0
    have g1 := h.r1.free 0
    have l0 := h.r0.lt
    have l1 := h.r1.lt
    have hcd := hV.fine h.fine
    have hwv : wordsV k bs = (vs.map (fun v => (readS k v.bs).1), 0) := by
      unfold wordsV
      rw [hcd, if_pos rfl, ← hV.list, List.map_map]
      rfl
    have Hwv := Lib.hid hwv
    have HK := Lib.hid hK
    have Row := Lib.hid row
    clear h bk b0 b1 b2 b3 b4 hit hwa hcd hwv r2 row
    gi_wp2
    have h := H.out
    refine ⟨by simp, .inl ⟨_, _, rfl, run_takeDeferred (b := D) (ds := []) ?_, ?_⟩⟩
    · rw [Below.heap_setCell _ ⟨w.heap.size + 1 + 1, 0, none⟩ _ D (by show D ≠ w.heap.size + 1 + 1; omega), Below.heap_setCell _ ⟨w.heap.size + 1, 0, none⟩ _ D (by show D ≠ w.heap.size + 1; omega)]
      exact HK.out
    · have R0 := (((h.r0.set_ 0 (.slice A2 vs.length c2)).far (p := ⟨w.heap.size + 1 + 1, 0, none⟩) (by show w.heap.size + 1 ≠ w.heap.size + 1 + 1; omega) (.int .u8 0)).putObj (D := D) (by omega) (.deferred none)).cell 0
      have R1 := (((h.r1.far (p := ⟨w.heap.size + 1, 0, none⟩) (by show w.heap.size + 1 + 1 ≠ w.heap.size + 1; omega) (.slice A2 vs.length c2)).set_ 0 (.int .u8 0)).putObj (D := D) (by omega) (.deferred none)).cell 0
      have E : Ext w (((W.setCell ⟨w.heap.size + 1, 0, none⟩ (.slice A2 vs.length c2)).setCell ⟨w.heap.size + 1 + 1, 0, none⟩ (.int .u8 0)).putObj D (.deferred none)) := (only_putObj _ _ _).toExt ((h.ext.setCell (p := ⟨w.heap.size + 1, 0, none⟩) (Nat.le_succ _) _).setCell (p := ⟨w.heap.size + 1 + 1, 0, none⟩) (by show w.heap.size ≤ w.heap.size + 1 + 1; omega) _) (by omega)
      have row2 := ownsRow_setCell_below (ownsRow_setCell_below Row.out (a := ⟨w.heap.size + 1, 0, none⟩) (by show w.heap.size + 1 < wa.heap.size; omega) (.slice A2 vs.length c2)) (a := ⟨w.heap.size + 1 + 1, 0, none⟩) (by show w.heap.size + 1 + 1 < wa.heap.size; omega) (.int .u8 0)
      have row3 := ownsRow_putObj row2 (.deferred none) (l := D) (o := .deferred (some [])) (by
        rw [Below.heap_setCell _ ⟨w.heap.size + 1 + 1, 0, none⟩ _ D (by show D ≠ w.heap.size + 1 + 1; omega), Below.heap_setCell _ ⟨w.heap.size + 1, 0, none⟩ _ D (by show D ≠ w.heap.size + 1; omega)]
        exact HK.out) rfl
      rw [List.take_length] at row3
      simp at R0 R1
      refine ⟨.tuple #[.slice A2 vs.length c2, .int .u8 0], by simp [results, Try.results44, go_sem, R0, R1], A2, c2, ?_, ?_⟩
      · rw [Hwv.out]
        simp only [List.length_map]
        rfl
      · rw [Hwv.out, List.length_map, List.map_map]
        exact ⟨ownsRow_more row3 (by omega), E⟩
  case stop =>
    intro D cc W hD h hK
    obtain rfl := h.ret
    have H := Lib.hid h
    have HK := Lib.hid hK
    clear h bk b0 b1 b2 b3 b4 hit hwa
    gi_wp2
    have h := H.out
    refine ⟨by simp, .inl ⟨_, _, rfl, run_takeDeferred HK.out, ?_⟩⟩
    have R0 := (h.r0.putObj (D := D) (by omega) (.deferred none)).cell 0
    have R1 := (h.r1.putObj (D := D) (by omega) (.deferred none)).cell 0
    have E : Ext w (W.putObj D (.deferred none)) := (only_putObj _ _ _).toExt h.ext (by omega)
    simp at R0 R1
    have hwv : wordsV k bs = ([], codeV k bs) := by unfold wordsV; rw [if_neg h.bad]
    refine ⟨.tuple #[.slice none 0 0, .int .u8 (codeV k bs : Nat)], by simp [results, Try.results44, go_sem, R0, R1], none, 0, by rw [hwv]; rfl, ?_⟩
    rw [hwv]
    exact Own.nil E _ 1

end Go.Proofs.Ytlmmlmmadgcmcaa
