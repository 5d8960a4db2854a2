/- A drawn region by an invariant: each operation once, in whatever order. No program is named. -/
import Derived.Test.YtgjhglehghjoeaaGreatQbLib
import Derived.Orders
import Derived.Test.YtgjhglehghjoeaaGreatQbW14w
import Derived.Test.YtgjhglehghjoeaaGreatQbW14o

namespace Go.Proofs.YtgjhglehghjoeaaGreat
open Go.RowKit
set_option linter.unusedVariables false

section
variable {P : Program} {md : Region.Mode} {ops : Array Oper} {Q : Exit → Act → World → Prop}

theorem ready_spec {listed : Array Bool} {i : Nat} (h : i ∈ Region.ready md ops listed) : i < ops.size ∧ listed.getD i true = false ∧ ∀ o, ops[i]? = some o → o.after.all (fun e => !Region.binds md e || listed.getD e.on false) = true := by
  unfold Region.ready at h
  rw [List.mem_filter, List.mem_range] at h
  obtain ⟨h1, h2⟩ := h
  rw [Bool.and_eq_true] at h2
  refine ⟨h1, by simpa using h2.1, fun o ho => ?_⟩
  have h3 := h2.2
  rw [ho] at h3
  simpa using h3

theorem countB_set : ∀ {l : List Bool} {i : Nat}, l[i]? = some false → (l.set i true).count false + 1 = l.count false
  | [], i, h => by simp at h
  | b :: l, 0, h => by
    simp at h
    subst h
    simp
  | b :: l, i + 1, h => by
    simp at h
    have := countB_set (l := l) (i := i) h
    simp only [List.set_cons_succ, List.count_cons]
    omega

theorem wpAny_inv {I : Array Bool → Act → World → Prop} (hstep : ∀ (i : Nat) (listed : Array Bool) (a : Act) (w : World), I listed a w → i ∈ Region.ready md ops listed → wpOp P ops Q i (I (listed.setIfInBounds i true)) a w)
    (hfin : ∀ (listed : Array Bool) (a : Act) (w : World), I listed a w → Region.ready md ops listed = [] → Q .normal a w) :
    ∀ (fuel : Nat) (listed : Array Bool) (a : Act) (w : World), listed.size = ops.size → listed.toList.count false ≤ fuel → I listed a w → wpAny P md ops Q fuel listed a w := by
  intro fuel
  induction fuel with
  | zero =>
    intro listed a w hsz hc hI
    have hr : Region.ready md ops listed = [] := by
      rcases h : Region.ready md ops listed with _ | ⟨i, l⟩
      · rfl
      · obtain ⟨h1, h2, _⟩ := ready_spec (md := md) (ops := ops) (listed := listed) (i := i) (by rw [h]; simp)
        have h3 : listed.toList[i]? = some false := by
          rw [Array.getElem?_toList]
          rw [Array.getD_eq_getD_getElem?] at h2
          rcases h4 : listed[i]? with _ | b
          · rw [h4] at h2
            cases h2
          · rw [h4] at h2
            simp at h2
            rw [h2]
        have := countB_set h3
        omega
    exact ⟨hr, hfin _ _ _ hI hr⟩
  | succ fuel ih =>
    intro listed a w hsz hc hI
    refine ⟨fun hr => hfin _ _ _ hI hr, fun i hi => wpOp_mono (fun a w h => ih _ a w (by simpa using hsz) ?_ h) (hstep i listed a w hI hi)⟩
    obtain ⟨h1, h2, _⟩ := ready_spec hi
    have h3 : listed.toList[i]? = some false := by
      rw [Array.getElem?_toList]
      rw [Array.getD_eq_getD_getElem?] at h2
      rcases h4 : listed[i]? with _ | b
      · rw [h4] at h2
        cases h2
      · rw [h4] at h2
        simp at h2
        rw [h2]
    have := countB_set h3
    rw [Array.toList_setIfInBounds]
    omega

theorem wp_region_inv {I : Array Bool → Act → World → Prop} {id : Nat} {a : Act} {w : World} (hm : P.follows .mixedOrders = true)
    (hstep : ∀ (i : Nat) (listed : Array Bool) (a : Act) (w : World), I listed a w → i ∈ Region.ready .any ops listed → wpOp P ops Q i (I (listed.setIfInBounds i true)) a w)
    (hfin : ∀ (listed : Array Bool) (a : Act) (w : World), I listed a w → Region.ready .any ops listed = [] → Q .normal a w)
    (h0 : I (Array.replicate ops.size false) a w.drew) : (Code.region id ops true).wp P Q a w :=
  wp_region_any hm (wpAny_inv hstep hfin ops.size _ a _ (by simp) (by simp) h0)

theorem ready_none {listed : Array Bool} {i : Nat} {o : Oper} (hr : Region.ready md ops listed = []) (ho : ops[i]? = some o) (hd : o.after.all (fun e => !Region.binds md e || listed.getD e.on false) = true) (hi : i < listed.size) : listed.getD i true = true := by
  rcases h : listed.getD i true with _ | _
  · have hlt : i < ops.size := (Array.getElem?_eq_some_iff.1 ho).1
    have : i ∈ Region.ready md ops listed := by
      unfold Region.ready
      rw [List.mem_filter, List.mem_range, h, ho]
      exact ⟨hlt, by simpa using hd⟩
    rw [hr] at this
    cases this
  · rfl

theorem wpOp_run {i : Nat} {o : Oper} {K2 : Act → World → Prop} {a : Act} {w : World} (ho : ops[i]? = some o) (hw : Region.wanted o (yielded ops a.tmps) = true) (h : ∀ K : Act → World → Prop, (∀ a w, K2 a w → K a w) → o.wp P a w K Q) : wpOp P ops Q i K2 a w := by
  unfold wpOp
  rw [ho]
  simp only
  rw [if_pos hw]
  exact .inl (h K2 (fun _ _ h => h))
end

end Go.Proofs.YtgjhglehghjoeaaGreat

/- A drawn region of the law TreeRight as a law of its own. (Printed by gen_inv.py.) -/



namespace Go.Proofs.YtgjhglehghjoeaaGreat
open Go.RowKit Go.Shelf
set_option linter.unusedVariables false
set_option linter.unusedSimpArgs false

noncomputable def regT (n : Nat) : Code := ((Tryz.f4.body.bind (regionOf n)).getD .skip)

set_option maxRecDepth 100000 in
set_option maxHeartbeats 4000000 in
theorem treg5 {Q0 : Exit → Act → World → Prop} {u0 u1 u2 u3 u4 u5 u6 u9 u10 u11 u12 u13 u14 u15 u16 u17 u18 u19 u20 u21 u22 u23 u24 u25 u26 u27 u28 u29 u30 u31 u32 u33 u34 u35 u36 u37 u38 u39 u40 u41 u42 u43 u44 u45 u46 u47 u48 u49 u50 u51 u52 u53 u54 u55 u56 u57 u58 u59 u60 u61 u62 u63 u64 u65 u66 u67 u68 u69 u70 u71 u72 u73 u74 u75 u76 u77 u78 u79 u80 u81 u82 u83 u84 u85 u86 u87 u88 u89 u90 u91 u92 u93 u94 u95 u96 u97 u98 u99 u100 u101 u102 : Value} {w : World} {bx by_ : Nat} {x y : MsgR} (x0 : w.cell? ⟨bx, 0, none⟩ = some (.slice x.a.1 x.vals.length x.a.2)) (x1 : w.cell? ⟨bx, 1, none⟩ = some (.slice x.b.1 x.unk.length x.b.2)) (y0 : w.cell? ⟨by_, 0, none⟩ = some (.slice y.a.1 y.vals.length y.a.2)) (y1 : w.cell? ⟨by_, 1, none⟩ = some (.slice y.b.1 y.unk.length y.b.2)) {P0 : MsgR → Prop} {P1 : MsgR → Prop} (H0 : Hid (∀ W, Ext w W → Calls Tryz.prog 19 #[.agg #[.slice x.a.1 x.vals.length x.a.2, .slice x.b.1 x.unk.length x.b.2]] W fun e W' => ∃ z, e = .returned (treeV z) ∧ P0 z ∧ TreeAt W' z ∧ (∀ b, UsesT z b → b < w.heap.size ∨ W.heap.size ≤ b) ∧ Ext W W')) (H1 : Hid (∀ W, Ext w W → Calls Tryz.prog 19 #[.agg #[.slice y.a.1 y.vals.length y.a.2, .slice y.b.1 y.unk.length y.b.2]] W fun e W' => ∃ z, e = .returned (treeV z) ∧ P1 z ∧ TreeAt W' z ∧ (∀ b, UsesT z b → b < w.heap.size ∨ W.heap.size ≤ b) ∧ Ext W W'))
    (hK : ∀ (s33 s34 s35 s36 : Value) (z0 : MsgR) (z1 : MsgR) (k0 k1 : Nat) (wz : World), Ext w wz → (P0 z0) → (TreeAt wz z0) → BlkT wz k0 47 #[.slice z0.a.1 z0.vals.length z0.a.2, .slice z0.b.1 z0.unk.length z0.b.2] → (∀ b, UsesT z0 b → b < w.heap.size ∨ w.heap.size ≤ b) → w.heap.size ≤ k0 → (P1 z1) → (TreeAt wz z1) → BlkT wz k1 47 #[.slice z1.a.1 z1.vals.length z1.a.2, .slice z1.b.1 z1.unk.length z1.b.2] → (∀ b, UsesT z1 b → b < w.heap.size ∨ w.heap.size ≤ b) → w.heap.size ≤ k1 → (∀ b, UsesT z0 b → b ≠ k0) → (∀ b, UsesT z0 b → b ≠ k1) → (∀ b, UsesT z1 b → b ≠ k0) → (∀ b, UsesT z1 b → b ≠ k1) → Q0 .normal ⟨#[u0, u1, u2, u3, u4, u5, u6, .pointer (some ⟨bx, 0, none⟩), .pointer (some ⟨by_, 0, none⟩), u9, u10, .pointer (some ⟨k0, 0, none⟩), .pointer (some ⟨k1, 0, none⟩), u13, u14, u15, u16, u17, u18, u19, u20, u21, u22, u23, u24, u25, u26, u27, u28, u29, u30, u31, u32, s33, s34, s35, s36, u37, u38, u39, u40, u41, u42, u43, u44, u45, u46, u47, u48, u49, u50, u51, u52, u53, u54, u55, u56, u57, u58, u59, u60, u61, u62, u63, u64, u65, u66, u67, u68, u69, u70, u71, u72, u73, u74, u75, u76, u77, u78, u79, u80, u81, u82, u83, u84, u85, u86, u87, u88, u89, u90, u91, u92, u93, u94, u95, u96, u97, u98, u99, u100, u101, u102], []⟩ wz) :
    Code.wp Tryz.prog (regT 5) (calmQ Q0) ⟨#[u0, u1, u2, u3, u4, u5, u6, .pointer (some ⟨bx, 0, none⟩), .pointer (some ⟨by_, 0, none⟩), u9, u10, u11, u12, u13, u14, u15, u16, u17, u18, u19, u20, u21, u22, u23, u24, u25, u26, u27, u28, u29, u30, u31, u32, u33, u34, u35, u36, u37, u38, u39, u40, u41, u42, u43, u44, u45, u46, u47, u48, u49, u50, u51, u52, u53, u54, u55, u56, u57, u58, u59, u60, u61, u62, u63, u64, u65, u66, u67, u68, u69, u70, u71, u72, u73, u74, u75, u76, u77, u78, u79, u80, u81, u82, u83, u84, u85, u86, u87, u88, u89, u90, u91, u92, u93, u94, u95, u96, u97, u98, u99, u100, u101, u102], []⟩ w := by
  have HK := Lib.hid hK
  clear hK
  conv => arg 2; whnf
  obtain ⟨I, hI⟩ : ∃ I : Array Bool → Act → World → Prop, ∀ l a W, I l a W ↔ (∃ (b0 b1 b2 b3 b4 b5 b6 b7 : Bool) (s11 s12 s33 s34 s35 s36 : Value) (z0 : MsgR) (z1 : MsgR) (k0 k1 : Nat), l = #[b0, b1, b2, b3, b4, b5, b6, b7] ∧ a = ⟨#[u0, u1, u2, u3, u4, u5, u6, .pointer (some ⟨bx, 0, none⟩), .pointer (some ⟨by_, 0, none⟩), u9, u10, s11, s12, u13, u14, u15, u16, u17, u18, u19, u20, u21, u22, u23, u24, u25, u26, u27, u28, u29, u30, u31, u32, s33, s34, s35, s36, u37, u38, u39, u40, u41, u42, u43, u44, u45, u46, u47, u48, u49, u50, u51, u52, u53, u54, u55, u56, u57, u58, u59, u60, u61, u62, u63, u64, u65, u66, u67, u68, u69, u70, u71, u72, u73, u74, u75, u76, u77, u78, u79, u80, u81, u82, u83, u84, u85, u86, u87, u88, u89, u90, u91, u92, u93, u94, u95, u96, u97, u98, u99, u100, u101, u102], []⟩ ∧ Ext w W ∧ (b0 = true → s33 = .agg #[.slice x.a.1 x.vals.length x.a.2, .slice x.b.1 x.unk.length x.b.2]) ∧ (b2 = true → s35 = .agg #[.slice y.a.1 y.vals.length y.a.2, .slice y.b.1 y.unk.length y.b.2]) ∧ (b1 = true → s34 = .agg #[.slice z0.a.1 z0.vals.length z0.a.2, .slice z0.b.1 z0.unk.length z0.b.2] ∧ P0 z0 ∧ TreeAt W z0 ∧ ∀ b, UsesT z0 b → b < w.heap.size ∨ w.heap.size ≤ b) ∧ (b4 = true → s11 = .pointer (some ⟨k0, 0, none⟩) ∧ w.heap.size ≤ k0 ∧ (b6 = false → BlkT W k0 47 #[.slice none 0 0, .slice none 0 0]) ∧ (b6 = true → BlkT W k0 47 #[.slice z0.a.1 z0.vals.length z0.a.2, .slice z0.b.1 z0.unk.length z0.b.2])) ∧ (b6 = true → b1 = true ∧ b4 = true) ∧ (b3 = true → s36 = .agg #[.slice z1.a.1 z1.vals.length z1.a.2, .slice z1.b.1 z1.unk.length z1.b.2] ∧ P1 z1 ∧ TreeAt W z1 ∧ ∀ b, UsesT z1 b → b < w.heap.size ∨ w.heap.size ≤ b) ∧ (b5 = true → s12 = .pointer (some ⟨k1, 0, none⟩) ∧ w.heap.size ≤ k1 ∧ (b7 = false → BlkT W k1 47 #[.slice none 0 0, .slice none 0 0]) ∧ (b7 = true → BlkT W k1 47 #[.slice z1.a.1 z1.vals.length z1.a.2, .slice z1.b.1 z1.unk.length z1.b.2])) ∧ (b7 = true → b3 = true ∧ b5 = true) ∧ (b1 = true → b4 = true → ∀ b, UsesT z0 b → b ≠ k0) ∧ (b1 = true → b5 = true → ∀ b, UsesT z0 b → b ≠ k1) ∧ (b3 = true → b4 = true → ∀ b, UsesT z1 b → b ≠ k0) ∧ (b3 = true → b5 = true → ∀ b, UsesT z1 b → b ≠ k1) ∧ (b5 = true → b4 = true → k1 ≠ k0)) := ⟨_, fun _ _ _ => Iff.rfl⟩
  have HI := Lib.hid hI
  clear hI
  refine wp_region_inv (I := I) (by kernel_rfl) (fun i l a W hi hr => ?_) (fun l a W hi hr => ?_) ?_
  · obtain ⟨b0, b1, b2, b3, b4, b5, b6, b7, s11, s12, s33, s34, s35, s36, z0, z1, k0, k1, rfl, rfl, X, Q0, Q2, C0, A0, S0, C1, A1, S1, D00, D01, D10, D11, N10⟩ := (HI.out _ _ _).1 hi
    clear hi
    obtain ⟨hlt, hl, hd⟩ := ready_spec hr
    clear hr
    have hlt : i < 8 := hlt
    rcases (show i = 0 ∨ i = 1 ∨ i = 2 ∨ i = 3 ∨ i = 4 ∨ i = 5 ∨ i = 6 ∨ i = 7 by omega) with rfl | rfl | rfl | rfl | rfl | rfl | rfl | rfl
    · have e : b0 = false := hl
      subst e
      have hd := hd _ rfl
      clear hl hlt
      clear hd
      have H_Q0 := Lib.hid Q0; clear Q0; have H_Q2 := Lib.hid Q2; clear Q2; have H_C0 := Lib.hid C0; clear C0; have H_A0 := Lib.hid A0; clear A0; have H_S0 := Lib.hid S0; clear S0; have H_C1 := Lib.hid C1; clear C1; have H_A1 := Lib.hid A1; clear A1; have H_S1 := Lib.hid S1; clear S1; have H_D00 := Lib.hid D00; clear D00; have H_D01 := Lib.hid D01; clear D01; have H_D10 := Lib.hid D10; clear D10; have H_D11 := Lib.hid D11; clear D11; have H_N10 := Lib.hid N10; clear N10
      have c0 := X.of_cell x0
      have c1 := X.of_cell x1
      refine wpOp_run (o := ?o0) ?i0 ?w0 (fun K hK => ?_)
      case i0 => simp only [List.getElem?_toArray, List.getElem?_cons_zero, List.getElem?_cons_succ]; exact rfl
      case w0 => rfl
      have HK2 := Lib.hid hK
      clear hK
      go_simp
      (try simp only [Act.put, List.setIfInBounds_toArray, List.set_cons_zero, List.set_cons_succ])
      refine HK2.out _ _ ((HI.out _ _ _).2 ⟨true, b1, b2, b3, b4, b5, b6, b7, _, _, _, _, _, _, z0, z1, k0, k1, rfl, rfl, ?_, ?_, ?_, ?_, ?_, ?_, ?_, ?_, ?_, ?_, ?_, ?_, ?_, ?_⟩)
      · exact X
      · exact fun _ => rfl
      · exact H_Q2.out
      · exact H_C0.out
      · exact H_A0.out
      · exact H_S0.out
      · exact H_C1.out
      · exact H_A1.out
      · exact H_S1.out
      · exact H_D00.out
      · exact H_D01.out
      · exact H_D10.out
      · exact H_D11.out
      · exact H_N10.out
    · have e : b1 = false := hl
      subst e
      have hd := hd _ rfl
      clear hl hlt
      simp [Region.binds] at hd
      have ed : b0 = true := by simp [hd]
      obtain rfl := ed
      clear hd
      have H_Q0 := Lib.hid Q0; clear Q0; have H_Q2 := Lib.hid Q2; clear Q2; have H_C0 := Lib.hid C0; clear C0; have H_A0 := Lib.hid A0; clear A0; have H_S0 := Lib.hid S0; clear S0; have H_C1 := Lib.hid C1; clear C1; have H_A1 := Lib.hid A1; clear A1; have H_S1 := Lib.hid S1; clear S1; have H_D00 := Lib.hid D00; clear D00; have H_D01 := Lib.hid D01; clear D01; have H_D10 := Lib.hid D10; clear D10; have H_D11 := Lib.hid D11; clear D11; have H_N10 := Lib.hid N10; clear N10
      have e0 := H_Q0.out rfl
      subst e0
      refine wpOp_run (o := ?o1) ?i1 ?w1 (fun K hK => ?_)
      case i1 => simp only [List.getElem?_toArray, List.getElem?_cons_zero, List.getElem?_cons_succ]; exact rfl
      case w1 => rfl
      have HK2 := Lib.hid hK
      clear hK
      go_simp
      go_at_call 19
      refine (H0.out _ X).mono ?_
      rintro e W2 ⟨zn, rfl, pn, an, un, E2⟩
      (try dsimp only)
      (try simp only [Act.put, List.setIfInBounds_toArray, List.set_cons_zero, List.set_cons_succ])
      refine HK2.out _ _ ((HI.out _ _ _).2 ⟨true, true, b2, b3, b4, b5, b6, b7, _, _, _, _, _, _, zn, z1, k0, k1, rfl, rfl, ?_, ?_, ?_, ?_, ?_, ?_, ?_, ?_, ?_, ?_, ?_, ?_, ?_, ?_⟩)
      · exact X.trans E2
      · exact fun _ => rfl
      · exact H_Q2.out
      · exact fun _ => ⟨rfl, pn, an, fun b hb => by have := un b hb; have := X.size; omega⟩
      · refine fun h => ⟨(H_A0.out h).1, (H_A0.out h).2.1, fun h2 => ((H_A0.out h).2.2.1 h2).up E2, fun h2 => ?_⟩; have := (H_S0.out h2).1; cases this
      · exact fun h => absurd (H_S0.out h).1 (by decide)
      · exact fun h => ⟨(H_C1.out h).1, (H_C1.out h).2.1, (H_C1.out h).2.2.1.up E2, (H_C1.out h).2.2.2⟩
      · exact fun h => ⟨(H_A1.out h).1, (H_A1.out h).2.1, fun h2 => ((H_A1.out h).2.2.1 h2).up E2, fun h2 => ((H_A1.out h).2.2.2 h2).up E2⟩
      · exact H_S1.out
      · refine fun _ h b hb => ?_; have h1 := H_A0.out h; have h2 := un b hb; have h3 : k0 < W.heap.size := by rcases hs : b6 with _ | _; exact (h1.2.2.1 hs).lt; exact (h1.2.2.2 hs).lt
        have := h1.2.1; omega
      · refine fun _ h b hb => ?_; have h1 := H_A1.out h; have h2 := un b hb; have h3 : k1 < W.heap.size := by rcases hs : b7 with _ | _; exact (h1.2.2.1 hs).lt; exact (h1.2.2.2 hs).lt
        have := h1.2.1; omega
      · exact H_D10.out
      · exact H_D11.out
      · exact H_N10.out
    · have e : b2 = false := hl
      subst e
      have hd := hd _ rfl
      clear hl hlt
      clear hd
      have H_Q0 := Lib.hid Q0; clear Q0; have H_Q2 := Lib.hid Q2; clear Q2; have H_C0 := Lib.hid C0; clear C0; have H_A0 := Lib.hid A0; clear A0; have H_S0 := Lib.hid S0; clear S0; have H_C1 := Lib.hid C1; clear C1; have H_A1 := Lib.hid A1; clear A1; have H_S1 := Lib.hid S1; clear S1; have H_D00 := Lib.hid D00; clear D00; have H_D01 := Lib.hid D01; clear D01; have H_D10 := Lib.hid D10; clear D10; have H_D11 := Lib.hid D11; clear D11; have H_N10 := Lib.hid N10; clear N10
      have c0 := X.of_cell y0
      have c1 := X.of_cell y1
      refine wpOp_run (o := ?o2) ?i2 ?w2 (fun K hK => ?_)
      case i2 => simp only [List.getElem?_toArray, List.getElem?_cons_zero, List.getElem?_cons_succ]; exact rfl
      case w2 => rfl
      have HK2 := Lib.hid hK
      clear hK
      go_simp
      (try simp only [Act.put, List.setIfInBounds_toArray, List.set_cons_zero, List.set_cons_succ])
      refine HK2.out _ _ ((HI.out _ _ _).2 ⟨b0, b1, true, b3, b4, b5, b6, b7, _, _, _, _, _, _, z0, z1, k0, k1, rfl, rfl, ?_, ?_, ?_, ?_, ?_, ?_, ?_, ?_, ?_, ?_, ?_, ?_, ?_, ?_⟩)
      · exact X
      · exact H_Q0.out
      · exact fun _ => rfl
      · exact H_C0.out
      · exact H_A0.out
      · exact H_S0.out
      · exact H_C1.out
      · exact H_A1.out
      · exact H_S1.out
      · exact H_D00.out
      · exact H_D01.out
      · exact H_D10.out
      · exact H_D11.out
      · exact H_N10.out
    · have e : b3 = false := hl
      subst e
      have hd := hd _ rfl
      clear hl hlt
      simp [Region.binds] at hd
      have ed : b1 = true ∧ b2 = true := ⟨by simp [hd], by simp [hd]⟩
      obtain ⟨rfl, rfl⟩ := ed
      clear hd
      have H_Q0 := Lib.hid Q0; clear Q0; have H_Q2 := Lib.hid Q2; clear Q2; have H_C0 := Lib.hid C0; clear C0; have H_A0 := Lib.hid A0; clear A0; have H_S0 := Lib.hid S0; clear S0; have H_C1 := Lib.hid C1; clear C1; have H_A1 := Lib.hid A1; clear A1; have H_S1 := Lib.hid S1; clear S1; have H_D00 := Lib.hid D00; clear D00; have H_D01 := Lib.hid D01; clear D01; have H_D10 := Lib.hid D10; clear D10; have H_D11 := Lib.hid D11; clear D11; have H_N10 := Lib.hid N10; clear N10
      have e2 := H_Q2.out rfl
      subst e2
      refine wpOp_run (o := ?o3) ?i3 ?w3 (fun K hK => ?_)
      case i3 => simp only [List.getElem?_toArray, List.getElem?_cons_zero, List.getElem?_cons_succ]; exact rfl
      case w3 => rfl
      have HK2 := Lib.hid hK
      clear hK
      go_simp
      go_at_call 19
      refine (H1.out _ X).mono ?_
      rintro e W2 ⟨zn, rfl, pn, an, un, E2⟩
      (try dsimp only)
      (try simp only [Act.put, List.setIfInBounds_toArray, List.set_cons_zero, List.set_cons_succ])
      refine HK2.out _ _ ((HI.out _ _ _).2 ⟨b0, true, true, true, b4, b5, b6, b7, _, _, _, _, _, _, z0, zn, k0, k1, rfl, rfl, ?_, ?_, ?_, ?_, ?_, ?_, ?_, ?_, ?_, ?_, ?_, ?_, ?_, ?_⟩)
      · exact X.trans E2
      · exact H_Q0.out
      · exact fun _ => rfl
      · exact fun h => ⟨(H_C0.out h).1, (H_C0.out h).2.1, (H_C0.out h).2.2.1.up E2, (H_C0.out h).2.2.2⟩
      · exact fun h => ⟨(H_A0.out h).1, (H_A0.out h).2.1, fun h2 => ((H_A0.out h).2.2.1 h2).up E2, fun h2 => ((H_A0.out h).2.2.2 h2).up E2⟩
      · exact H_S0.out
      · exact fun _ => ⟨rfl, pn, an, fun b hb => by have := un b hb; have := X.size; omega⟩
      · refine fun h => ⟨(H_A1.out h).1, (H_A1.out h).2.1, fun h2 => ((H_A1.out h).2.2.1 h2).up E2, fun h2 => ?_⟩; have := (H_S1.out h2).1; cases this
      · exact fun h => absurd (H_S1.out h).1 (by decide)
      · exact H_D00.out
      · exact H_D01.out
      · refine fun _ h b hb => ?_; have h1 := H_A0.out h; have h2 := un b hb; have h3 : k0 < W.heap.size := by rcases hs : b6 with _ | _; exact (h1.2.2.1 hs).lt; exact (h1.2.2.2 hs).lt
        have := h1.2.1; omega
      · refine fun _ h b hb => ?_; have h1 := H_A1.out h; have h2 := un b hb; have h3 : k1 < W.heap.size := by rcases hs : b7 with _ | _; exact (h1.2.2.1 hs).lt; exact (h1.2.2.2 hs).lt
        have := h1.2.1; omega
      · exact H_N10.out
    · have e : b4 = false := hl
      subst e
      have hd := hd _ rfl
      clear hl hlt
      clear hd
      have H_Q0 := Lib.hid Q0; clear Q0; have H_Q2 := Lib.hid Q2; clear Q2; have H_C0 := Lib.hid C0; clear C0; have H_A0 := Lib.hid A0; clear A0; have H_S0 := Lib.hid S0; clear S0; have H_C1 := Lib.hid C1; clear C1; have H_A1 := Lib.hid A1; clear A1; have H_S1 := Lib.hid S1; clear S1; have H_D00 := Lib.hid D00; clear D00; have H_D01 := Lib.hid D01; clear D01; have H_D10 := Lib.hid D10; clear D10; have H_D11 := Lib.hid D11; clear D11; have H_N10 := Lib.hid N10; clear N10
      refine wpOp_run (o := ?o4) ?i4 ?w4 (fun K hK => ?_)
      case i4 => simp only [List.getElem?_toArray, List.getElem?_cons_zero, List.getElem?_cons_succ]; exact rfl
      case w4 => rfl
      have HK2 := Lib.hid hK
      clear hK
      go_simp
      (try simp only [Act.put, List.setIfInBounds_toArray, List.set_cons_zero, List.set_cons_succ])
      refine HK2.out _ _ ((HI.out _ _ _).2 ⟨b0, b1, b2, b3, true, b5, b6, b7, _, _, _, _, _, _, z0, z1, W.heap.size, k1, rfl, rfl, ?_, ?_, ?_, ?_, ?_, ?_, ?_, ?_, ?_, ?_, ?_, ?_, ?_, ?_⟩)
      · exact X.alloc _
      · exact H_Q0.out
      · exact H_Q2.out
      · exact fun h => ⟨(H_C0.out h).1, (H_C0.out h).2.1, (H_C0.out h).2.2.1.up ((Ext.refl W).alloc _), (H_C0.out h).2.2.2⟩
      · refine fun _ => ⟨rfl, X.size, fun _ => BlkT.new W _ _ rfl, fun h => ?_⟩; have := (H_S0.out h).2; cases this
      · exact fun h => absurd (H_S0.out h).2 (by decide)
      · exact fun h => ⟨(H_C1.out h).1, (H_C1.out h).2.1, (H_C1.out h).2.2.1.up ((Ext.refl W).alloc _), (H_C1.out h).2.2.2⟩
      · exact fun h => ⟨(H_A1.out h).1, (H_A1.out h).2.1, fun h2 => ((H_A1.out h).2.2.1 h2).alloc _, fun h2 => ((H_A1.out h).2.2.2 h2).alloc _⟩
      · exact H_S1.out
      · refine fun h _ b hb => ?_; have := (H_C0.out h).2.2.1.lt hb; omega
      · exact H_D01.out
      · refine fun h _ b hb => ?_; have := (H_C1.out h).2.2.1.lt hb; omega
      · exact H_D11.out
      · refine fun h _ => ?_; have h1 := H_A1.out h; have h3 : k1 < W.heap.size := by rcases hs : b7 with _ | _; exact (h1.2.2.1 hs).lt; exact (h1.2.2.2 hs).lt
        omega
    · have e : b5 = false := hl
      subst e
      have hd := hd _ rfl
      clear hl hlt
      clear hd
      have H_Q0 := Lib.hid Q0; clear Q0; have H_Q2 := Lib.hid Q2; clear Q2; have H_C0 := Lib.hid C0; clear C0; have H_A0 := Lib.hid A0; clear A0; have H_S0 := Lib.hid S0; clear S0; have H_C1 := Lib.hid C1; clear C1; have H_A1 := Lib.hid A1; clear A1; have H_S1 := Lib.hid S1; clear S1; have H_D00 := Lib.hid D00; clear D00; have H_D01 := Lib.hid D01; clear D01; have H_D10 := Lib.hid D10; clear D10; have H_D11 := Lib.hid D11; clear D11; have H_N10 := Lib.hid N10; clear N10
      refine wpOp_run (o := ?o5) ?i5 ?w5 (fun K hK => ?_)
      case i5 => simp only [List.getElem?_toArray, List.getElem?_cons_zero, List.getElem?_cons_succ]; exact rfl
      case w5 => rfl
      have HK2 := Lib.hid hK
      clear hK
      go_simp
      (try simp only [Act.put, List.setIfInBounds_toArray, List.set_cons_zero, List.set_cons_succ])
      refine HK2.out _ _ ((HI.out _ _ _).2 ⟨b0, b1, b2, b3, b4, true, b6, b7, _, _, _, _, _, _, z0, z1, k0, W.heap.size, rfl, rfl, ?_, ?_, ?_, ?_, ?_, ?_, ?_, ?_, ?_, ?_, ?_, ?_, ?_, ?_⟩)
      · exact X.alloc _
      · exact H_Q0.out
      · exact H_Q2.out
      · exact fun h => ⟨(H_C0.out h).1, (H_C0.out h).2.1, (H_C0.out h).2.2.1.up ((Ext.refl W).alloc _), (H_C0.out h).2.2.2⟩
      · exact fun h => ⟨(H_A0.out h).1, (H_A0.out h).2.1, fun h2 => ((H_A0.out h).2.2.1 h2).alloc _, fun h2 => ((H_A0.out h).2.2.2 h2).alloc _⟩
      · exact H_S0.out
      · exact fun h => ⟨(H_C1.out h).1, (H_C1.out h).2.1, (H_C1.out h).2.2.1.up ((Ext.refl W).alloc _), (H_C1.out h).2.2.2⟩
      · refine fun _ => ⟨rfl, X.size, fun _ => BlkT.new W _ _ rfl, fun h => ?_⟩; have := (H_S1.out h).2; cases this
      · exact fun h => absurd (H_S1.out h).2 (by decide)
      · exact H_D00.out
      · refine fun h _ b hb => ?_; have := (H_C0.out h).2.2.1.lt hb; omega
      · exact H_D10.out
      · refine fun h _ b hb => ?_; have := (H_C1.out h).2.2.1.lt hb; omega
      · refine fun _ h => ?_; have h1 := H_A0.out h; have h3 : k0 < W.heap.size := by rcases hs : b6 with _ | _; exact (h1.2.2.1 hs).lt; exact (h1.2.2.2 hs).lt
        omega
    · have e : b6 = false := hl
      subst e
      have hd := hd _ rfl
      clear hl hlt
      simp [Region.binds] at hd
      have ed : b0 = true ∧ b1 = true ∧ b3 = true ∧ b4 = true ∧ b5 = true := ⟨by simp [hd], by simp [hd], by simp [hd], by simp [hd], by simp [hd]⟩
      obtain ⟨rfl, rfl, rfl, rfl, rfl⟩ := ed
      clear hd
      have H_Q0 := Lib.hid Q0; clear Q0; have H_Q2 := Lib.hid Q2; clear Q2; have H_C0 := Lib.hid C0; clear C0; have H_A0 := Lib.hid A0; clear A0; have H_S0 := Lib.hid S0; clear S0; have H_C1 := Lib.hid C1; clear C1; have H_A1 := Lib.hid A1; clear A1; have H_S1 := Lib.hid S1; clear S1; have H_D00 := Lib.hid D00; clear D00; have H_D01 := Lib.hid D01; clear D01; have H_D10 := Lib.hid D10; clear D10; have H_D11 := Lib.hid D11; clear D11; have H_N10 := Lib.hid N10; clear N10
      obtain ⟨ec, pc, ac, uc⟩ := H_C0.out rfl
      subst ec
      obtain ⟨ea, ka, za, _⟩ := H_A0.out rfl
      subst ea
      have B := za rfl
      have c0 : W.cell? ⟨k0, 0, none⟩ = some (.slice none 0 0) := B.cell 0
      have f0 := B.free 0
      have c1 : W.cell? ⟨k0, 1, none⟩ = some (.slice none 0 0) := B.cell 1
      have f1 := B.free 1
      have lb := B.lt
      clear za
      have HB := Lib.hid B
      clear B
      refine wpOp_run (o := ?o6) ?i6 ?w6 (fun K hK => ?_)
      case i6 => simp only [List.getElem?_toArray, List.getElem?_cons_zero, List.getElem?_cons_succ]; exact rfl
      case w6 => rfl
      have HK2 := Lib.hid hK
      clear hK
      go_simp
      (try simp only [Act.put, List.setIfInBounds_toArray, List.set_cons_zero, List.set_cons_succ])
      refine HK2.out _ _ ((HI.out _ _ _).2 ⟨true, true, b2, true, true, true, true, b7, _, _, _, _, _, _, z0, z1, k0, k1, rfl, rfl, ?_, ?_, ?_, ?_, ?_, ?_, ?_, ?_, ?_, ?_, ?_, ?_, ?_, ?_⟩)
      · exact ((X).setCell (p := ⟨k0, 0, none⟩) ka (.slice z0.a.1 z0.vals.length z0.a.2)).setCell (p := ⟨k0, 1, none⟩) ka (.slice z0.b.1 z0.unk.length z0.b.2)
      · exact H_Q0.out
      · exact H_Q2.out
      · exact fun _ => ⟨rfl, pc, ac.stays (((Stays.refl (fun b => b ≠ k0) W).set (p := ⟨k0, 0, none⟩) (fun e => e rfl) (.slice z0.a.1 z0.vals.length z0.a.2)).set (p := ⟨k0, 1, none⟩) (fun e => e rfl) (.slice z0.b.1 z0.unk.length z0.b.2)) (fun b hb => H_D00.out rfl rfl b hb), uc⟩
      · exact fun _ => ⟨rfl, ka, fun h => (by cases h), fun _ => ((HB.out).set_ 0 (.slice z0.a.1 z0.vals.length z0.a.2)).set_ 1 (.slice z0.b.1 z0.unk.length z0.b.2)⟩
      · exact fun _ => ⟨rfl, rfl⟩
      · exact fun h => ⟨(H_C1.out h).1, (H_C1.out h).2.1, (H_C1.out h).2.2.1.stays (((Stays.refl (fun b => b ≠ k0) W).set (p := ⟨k0, 0, none⟩) (fun e => e rfl) (.slice z0.a.1 z0.vals.length z0.a.2)).set (p := ⟨k0, 1, none⟩) (fun e => e rfl) (.slice z0.b.1 z0.unk.length z0.b.2)) (fun b hb => H_D10.out h rfl b hb), (H_C1.out h).2.2.2⟩
      · refine fun h => ?_; have hne := H_N10.out h rfl; exact ⟨(H_A1.out h).1, (H_A1.out h).2.1, fun h2 => (((H_A1.out h).2.2.1 h2).far (p := ⟨k0, 0, none⟩) hne (.slice z0.a.1 z0.vals.length z0.a.2)).far (p := ⟨k0, 1, none⟩) hne (.slice z0.b.1 z0.unk.length z0.b.2), fun h2 => (((H_A1.out h).2.2.2 h2).far (p := ⟨k0, 0, none⟩) hne (.slice z0.a.1 z0.vals.length z0.a.2)).far (p := ⟨k0, 1, none⟩) hne (.slice z0.b.1 z0.unk.length z0.b.2)⟩
      · exact H_S1.out
      · exact H_D00.out
      · exact H_D01.out
      · exact H_D10.out
      · exact H_D11.out
      · exact H_N10.out
    · have e : b7 = false := hl
      subst e
      have hd := hd _ rfl
      clear hl hlt
      simp [Region.binds] at hd
      have ed : b1 = true ∧ b2 = true ∧ b3 = true ∧ b4 = true ∧ b5 = true := ⟨by simp [hd], by simp [hd], by simp [hd], by simp [hd], by simp [hd]⟩
      obtain ⟨rfl, rfl, rfl, rfl, rfl⟩ := ed
      clear hd
      have H_Q0 := Lib.hid Q0; clear Q0; have H_Q2 := Lib.hid Q2; clear Q2; have H_C0 := Lib.hid C0; clear C0; have H_A0 := Lib.hid A0; clear A0; have H_S0 := Lib.hid S0; clear S0; have H_C1 := Lib.hid C1; clear C1; have H_A1 := Lib.hid A1; clear A1; have H_S1 := Lib.hid S1; clear S1; have H_D00 := Lib.hid D00; clear D00; have H_D01 := Lib.hid D01; clear D01; have H_D10 := Lib.hid D10; clear D10; have H_D11 := Lib.hid D11; clear D11; have H_N10 := Lib.hid N10; clear N10
      obtain ⟨ec, pc, ac, uc⟩ := H_C1.out rfl
      subst ec
      obtain ⟨ea, ka, za, _⟩ := H_A1.out rfl
      subst ea
      have B := za rfl
      have c0 : W.cell? ⟨k1, 0, none⟩ = some (.slice none 0 0) := B.cell 0
      have f0 := B.free 0
      have c1 : W.cell? ⟨k1, 1, none⟩ = some (.slice none 0 0) := B.cell 1
      have f1 := B.free 1
      have lb := B.lt
      clear za
      have HB := Lib.hid B
      clear B
      refine wpOp_run (o := ?o7) ?i7 ?w7 (fun K hK => ?_)
      case i7 => simp only [List.getElem?_toArray, List.getElem?_cons_zero, List.getElem?_cons_succ]; exact rfl
      case w7 => rfl
      have HK2 := Lib.hid hK
      clear hK
      go_simp
      (try simp only [Act.put, List.setIfInBounds_toArray, List.set_cons_zero, List.set_cons_succ])
      refine HK2.out _ _ ((HI.out _ _ _).2 ⟨b0, true, true, true, true, true, b6, true, _, _, _, _, _, _, z0, z1, k0, k1, rfl, rfl, ?_, ?_, ?_, ?_, ?_, ?_, ?_, ?_, ?_, ?_, ?_, ?_, ?_, ?_⟩)
      · exact ((X).setCell (p := ⟨k1, 0, none⟩) ka (.slice z1.a.1 z1.vals.length z1.a.2)).setCell (p := ⟨k1, 1, none⟩) ka (.slice z1.b.1 z1.unk.length z1.b.2)
      · exact H_Q0.out
      · exact H_Q2.out
      · exact fun h => ⟨(H_C0.out h).1, (H_C0.out h).2.1, (H_C0.out h).2.2.1.stays (((Stays.refl (fun b => b ≠ k1) W).set (p := ⟨k1, 0, none⟩) (fun e => e rfl) (.slice z1.a.1 z1.vals.length z1.a.2)).set (p := ⟨k1, 1, none⟩) (fun e => e rfl) (.slice z1.b.1 z1.unk.length z1.b.2)) (fun b hb => H_D01.out h rfl b hb), (H_C0.out h).2.2.2⟩
      · refine fun h => ?_; have hne := (H_N10.out rfl h).symm; exact ⟨(H_A0.out h).1, (H_A0.out h).2.1, fun h2 => (((H_A0.out h).2.2.1 h2).far (p := ⟨k1, 0, none⟩) hne (.slice z1.a.1 z1.vals.length z1.a.2)).far (p := ⟨k1, 1, none⟩) hne (.slice z1.b.1 z1.unk.length z1.b.2), fun h2 => (((H_A0.out h).2.2.2 h2).far (p := ⟨k1, 0, none⟩) hne (.slice z1.a.1 z1.vals.length z1.a.2)).far (p := ⟨k1, 1, none⟩) hne (.slice z1.b.1 z1.unk.length z1.b.2)⟩
      · exact H_S0.out
      · exact fun _ => ⟨rfl, pc, ac.stays (((Stays.refl (fun b => b ≠ k1) W).set (p := ⟨k1, 0, none⟩) (fun e => e rfl) (.slice z1.a.1 z1.vals.length z1.a.2)).set (p := ⟨k1, 1, none⟩) (fun e => e rfl) (.slice z1.b.1 z1.unk.length z1.b.2)) (fun b hb => H_D11.out rfl rfl b hb), uc⟩
      · exact fun _ => ⟨rfl, ka, fun h => (by cases h), fun _ => ((HB.out).set_ 0 (.slice z1.a.1 z1.vals.length z1.a.2)).set_ 1 (.slice z1.b.1 z1.unk.length z1.b.2)⟩
      · exact fun _ => ⟨rfl, rfl⟩
      · exact H_D00.out
      · exact H_D01.out
      · exact H_D10.out
      · exact H_D11.out
      · exact H_N10.out
  · obtain ⟨b0, b1, b2, b3, b4, b5, b6, b7, s11, s12, s33, s34, s35, s36, z0, z1, k0, k1, rfl, rfl, X, Q0, Q2, C0, A0, S0, C1, A1, S1, D00, D01, D10, D11, N10⟩ := (HI.out _ _ _).1 hi
    clear hi
    have t0 : b0 = true := ready_none hr (i := 0) rfl (by simp [Region.binds]) (show 0 < 8 by decide)
    have t1 : b1 = true := ready_none hr (i := 1) rfl (by simp [Region.binds, t0]) (show 1 < 8 by decide)
    have t2 : b2 = true := ready_none hr (i := 2) rfl (by simp [Region.binds, t0, t1]) (show 2 < 8 by decide)
    have t3 : b3 = true := ready_none hr (i := 3) rfl (by simp [Region.binds, t0, t1, t2]) (show 3 < 8 by decide)
    have t4 : b4 = true := ready_none hr (i := 4) rfl (by simp [Region.binds, t0, t1, t2, t3]) (show 4 < 8 by decide)
    have t5 : b5 = true := ready_none hr (i := 5) rfl (by simp [Region.binds, t0, t1, t2, t3, t4]) (show 5 < 8 by decide)
    have t6 : b6 = true := ready_none hr (i := 6) rfl (by simp [Region.binds, t0, t1, t2, t3, t4, t5]) (show 6 < 8 by decide)
    have t7 : b7 = true := ready_none hr (i := 7) rfl (by simp [Region.binds, t0, t1, t2, t3, t4, t5, t6]) (show 7 < 8 by decide)
    subst t0 t1 t2 t3 t4 t5 t6 t7
    obtain ⟨rfl, p0, a0, n0⟩ := C0 rfl
    obtain ⟨rfl, l0, _, g0⟩ := A0 rfl
    obtain ⟨rfl, p1, a1, n1⟩ := C1 rfl
    obtain ⟨rfl, l1, _, g1⟩ := A1 rfl
    exact HK.out _ _ _ _ z0 z1 k0 k1 W X p0 a0 (g0 rfl) n0 l0 p1 a1 (g1 rfl) n1 l1 (D00 rfl rfl) (D01 rfl rfl) (D10 rfl rfl) (D11 rfl rfl)
  · refine (HI.out _ _ _).2 ⟨false, false, false, false, false, false, false, false, _, _, _, _, _, _, (.mk (none, 0) (none, 0) [] []), (.mk (none, 0) (none, 0) [] []), 0, 0, rfl, rfl, (Ext.refl w).drew, ?_, ?_, ?_, ?_, ?_, ?_, ?_, ?_, ?_, ?_, ?_, ?_, ?_⟩
    all_goals (intro h; first | cases h | (intro h2; cases h))

end Go.Proofs.YtgjhglehghjoeaaGreat

/- The last region of the law TreeRight as a law of its own. (Printed by gen_treeright.py.) -/

namespace Go.Proofs.YtgjhglehghjoeaaGreat
open Go.RowKit Go.Shelf
set_option linter.unusedVariables false

set_option maxRecDepth 100000 in
set_option maxHeartbeats 4000000 in
theorem treg12 {Q0 : Exit → Act → World → Prop} {u2 u3 u4 u5 u6 u9 u10 u18 u19 u20 u21 u22 u23 u24 u25 u26 u27 u28 u29 u30 u31 u32 u33 u34 u35 u36 u37 u38 u39 u40 u41 u42 u43 u44 u45 u46 u47 u48 u49 u50 u51 u52 u53 u54 u55 u56 u57 u58 u59 u60 u61 u62 u63 u64 u65 u66 u67 u68 u69 u70 u71 u72 u73 u74 u75 u76 u77 u78 u79 u80 u81 u82 u83 u84 u85 u86 u87 u88 u89 u90 u91 u92 u93 u94 u95 u96 u97 u98 u99 u100 u101 u102 : Value} {w : World} {A : Option Addr} {n c bx by_ k0 k1 kv kw : Nat} {root i dI : Int} {rq sq ok : Bool} {x y z0 z1 : MsgR} {u t : ValR} {P4 : ValR → Prop} {P8 P9 : MsgR → Prop}
    (x0 : w.cell? ⟨bx, 0, none⟩ = some (.slice x.a.1 x.vals.length x.a.2)) (x1 : w.cell? ⟨bx, 1, none⟩ = some (.slice x.b.1 x.unk.length x.b.2)) (y0 : w.cell? ⟨by_, 0, none⟩ = some (.slice y.a.1 y.vals.length y.a.2)) (y1 : w.cell? ⟨by_, 1, none⟩ = some (.slice y.b.1 y.unk.length y.b.2)) (p0 : w.cell? ⟨k0, 0, none⟩ = some (.slice z0.a.1 z0.vals.length z0.a.2)) (p1 : w.cell? ⟨k0, 1, none⟩ = some (.slice z0.b.1 z0.unk.length z0.b.2)) (q0 : w.cell? ⟨k1, 0, none⟩ = some (.slice z1.a.1 z1.vals.length z1.a.2)) (q1 : w.cell? ⟨k1, 1, none⟩ = some (.slice z1.b.1 z1.unk.length z1.b.2)) (v0 : w.cell? ⟨kv, 0, none⟩ = some (.int .i64 u.number)) (v1 : w.cell? ⟨kv, 1, none⟩ = some (.slice u.a.1 u.words.length u.a.2)) (v2 : w.cell? ⟨kv, 2, none⟩ = some (.slice u.b.1 u.texts.length u.b.2)) (v3 : w.cell? ⟨kv, 3, none⟩ = some (.slice u.c.1 u.subs.length u.c.2)) (t0 : w.cell? ⟨kw, 0, none⟩ = some (.int .i64 t.number)) (t1 : w.cell? ⟨kw, 1, none⟩ = some (.slice t.a.1 t.words.length t.a.2)) (t2 : w.cell? ⟨kw, 2, none⟩ = some (.slice t.b.1 t.texts.length t.b.2)) (t3 : w.cell? ⟨kw, 3, none⟩ = some (.slice t.c.1 t.subs.length t.c.2))
    (lx : bx < w.heap.size) (ly : by_ < w.heap.size) (lp : k0 < w.heap.size) (lq : k1 < w.heap.size) (lv : kv < w.heap.size) (lt : kw < w.heap.size) (hok : decide ((0 : Int) ≤ i) = ok)
    (H1 : Hid (∀ W, Ext w W → Calls Tryz.prog 23 #[.slice A n c, .int .i64 root, .agg #[.slice x.a.1 x.vals.length x.a.2, .slice x.b.1 x.unk.length x.b.2]] W fun e W' => e = .returned (.bool rq) ∧ Ext W W'))
    (H2 : Hid (∀ W, Ext w W → Calls Tryz.prog 24 #[.agg #[.slice x.a.1 x.vals.length x.a.2, .slice x.b.1 x.unk.length x.b.2], .agg #[.slice y.a.1 y.vals.length y.a.2, .slice y.b.1 y.unk.length y.b.2]] W fun e W' => e = .returned (.bool sq) ∧ Ext W W'))
    (H3 : Hid (∀ W, Ext w W → Calls Tryz.prog 25 #[.agg #[.slice z0.a.1 z0.vals.length z0.a.2, .slice z0.b.1 z0.unk.length z0.b.2], .agg #[.slice z1.a.1 z1.vals.length z1.a.2, .slice z1.b.1 z1.unk.length z1.b.2]] W fun e W' => e = .returned (.bool sq) ∧ Ext W W'))
    (H4 : Hid (∀ W, Ext w W → Calls Tryz.prog 17 #[.agg #[.int .i64 u.number, .slice u.a.1 u.words.length u.a.2, .slice u.b.1 u.texts.length u.b.2, .slice u.c.1 u.subs.length u.c.2]] W fun e W' => ∃ m : ValR, e = .returned (.agg #[.int .i64 m.number, .slice m.a.1 m.words.length m.a.2, .slice m.b.1 m.texts.length m.b.2, .slice m.c.1 m.subs.length m.c.2]) ∧ P4 m ∧ ValAt W' m ∧ Ext W W'))
    (H5 : Hid (∀ W (m : ValR), Ext w W → P4 m → ValAt W m → Calls Tryz.prog 26 #[.agg #[.int .i64 m.number, .slice m.a.1 m.words.length m.a.2, .slice m.b.1 m.texts.length m.b.2, .slice m.c.1 m.subs.length m.c.2], .agg #[.int .i64 t.number, .slice t.a.1 t.words.length t.a.2, .slice t.b.1 t.texts.length t.b.2, .slice t.c.1 t.subs.length t.c.2]] W fun e W' => e = .returned (.bool true) ∧ Ext W W'))
    (H6 : Hid (∀ W, Ext w W → Calls Tryz.prog 27 #[.agg #[.slice x.a.1 x.vals.length x.a.2, .slice x.b.1 x.unk.length x.b.2]] W fun e W' => e = .returned (.int .i64 dI) ∧ Ext W W'))
    (H7 : Hid (∀ W, Ext w W → Calls Tryz.prog 28 #[.agg #[.slice z0.a.1 z0.vals.length z0.a.2, .slice z0.b.1 z0.unk.length z0.b.2]] W fun e W' => e = .returned (.int .i64 dI) ∧ Ext W W'))
    (H8 : Hid (∀ W, Ext w W → Calls Tryz.prog 29 #[.agg #[.slice x.a.1 x.vals.length x.a.2, .slice x.b.1 x.unk.length x.b.2]] W fun e W' => ∃ m : MsgR, e = .returned (.agg #[.slice m.a.1 m.vals.length m.a.2, .slice m.b.1 m.unk.length m.b.2]) ∧ P8 m ∧ TreeAt W' m ∧ Ext W W'))
    (H9 : Hid (∀ W (m : MsgR), Ext w W → P8 m → TreeAt W m → Calls Tryz.prog 19 #[.agg #[.slice m.a.1 m.vals.length m.a.2, .slice m.b.1 m.unk.length m.b.2]] W fun e W' => ∃ m2 : MsgR, e = .returned (.agg #[.slice m2.a.1 m2.vals.length m2.a.2, .slice m2.b.1 m2.unk.length m2.b.2]) ∧ P9 m2 ∧ TreeAt W' m2 ∧ Ext W W'))
    (H10 : Hid (∀ W (m : MsgR), Ext w W → P9 m → TreeAt W m → Calls Tryz.prog 25 #[.agg #[.slice m.a.1 m.vals.length m.a.2, .slice m.b.1 m.unk.length m.b.2], .agg #[.slice z0.a.1 z0.vals.length z0.a.2, .slice z0.b.1 z0.unk.length z0.b.2]] W fun e W' => e = .returned (.bool true) ∧ Ext W W'))
    (hK : ∀ (v62 v63 v64 v65 v66 v67 v68 v69 v70 v71 v72 v73 v74 v75 v76 v77 v78 v79 v80 v81 v82 v83 v84 v85 v86 v87 v88 v89 v90 v91 v92 v93 v94 v95 v96 v97 v98 v99 v100 v101 v102 : Value) (wz : World), Ext w wz → Q0 .normal ⟨#[.slice A n c, .int .i64 root, u2, u3, u4, u5, u6, .pointer (some ⟨bx, 0, none⟩), .pointer (some ⟨by_, 0, none⟩), u9, .bool true, .pointer (some ⟨k0, 0, none⟩), .pointer (some ⟨k1, 0, none⟩), .bool rq, .pointer (some ⟨kv, 0, none⟩), .bool ok, .int .i64 i, .pointer (some ⟨kw, 0, none⟩), u18, u19, u20, u21, u22, u23, u24, u25, u26, u27, u28, u29, u30, u31, u32, u33, u34, u35, u36, u37, u38, u39, u40, u41, u42, u43, u44, u45, u46, u47, u48, u49, u50, u51, u52, u53, u54, u55, u56, u57, u58, u59, u60, u61, v62, v63, v64, v65, v66, v67, v68, v69, v70, v71, v72, v73, v74, v75, v76, v77, v78, v79, v80, v81, v82, v83, v84, v85, v86, v87, v88, v89, v90, v91, v92, v93, v94, v95, v96, v97, v98, v99, v100, v101, v102], []⟩ wz) :
    Code.wp Tryz.prog (regT 12) (calmQ Q0) ⟨#[.slice A n c, .int .i64 root, u2, u3, u4, u5, u6, .pointer (some ⟨bx, 0, none⟩), .pointer (some ⟨by_, 0, none⟩), u9, u10, .pointer (some ⟨k0, 0, none⟩), .pointer (some ⟨k1, 0, none⟩), .bool rq, .pointer (some ⟨kv, 0, none⟩), .bool ok, .int .i64 i, .pointer (some ⟨kw, 0, none⟩), u18, u19, u20, u21, u22, u23, u24, u25, u26, u27, u28, u29, u30, u31, u32, u33, u34, u35, u36, u37, u38, u39, u40, u41, u42, u43, u44, u45, u46, u47, u48, u49, u50, u51, u52, u53, u54, u55, u56, u57, u58, u59, u60, u61, u62, u63, u64, u65, u66, u67, u68, u69, u70, u71, u72, u73, u74, u75, u76, u77, u78, u79, u80, u81, u82, u83, u84, u85, u86, u87, u88, u89, u90, u91, u92, u93, u94, u95, u96, u97, u98, u99, u100, u101, u102], []⟩ w := by
  have HK := Lib.hid hK
  clear hK
  conv => arg 2; whnf
  have Q4 : Ext w w := Ext.refl w
  go_region_held3 (fun W => Ext w W ∧ ∀ b o, b < w.heap.size → W.cell? ⟨b, o, none⟩ = w.cell? ⟨b, o, none⟩) ((refine Ext.keep ?_; repeat with_reducible (first | assumption | exact Ext.refl _ | refine Ext.alloc ?_ _ | refine Ext.drew ?_ | refine Ext.drewN ?_ _ | refine Ext.setCell ?_ (by first | exact Nat.le_refl _ | omega | (simp; done) | (simp; omega)) _))) (first
    | (go_split_ands; go_at_call 23; refine (H1.out _ (by with_reducible assumption)).mono ?_; rintro e w1 ⟨rfl, E1⟩; have q1 : Ext w w1 := Ext.trans (by with_reducible assumption) E1)
    | (go_split_ands; go_at_call 24; refine (H2.out _ (by with_reducible assumption)).mono ?_; rintro e w2 ⟨rfl, E2⟩; have q2 : Ext w w2 := Ext.trans (by with_reducible assumption) E2)
    | (go_split_ands; go_at_call 25; (with_reducible refine (H3.out _ (by with_reducible assumption)).mono ?_); rintro e w3 ⟨rfl, E3⟩; have q3 : Ext w w3 := Ext.trans (by with_reducible assumption) E3)
    | (go_split_ands; go_at_call 17; refine (H4.out _ (by with_reducible assumption)).mono ?_; rintro e w4 ⟨m4, rfl, p4, a4, E4⟩; have q4 : Ext w w4 := Ext.trans (by with_reducible assumption) E4)
    | (go_split_ands; go_at_call 26; refine (H5.out _ m4 (by with_reducible assumption) p4 (a4.up (by repeat with_reducible (first | exact Ext.refl _ | refine Ext.alloc ?_ _ | refine Ext.drew ?_ | refine Ext.drewN ?_ _ | refine Ext.setCell ?_ (by first | exact Nat.le_refl _ | omega | (simp; done) | (simp; omega)) _)))).mono ?_; rintro e w5 ⟨rfl, E5⟩; have q5 : Ext w w5 := Ext.trans (by with_reducible assumption) E5)
    | (go_split_ands; go_at_call 27; refine (H6.out _ (by with_reducible assumption)).mono ?_; rintro e w6 ⟨rfl, E6⟩; have q6 : Ext w w6 := Ext.trans (by with_reducible assumption) E6)
    | (go_split_ands; go_at_call 28; refine (H7.out _ (by with_reducible assumption)).mono ?_; rintro e w7 ⟨rfl, E7⟩; have q7 : Ext w w7 := Ext.trans (by with_reducible assumption) E7)
    | (go_split_ands; go_at_call 29; refine (H8.out _ (by with_reducible assumption)).mono ?_; rintro e w8 ⟨m8, rfl, p8, a8, E8⟩; have q8 : Ext w w8 := Ext.trans (by with_reducible assumption) E8)
    | (go_split_ands; go_at_call 19; refine (H9.out _ m8 (by with_reducible assumption) p8 (a8.up (by repeat with_reducible (first | exact Ext.refl _ | refine Ext.alloc ?_ _ | refine Ext.drew ?_ | refine Ext.drewN ?_ _ | refine Ext.setCell ?_ (by first | exact Nat.le_refl _ | omega | (simp; done) | (simp; omega)) _)))).mono ?_; rintro e w9 ⟨m9, rfl, p9, a9, E9⟩; have q9 : Ext w w9 := Ext.trans (by with_reducible assumption) E9)
    | (go_split_ands; go_at_call 25; refine (H10.out _ m9 (by with_reducible assumption) p9 (a9.up (by repeat with_reducible (first | exact Ext.refl _ | refine Ext.alloc ?_ _ | refine Ext.drew ?_ | refine Ext.drewN ?_ _ | refine Ext.setCell ?_ (by first | exact Nat.le_refl _ | omega | (simp; done) | (simp; omega)) _)))).mono ?_; rintro e w10 ⟨rfl, E10⟩; have q10 : Ext w w10 := Ext.trans (by with_reducible assumption) E10))
  go_simp
  exact HK.out _ _ _ _ _ _ _ _ _ _ _ _ _ _ _ _ _ _ _ _ _ _ _ _ _ _ _ _ _ _ _ _ _ _ _ _ _ _ _ _ _ _ q10

end Go.Proofs.YtgjhglehghjoeaaGreat
