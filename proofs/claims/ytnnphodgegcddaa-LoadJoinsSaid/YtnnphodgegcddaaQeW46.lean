/- Drawn regions of the law LoadJoins as laws of their own. (Printed by gen_inv4.py.) -/
import Derived.Test.YtnnphodgegcddaaQeInv
import Derived.Test.YtnnphodgegcddaaQeW14w
import Derived.Test.YtnnphodgegcddaaQeW14o
import Derived.RegionTactic
import Derived.Test.YtnnphodgegcddaaQeM14

namespace Go.Proofs.Ytnnphodgegcddaa
open Go.RowKit Go.Shelf
set_option linter.unusedVariables false
set_option linter.unusedSimpArgs false

noncomputable def regLJ (n : Nat) : Code := ((Try.f3.body.bind (regionOf n)).getD .skip)

set_option maxRecDepth 100000 in
set_option maxHeartbeats 4000000 in
theorem ljreg10 {Q0 : Exit → Act → World → Prop} {u0 u1 u2 u3 u4 u5 u6 u7 u8 u9 u10 u12 u14 u15 u16 u17 u18 u19 u20 u21 u22 u23 u24 u25 u26 u27 u28 u29 u30 u31 u32 u33 u34 u35 u36 u37 u38 u39 u40 u41 u42 u43 u44 u45 u46 u47 u48 u49 u50 u51 u52 u53 u54 u55 u56 u57 u58 u59 u60 u61 u62 u63 u64 u65 u66 u67 u68 u69 u70 u71 u72 u73 u74 u75 u76 u77 u78 u79 u80 u81 u82 u83 u84 u85 u86 u87 u88 u89 u90 u91 u92 u93 u94 u95 u96 u97 u98 u99 u100 u101 u102 u103 u104 u105 u106 u107 u108 u109 u110 : Value} {w : World} {bx by_ : Nat} {x y : ValR} (x0 : w.cell? ⟨bx, 0, none⟩ = some (.int .i64 x.number)) (x1 : w.cell? ⟨bx, 1, none⟩ = some (.slice x.a.1 x.words.length x.a.2)) (x2 : w.cell? ⟨bx, 2, none⟩ = some (.slice x.b.1 x.texts.length x.b.2)) (x3 : w.cell? ⟨bx, 3, none⟩ = some (.slice x.c.1 x.subs.length x.c.2)) (y0 : w.cell? ⟨by_, 0, none⟩ = some (.int .i64 y.number)) (y1 : w.cell? ⟨by_, 1, none⟩ = some (.slice y.a.1 y.words.length y.a.2)) (y2 : w.cell? ⟨by_, 2, none⟩ = some (.slice y.b.1 y.texts.length y.b.2)) (y3 : w.cell? ⟨by_, 3, none⟩ = some (.slice y.c.1 y.subs.length y.c.2)) {P0 : ValR → Prop} {P1 : ValR → Prop} (H0 : Hid (∀ W, Ext w W → Calls Try.prog 7 #[.agg #[.int .i64 x.number, .slice x.a.1 x.words.length x.a.2, .slice x.b.1 x.texts.length x.b.2, .slice x.c.1 x.subs.length x.c.2]] W fun e W' => ∃ z, e = .returned (tvalV z) ∧ P0 z ∧ ValAt W' z ∧ (∀ b, UsesV z b → b < w.heap.size ∨ W.heap.size ≤ b) ∧ Ext W W')) (H1 : Hid (∀ W, Ext w W → Calls Try.prog 7 #[.agg #[.int .i64 y.number, .slice y.a.1 y.words.length y.a.2, .slice y.b.1 y.texts.length y.b.2, .slice y.c.1 y.subs.length y.c.2]] W fun e W' => ∃ z, e = .returned (tvalV z) ∧ P1 z ∧ ValAt W' z ∧ (∀ b, UsesV z b → b < w.heap.size ∨ W.heap.size ≤ b) ∧ Ext W W'))
    (hK : ∀ (s74 s75 s76 s77 : Value) (z0 : ValR) (z1 : ValR) (k0 k1 : Nat) (wz : World), Ext w wz → (P0 z0) → (ValAt wz z0) → BlkT wz k0 39 #[.int .i64 z0.number, .slice z0.a.1 z0.words.length z0.a.2, .slice z0.b.1 z0.texts.length z0.b.2, .slice z0.c.1 z0.subs.length z0.c.2] → (∀ b, UsesV z0 b → b < w.heap.size ∨ w.heap.size ≤ b) → w.heap.size ≤ k0 → (P1 z1) → (ValAt wz z1) → BlkT wz k1 39 #[.int .i64 z1.number, .slice z1.a.1 z1.words.length z1.a.2, .slice z1.b.1 z1.texts.length z1.b.2, .slice z1.c.1 z1.subs.length z1.c.2] → (∀ b, UsesV z1 b → b < w.heap.size ∨ w.heap.size ≤ b) → w.heap.size ≤ k1 → (∀ b, UsesV z0 b → b ≠ k0) → (∀ b, UsesV z0 b → b ≠ k1) → (∀ b, UsesV z1 b → b ≠ k0) → (∀ b, UsesV z1 b → b ≠ k1) → Q0 .normal ⟨#[u0, u1, u2, u3, u4, u5, u6, u7, u8, u9, u10, .pointer (some ⟨bx, 0, none⟩), u12, .pointer (some ⟨by_, 0, none⟩), u14, u15, u16, .pointer (some ⟨k0, 0, none⟩), .pointer (some ⟨k1, 0, none⟩), u19, u20, u21, u22, u23, u24, u25, u26, u27, u28, u29, u30, u31, u32, u33, u34, u35, u36, u37, u38, u39, u40, u41, u42, u43, u44, u45, u46, u47, u48, u49, u50, u51, u52, u53, u54, u55, u56, u57, u58, u59, u60, u61, u62, u63, u64, u65, u66, u67, u68, u69, u70, u71, u72, u73, s74, s75, s76, s77, u78, u79, u80, u81, u82, u83, u84, u85, u86, u87, u88, u89, u90, u91, u92, u93, u94, u95, u96, u97, u98, u99, u100, u101, u102, u103, u104, u105, u106, u107, u108, u109, u110], []⟩ wz) :
    Code.wp Try.prog (regLJ 10) (calmQ Q0) ⟨#[u0, u1, u2, u3, u4, u5, u6, u7, u8, u9, u10, .pointer (some ⟨bx, 0, none⟩), u12, .pointer (some ⟨by_, 0, none⟩), u14, u15, u16, u17, u18, u19, u20, u21, u22, u23, u24, u25, u26, u27, u28, u29, u30, u31, u32, u33, u34, u35, u36, u37, u38, u39, u40, u41, u42, u43, u44, u45, u46, u47, u48, u49, u50, u51, u52, u53, u54, u55, u56, u57, u58, u59, u60, u61, u62, u63, u64, u65, u66, u67, u68, u69, u70, u71, u72, u73, u74, u75, u76, u77, u78, u79, u80, u81, u82, u83, u84, u85, u86, u87, u88, u89, u90, u91, u92, u93, u94, u95, u96, u97, u98, u99, u100, u101, u102, u103, u104, u105, u106, u107, u108, u109, u110], []⟩ w := by
  have HK := Lib.hid hK
  clear hK
  conv => arg 2; whnf
  obtain ⟨I, hI⟩ : ∃ I : Array Bool → Act → World → Prop, ∀ l a W, I l a W ↔ (∃ (b0 b1 b2 b3 b4 b5 b6 b7 : Bool) (s17 s18 s74 s75 s76 s77 : Value) (z0 : ValR) (z1 : ValR) (k0 k1 : Nat), l = #[b0, b1, b2, b3, b4, b5, b6, b7] ∧ a = ⟨#[u0, u1, u2, u3, u4, u5, u6, u7, u8, u9, u10, .pointer (some ⟨bx, 0, none⟩), u12, .pointer (some ⟨by_, 0, none⟩), u14, u15, u16, s17, s18, u19, u20, u21, u22, u23, u24, u25, u26, u27, u28, u29, u30, u31, u32, u33, u34, u35, u36, u37, u38, u39, u40, u41, u42, u43, u44, u45, u46, u47, u48, u49, u50, u51, u52, u53, u54, u55, u56, u57, u58, u59, u60, u61, u62, u63, u64, u65, u66, u67, u68, u69, u70, u71, u72, u73, s74, s75, s76, s77, u78, u79, u80, u81, u82, u83, u84, u85, u86, u87, u88, u89, u90, u91, u92, u93, u94, u95, u96, u97, u98, u99, u100, u101, u102, u103, u104, u105, u106, u107, u108, u109, u110], []⟩ ∧ Ext w W ∧ (b0 = true → s74 = .agg #[.int .i64 x.number, .slice x.a.1 x.words.length x.a.2, .slice x.b.1 x.texts.length x.b.2, .slice x.c.1 x.subs.length x.c.2]) ∧ (b2 = true → s76 = .agg #[.int .i64 y.number, .slice y.a.1 y.words.length y.a.2, .slice y.b.1 y.texts.length y.b.2, .slice y.c.1 y.subs.length y.c.2]) ∧ (b1 = true → s75 = .agg #[.int .i64 z0.number, .slice z0.a.1 z0.words.length z0.a.2, .slice z0.b.1 z0.texts.length z0.b.2, .slice z0.c.1 z0.subs.length z0.c.2] ∧ P0 z0 ∧ ValAt W z0 ∧ ∀ b, UsesV z0 b → b < w.heap.size ∨ w.heap.size ≤ b) ∧ (b4 = true → s17 = .pointer (some ⟨k0, 0, none⟩) ∧ w.heap.size ≤ k0 ∧ (b6 = false → BlkT W k0 39 #[.int .i64 0, .slice none 0 0, .slice none 0 0, .slice none 0 0]) ∧ (b6 = true → BlkT W k0 39 #[.int .i64 z0.number, .slice z0.a.1 z0.words.length z0.a.2, .slice z0.b.1 z0.texts.length z0.b.2, .slice z0.c.1 z0.subs.length z0.c.2])) ∧ (b6 = true → b1 = true ∧ b4 = true) ∧ (b3 = true → s77 = .agg #[.int .i64 z1.number, .slice z1.a.1 z1.words.length z1.a.2, .slice z1.b.1 z1.texts.length z1.b.2, .slice z1.c.1 z1.subs.length z1.c.2] ∧ P1 z1 ∧ ValAt W z1 ∧ ∀ b, UsesV z1 b → b < w.heap.size ∨ w.heap.size ≤ b) ∧ (b5 = true → s18 = .pointer (some ⟨k1, 0, none⟩) ∧ w.heap.size ≤ k1 ∧ (b7 = false → BlkT W k1 39 #[.int .i64 0, .slice none 0 0, .slice none 0 0, .slice none 0 0]) ∧ (b7 = true → BlkT W k1 39 #[.int .i64 z1.number, .slice z1.a.1 z1.words.length z1.a.2, .slice z1.b.1 z1.texts.length z1.b.2, .slice z1.c.1 z1.subs.length z1.c.2])) ∧ (b7 = true → b3 = true ∧ b5 = true) ∧ (b1 = true → b4 = true → ∀ b, UsesV z0 b → b ≠ k0) ∧ (b1 = true → b5 = true → ∀ b, UsesV z0 b → b ≠ k1) ∧ (b3 = true → b4 = true → ∀ b, UsesV z1 b → b ≠ k0) ∧ (b3 = true → b5 = true → ∀ b, UsesV z1 b → b ≠ k1) ∧ (b5 = true → b4 = true → k1 ≠ k0)) := ⟨_, fun _ _ _ => Iff.rfl⟩
  have HI := Lib.hid hI
  clear hI
  refine wp_region_inv (I := I) (by kernel_rfl) (fun i l a W hi hr => ?_) (fun l a W hi hr => ?_) ?_
  · obtain ⟨b0, b1, b2, b3, b4, b5, b6, b7, s17, s18, s74, s75, s76, s77, z0, z1, k0, k1, rfl, rfl, X, Q0, Q2, C0, A0, S0, C1, A1, S1, D00, D01, D10, D11, N10⟩ := (HI.out _ _ _).1 hi
    clear hi
    obtain ⟨hlt, hl, hd⟩ := ready_spec hr
    clear hr
    have hlt : i < 8 := hlt
    rcases (show i = 0 ∨ i = 1 ∨ i = 2 ∨ i = 3 ∨ i = 4 ∨ i = 5 ∨ i = 6 ∨ i = 7 by omega) with rfl | rfl | rfl | rfl | rfl | rfl | rfl | rfl
    · have e : b0 = false := hl
      subst e
      have hd := hd _ rfl
      clear hl hlt
      clear hd
      have H_Q0 := Lib.hid Q0; clear Q0; have H_Q2 := Lib.hid Q2; clear Q2; have H_C0 := Lib.hid C0; clear C0; have H_A0 := Lib.hid A0; clear A0; have H_S0 := Lib.hid S0; clear S0; have H_C1 := Lib.hid C1; clear C1; have H_A1 := Lib.hid A1; clear A1; have H_S1 := Lib.hid S1; clear S1; have H_D00 := Lib.hid D00; clear D00; have H_D01 := Lib.hid D01; clear D01; have H_D10 := Lib.hid D10; clear D10; have H_D11 := Lib.hid D11; clear D11; have H_N10 := Lib.hid N10; clear N10
      have c0 := X.of_cell x0
      have c1 := X.of_cell x1
      have c2 := X.of_cell x2
      have c3 := X.of_cell x3
      refine wpOp_run (o := ?o0) ?i0 ?w0 (fun K hK => ?_)
      case i0 => simp only [List.getElem?_toArray, List.getElem?_cons_zero, List.getElem?_cons_succ]; exact rfl
      case w0 => rfl
      have HK2 := Lib.hid hK
      clear hK
      go_simp
      (try simp only [Act.put, List.setIfInBounds_toArray, List.set_cons_zero, List.set_cons_succ])
      refine HK2.out _ _ ((HI.out _ _ _).2 ⟨true, b1, b2, b3, b4, b5, b6, b7, _, _, _, _, _, _, z0, z1, k0, k1, rfl, rfl, ?_, ?_, ?_, ?_, ?_, ?_, ?_, ?_, ?_, ?_, ?_, ?_, ?_, ?_⟩)
      · exact X
      · exact fun _ => rfl
      · exact H_Q2.out
      · exact H_C0.out
      · exact H_A0.out
      · exact H_S0.out
      · exact H_C1.out
      · exact H_A1.out
      · exact H_S1.out
      · exact H_D00.out
      · exact H_D01.out
      · exact H_D10.out
      · exact H_D11.out
      · exact H_N10.out
    · have e : b1 = false := hl
      subst e
      have hd := hd _ rfl
      clear hl hlt
      simp [Region.binds] at hd
      have ed : b0 = true := by simp [hd]
      obtain rfl := ed
      clear hd
      have H_Q0 := Lib.hid Q0; clear Q0; have H_Q2 := Lib.hid Q2; clear Q2; have H_C0 := Lib.hid C0; clear C0; have H_A0 := Lib.hid A0; clear A0; have H_S0 := Lib.hid S0; clear S0; have H_C1 := Lib.hid C1; clear C1; have H_A1 := Lib.hid A1; clear A1; have H_S1 := Lib.hid S1; clear S1; have H_D00 := Lib.hid D00; clear D00; have H_D01 := Lib.hid D01; clear D01; have H_D10 := Lib.hid D10; clear D10; have H_D11 := Lib.hid D11; clear D11; have H_N10 := Lib.hid N10; clear N10
      have e0 := H_Q0.out rfl
      subst e0
      refine wpOp_run (o := ?o1) ?i1 ?w1 (fun K hK => ?_)
      case i1 => simp only [List.getElem?_toArray, List.getElem?_cons_zero, List.getElem?_cons_succ]; exact rfl
      case w1 => rfl
      have HK2 := Lib.hid hK
      clear hK
      go_simp
      go_at_call 7
      refine (H0.out _ X).mono ?_
      rintro e W2 ⟨zn, rfl, pn, an, un, E2⟩
      (try dsimp only)
      (try simp only [Act.put, List.setIfInBounds_toArray, List.set_cons_zero, List.set_cons_succ])
      refine HK2.out _ _ ((HI.out _ _ _).2 ⟨true, true, b2, b3, b4, b5, b6, b7, _, _, _, _, _, _, zn, z1, k0, k1, rfl, rfl, ?_, ?_, ?_, ?_, ?_, ?_, ?_, ?_, ?_, ?_, ?_, ?_, ?_, ?_⟩)
      · exact X.trans E2
      · exact fun _ => rfl
      · exact H_Q2.out
      · exact fun _ => ⟨rfl, pn, an, fun b hb => by have := un b hb; have := X.size; omega⟩
      · refine fun h => ⟨(H_A0.out h).1, (H_A0.out h).2.1, fun h2 => ((H_A0.out h).2.2.1 h2).up E2, fun h2 => ?_⟩; have := (H_S0.out h2).1; cases this
      · exact fun h => absurd (H_S0.out h).1 (by decide)
      · exact fun h => ⟨(H_C1.out h).1, (H_C1.out h).2.1, (H_C1.out h).2.2.1.up E2, (H_C1.out h).2.2.2⟩
      · exact fun h => ⟨(H_A1.out h).1, (H_A1.out h).2.1, fun h2 => ((H_A1.out h).2.2.1 h2).up E2, fun h2 => ((H_A1.out h).2.2.2 h2).up E2⟩
      · exact H_S1.out
      · refine fun _ h b hb => ?_; have h1 := H_A0.out h; have h2 := un b hb; have h3 : k0 < W.heap.size := by rcases hs : b6 with _ | _; exact (h1.2.2.1 hs).lt; exact (h1.2.2.2 hs).lt
        have := h1.2.1; omega
      · refine fun _ h b hb => ?_; have h1 := H_A1.out h; have h2 := un b hb; have h3 : k1 < W.heap.size := by rcases hs : b7 with _ | _; exact (h1.2.2.1 hs).lt; exact (h1.2.2.2 hs).lt
        have := h1.2.1; omega
      · exact H_D10.out
      · exact H_D11.out
      · exact H_N10.out
    · have e : b2 = false := hl
      subst e
      have hd := hd _ rfl
      clear hl hlt
      clear hd
      have H_Q0 := Lib.hid Q0; clear Q0; have H_Q2 := Lib.hid Q2; clear Q2; have H_C0 := Lib.hid C0; clear C0; have H_A0 := Lib.hid A0; clear A0; have H_S0 := Lib.hid S0; clear S0; have H_C1 := Lib.hid C1; clear C1; have H_A1 := Lib.hid A1; clear A1; have H_S1 := Lib.hid S1; clear S1; have H_D00 := Lib.hid D00; clear D00; have H_D01 := Lib.hid D01; clear D01; have H_D10 := Lib.hid D10; clear D10; have H_D11 := Lib.hid D11; clear D11; have H_N10 := Lib.hid N10; clear N10
      have c0 := X.of_cell y0
      have c1 := X.of_cell y1
      have c2 := X.of_cell y2
      have c3 := X.of_cell y3
      refine wpOp_run (o := ?o2) ?i2 ?w2 (fun K hK => ?_)
      case i2 => simp only [List.getElem?_toArray, List.getElem?_cons_zero, List.getElem?_cons_succ]; exact rfl
      case w2 => rfl
      have HK2 := Lib.hid hK
      clear hK
      go_simp
      (try simp only [Act.put, List.setIfInBounds_toArray, List.set_cons_zero, List.set_cons_succ])
      refine HK2.out _ _ ((HI.out _ _ _).2 ⟨b0, b1, true, b3, b4, b5, b6, b7, _, _, _, _, _, _, z0, z1, k0, k1, rfl, rfl, ?_, ?_, ?_, ?_, ?_, ?_, ?_, ?_, ?_, ?_, ?_, ?_, ?_, ?_⟩)
      · exact X
      · exact H_Q0.out
      · exact fun _ => rfl
      · exact H_C0.out
      · exact H_A0.out
      · exact H_S0.out
      · exact H_C1.out
      · exact H_A1.out
      · exact H_S1.out
      · exact H_D00.out
      · exact H_D01.out
      · exact H_D10.out
      · exact H_D11.out
      · exact H_N10.out
    · have e : b3 = false := hl
      subst e
      have hd := hd _ rfl
      clear hl hlt
      simp [Region.binds] at hd
      have ed : b1 = true ∧ b2 = true := ⟨by simp [hd], by simp [hd]⟩
      obtain ⟨rfl, rfl⟩ := ed
      clear hd
      have H_Q0 := Lib.hid Q0; clear Q0; have H_Q2 := Lib.hid Q2; clear Q2; have H_C0 := Lib.hid C0; clear C0; have H_A0 := Lib.hid A0; clear A0; have H_S0 := Lib.hid S0; clear S0; have H_C1 := Lib.hid C1; clear C1; have H_A1 := Lib.hid A1; clear A1; have H_S1 := Lib.hid S1; clear S1; have H_D00 := Lib.hid D00; clear D00; have H_D01 := Lib.hid D01; clear D01; have H_D10 := Lib.hid D10; clear D10; have H_D11 := Lib.hid D11; clear D11; have H_N10 := Lib.hid N10; clear N10
      have e2 := H_Q2.out rfl
      subst e2
      refine wpOp_run (o := ?o3) ?i3 ?w3 (fun K hK => ?_)
      case i3 => simp only [List.getElem?_toArray, List.getElem?_cons_zero, List.getElem?_cons_succ]; exact rfl
      case w3 => rfl
      have HK2 := Lib.hid hK
      clear hK
      go_simp
      go_at_call 7
      refine (H1.out _ X).mono ?_
      rintro e W2 ⟨zn, rfl, pn, an, un, E2⟩
      (try dsimp only)
      (try simp only [Act.put, List.setIfInBounds_toArray, List.set_cons_zero, List.set_cons_succ])
      refine HK2.out _ _ ((HI.out _ _ _).2 ⟨b0, true, true, true, b4, b5, b6, b7, _, _, _, _, _, _, z0, zn, k0, k1, rfl, rfl, ?_, ?_, ?_, ?_, ?_, ?_, ?_, ?_, ?_, ?_, ?_, ?_, ?_, ?_⟩)
      · exact X.trans E2
      · exact H_Q0.out
      · exact fun _ => rfl
      · exact fun h => ⟨(H_C0.out h).1, (H_C0.out h).2.1, (H_C0.out h).2.2.1.up E2, (H_C0.out h).2.2.2⟩
      · exact fun h => ⟨(H_A0.out h).1, (H_A0.out h).2.1, fun h2 => ((H_A0.out h).2.2.1 h2).up E2, fun h2 => ((H_A0.out h).2.2.2 h2).up E2⟩
      · exact H_S0.out
      · exact fun _ => ⟨rfl, pn, an, fun b hb => by have := un b hb; have := X.size; omega⟩
      · refine fun h => ⟨(H_A1.out h).1, (H_A1.out h).2.1, fun h2 => ((H_A1.out h).2.2.1 h2).up E2, fun h2 => ?_⟩; have := (H_S1.out h2).1; cases this
      · exact fun h => absurd (H_S1.out h).1 (by decide)
      · exact H_D00.out
      · exact H_D01.out
      · refine fun _ h b hb => ?_; have h1 := H_A0.out h; have h2 := un b hb; have h3 : k0 < W.heap.size := by rcases hs : b6 with _ | _; exact (h1.2.2.1 hs).lt; exact (h1.2.2.2 hs).lt
        have := h1.2.1; omega
      · refine fun _ h b hb => ?_; have h1 := H_A1.out h; have h2 := un b hb; have h3 : k1 < W.heap.size := by rcases hs : b7 with _ | _; exact (h1.2.2.1 hs).lt; exact (h1.2.2.2 hs).lt
        have := h1.2.1; omega
      · exact H_N10.out
    · have e : b4 = false := hl
      subst e
      have hd := hd _ rfl
      clear hl hlt
      clear hd
      have H_Q0 := Lib.hid Q0; clear Q0; have H_Q2 := Lib.hid Q2; clear Q2; have H_C0 := Lib.hid C0; clear C0; have H_A0 := Lib.hid A0; clear A0; have H_S0 := Lib.hid S0; clear S0; have H_C1 := Lib.hid C1; clear C1; have H_A1 := Lib.hid A1; clear A1; have H_S1 := Lib.hid S1; clear S1; have H_D00 := Lib.hid D00; clear D00; have H_D01 := Lib.hid D01; clear D01; have H_D10 := Lib.hid D10; clear D10; have H_D11 := Lib.hid D11; clear D11; have H_N10 := Lib.hid N10; clear N10
      refine wpOp_run (o := ?o4) ?i4 ?w4 (fun K hK => ?_)
      case i4 => simp only [List.getElem?_toArray, List.getElem?_cons_zero, List.getElem?_cons_succ]; exact rfl
      case w4 => rfl
      have HK2 := Lib.hid hK
      clear hK
      go_simp
      (try simp only [Act.put, List.setIfInBounds_toArray, List.set_cons_zero, List.set_cons_succ])
      refine HK2.out _ _ ((HI.out _ _ _).2 ⟨b0, b1, b2, b3, true, b5, b6, b7, _, _, _, _, _, _, z0, z1, W.heap.size, k1, rfl, rfl, ?_, ?_, ?_, ?_, ?_, ?_, ?_, ?_, ?_, ?_, ?_, ?_, ?_, ?_⟩)
      · exact X.alloc _
      · exact H_Q0.out
      · exact H_Q2.out
      · exact fun h => ⟨(H_C0.out h).1, (H_C0.out h).2.1, (H_C0.out h).2.2.1.up ((Ext.refl W).alloc _), (H_C0.out h).2.2.2⟩
      · refine fun _ => ⟨rfl, X.size, fun _ => BlkT.new W _ _ rfl, fun h => ?_⟩; have := (H_S0.out h).2; cases this
      · exact fun h => absurd (H_S0.out h).2 (by decide)
      · exact fun h => ⟨(H_C1.out h).1, (H_C1.out h).2.1, (H_C1.out h).2.2.1.up ((Ext.refl W).alloc _), (H_C1.out h).2.2.2⟩
      · exact fun h => ⟨(H_A1.out h).1, (H_A1.out h).2.1, fun h2 => ((H_A1.out h).2.2.1 h2).alloc _, fun h2 => ((H_A1.out h).2.2.2 h2).alloc _⟩
      · exact H_S1.out
      · refine fun h _ b hb => ?_; have := (H_C0.out h).2.2.1.lt hb; omega
      · exact H_D01.out
      · refine fun h _ b hb => ?_; have := (H_C1.out h).2.2.1.lt hb; omega
      · exact H_D11.out
      · refine fun h _ => ?_; have h1 := H_A1.out h; have h3 : k1 < W.heap.size := by rcases hs : b7 with _ | _; exact (h1.2.2.1 hs).lt; exact (h1.2.2.2 hs).lt
        omega
    · have e : b5 = false := hl
      subst e
      have hd := hd _ rfl
      clear hl hlt
      clear hd
      have H_Q0 := Lib.hid Q0; clear Q0; have H_Q2 := Lib.hid Q2; clear Q2; have H_C0 := Lib.hid C0; clear C0; have H_A0 := Lib.hid A0; clear A0; have H_S0 := Lib.hid S0; clear S0; have H_C1 := Lib.hid C1; clear C1; have H_A1 := Lib.hid A1; clear A1; have H_S1 := Lib.hid S1; clear S1; have H_D00 := Lib.hid D00; clear D00; have H_D01 := Lib.hid D01; clear D01; have H_D10 := Lib.hid D10; clear D10; have H_D11 := Lib.hid D11; clear D11; have H_N10 := Lib.hid N10; clear N10
      refine wpOp_run (o := ?o5) ?i5 ?w5 (fun K hK => ?_)
      case i5 => simp only [List.getElem?_toArray, List.getElem?_cons_zero, List.getElem?_cons_succ]; exact rfl
      case w5 => rfl
      have HK2 := Lib.hid hK
      clear hK
      go_simp
      (try simp only [Act.put, List.setIfInBounds_toArray, List.set_cons_zero, List.set_cons_succ])
      refine HK2.out _ _ ((HI.out _ _ _).2 ⟨b0, b1, b2, b3, b4, true, b6, b7, _, _, _, _, _, _, z0, z1, k0, W.heap.size, rfl, rfl, ?_, ?_, ?_, ?_, ?_, ?_, ?_, ?_, ?_, ?_, ?_, ?_, ?_, ?_⟩)
      · exact X.alloc _
      · exact H_Q0.out
      · exact H_Q2.out
      · exact fun h => ⟨(H_C0.out h).1, (H_C0.out h).2.1, (H_C0.out h).2.2.1.up ((Ext.refl W).alloc _), (H_C0.out h).2.2.2⟩
      · exact fun h => ⟨(H_A0.out h).1, (H_A0.out h).2.1, fun h2 => ((H_A0.out h).2.2.1 h2).alloc _, fun h2 => ((H_A0.out h).2.2.2 h2).alloc _⟩
      · exact H_S0.out
      · exact fun h => ⟨(H_C1.out h).1, (H_C1.out h).2.1, (H_C1.out h).2.2.1.up ((Ext.refl W).alloc _), (H_C1.out h).2.2.2⟩
      · refine fun _ => ⟨rfl, X.size, fun _ => BlkT.new W _ _ rfl, fun h => ?_⟩; have := (H_S1.out h).2; cases this
      · exact fun h => absurd (H_S1.out h).2 (by decide)
      · exact H_D00.out
      · refine fun h _ b hb => ?_; have := (H_C0.out h).2.2.1.lt hb; omega
      · exact H_D10.out
      · refine fun h _ b hb => ?_; have := (H_C1.out h).2.2.1.lt hb; omega
      · refine fun _ h => ?_; have h1 := H_A0.out h; have h3 : k0 < W.heap.size := by rcases hs : b6 with _ | _; exact (h1.2.2.1 hs).lt; exact (h1.2.2.2 hs).lt
        omega
    · have e : b6 = false := hl
      subst e
      have hd := hd _ rfl
      clear hl hlt
      simp [Region.binds] at hd
      have ed : b0 = true ∧ b1 = true ∧ b3 = true ∧ b4 = true ∧ b5 = true := ⟨by simp [hd], by simp [hd], by simp [hd], by simp [hd], by simp [hd]⟩
      obtain ⟨rfl, rfl, rfl, rfl, rfl⟩ := ed
      clear hd
      have H_Q0 := Lib.hid Q0; clear Q0; have H_Q2 := Lib.hid Q2; clear Q2; have H_C0 := Lib.hid C0; clear C0; have H_A0 := Lib.hid A0; clear A0; have H_S0 := Lib.hid S0; clear S0; have H_C1 := Lib.hid C1; clear C1; have H_A1 := Lib.hid A1; clear A1; have H_S1 := Lib.hid S1; clear S1; have H_D00 := Lib.hid D00; clear D00; have H_D01 := Lib.hid D01; clear D01; have H_D10 := Lib.hid D10; clear D10; have H_D11 := Lib.hid D11; clear D11; have H_N10 := Lib.hid N10; clear N10
      obtain ⟨ec, pc, ac, uc⟩ := H_C0.out rfl
      subst ec
      obtain ⟨ea, ka, za, _⟩ := H_A0.out rfl
      subst ea
      have B := za rfl
      have c0 : W.cell? ⟨k0, 0, none⟩ = some (.int .i64 0) := B.cell 0
      have f0 := B.free 0
      have c1 : W.cell? ⟨k0, 1, none⟩ = some (.slice none 0 0) := B.cell 1
      have f1 := B.free 1
      have c2 : W.cell? ⟨k0, 2, none⟩ = some (.slice none 0 0) := B.cell 2
      have f2 := B.free 2
      have c3 : W.cell? ⟨k0, 3, none⟩ = some (.slice none 0 0) := B.cell 3
      have f3 := B.free 3
      have lb := B.lt
      clear za
      have HB := Lib.hid B
      clear B
      refine wpOp_run (o := ?o6) ?i6 ?w6 (fun K hK => ?_)
      case i6 => simp only [List.getElem?_toArray, List.getElem?_cons_zero, List.getElem?_cons_succ]; exact rfl
      case w6 => rfl
      have HK2 := Lib.hid hK
      clear hK
      go_simp
      (try simp only [Act.put, List.setIfInBounds_toArray, List.set_cons_zero, List.set_cons_succ])
      refine HK2.out _ _ ((HI.out _ _ _).2 ⟨true, true, b2, true, true, true, true, b7, _, _, _, _, _, _, z0, z1, k0, k1, rfl, rfl, ?_, ?_, ?_, ?_, ?_, ?_, ?_, ?_, ?_, ?_, ?_, ?_, ?_, ?_⟩)
      · exact ((((X).setCell (p := ⟨k0, 0, none⟩) ka (.int .i64 z0.number)).setCell (p := ⟨k0, 1, none⟩) ka (.slice z0.a.1 z0.words.length z0.a.2)).setCell (p := ⟨k0, 2, none⟩) ka (.slice z0.b.1 z0.texts.length z0.b.2)).setCell (p := ⟨k0, 3, none⟩) ka (.slice z0.c.1 z0.subs.length z0.c.2)
      · exact H_Q0.out
      · exact H_Q2.out
      · exact fun _ => ⟨rfl, pc, ac.stays (((((Stays.refl (fun b => b ≠ k0) W).set (p := ⟨k0, 0, none⟩) (fun e => e rfl) (.int .i64 z0.number)).set (p := ⟨k0, 1, none⟩) (fun e => e rfl) (.slice z0.a.1 z0.words.length z0.a.2)).set (p := ⟨k0, 2, none⟩) (fun e => e rfl) (.slice z0.b.1 z0.texts.length z0.b.2)).set (p := ⟨k0, 3, none⟩) (fun e => e rfl) (.slice z0.c.1 z0.subs.length z0.c.2)) (fun b hb => H_D00.out rfl rfl b hb), uc⟩
      · exact fun _ => ⟨rfl, ka, fun h => (by cases h), fun _ => ((((HB.out).set_ 0 (.int .i64 z0.number)).set_ 1 (.slice z0.a.1 z0.words.length z0.a.2)).set_ 2 (.slice z0.b.1 z0.texts.length z0.b.2)).set_ 3 (.slice z0.c.1 z0.subs.length z0.c.2)⟩
      · exact fun _ => ⟨rfl, rfl⟩
      · exact fun h => ⟨(H_C1.out h).1, (H_C1.out h).2.1, (H_C1.out h).2.2.1.stays (((((Stays.refl (fun b => b ≠ k0) W).set (p := ⟨k0, 0, none⟩) (fun e => e rfl) (.int .i64 z0.number)).set (p := ⟨k0, 1, none⟩) (fun e => e rfl) (.slice z0.a.1 z0.words.length z0.a.2)).set (p := ⟨k0, 2, none⟩) (fun e => e rfl) (.slice z0.b.1 z0.texts.length z0.b.2)).set (p := ⟨k0, 3, none⟩) (fun e => e rfl) (.slice z0.c.1 z0.subs.length z0.c.2)) (fun b hb => H_D10.out h rfl b hb), (H_C1.out h).2.2.2⟩
      · refine fun h => ?_; have hne := H_N10.out h rfl; exact ⟨(H_A1.out h).1, (H_A1.out h).2.1, fun h2 => (((((H_A1.out h).2.2.1 h2).far (p := ⟨k0, 0, none⟩) hne (.int .i64 z0.number)).far (p := ⟨k0, 1, none⟩) hne (.slice z0.a.1 z0.words.length z0.a.2)).far (p := ⟨k0, 2, none⟩) hne (.slice z0.b.1 z0.texts.length z0.b.2)).far (p := ⟨k0, 3, none⟩) hne (.slice z0.c.1 z0.subs.length z0.c.2), fun h2 => (((((H_A1.out h).2.2.2 h2).far (p := ⟨k0, 0, none⟩) hne (.int .i64 z0.number)).far (p := ⟨k0, 1, none⟩) hne (.slice z0.a.1 z0.words.length z0.a.2)).far (p := ⟨k0, 2, none⟩) hne (.slice z0.b.1 z0.texts.length z0.b.2)).far (p := ⟨k0, 3, none⟩) hne (.slice z0.c.1 z0.subs.length z0.c.2)⟩
      · exact H_S1.out
      · exact H_D00.out
      · exact H_D01.out
      · exact H_D10.out
      · exact H_D11.out
      · exact H_N10.out
    · have e : b7 = false := hl
      subst e
      have hd := hd _ rfl
      clear hl hlt
      simp [Region.binds] at hd
      have ed : b1 = true ∧ b2 = true ∧ b3 = true ∧ b4 = true ∧ b5 = true := ⟨by simp [hd], by simp [hd], by simp [hd], by simp [hd], by simp [hd]⟩
      obtain ⟨rfl, rfl, rfl, rfl, rfl⟩ := ed
      clear hd
      have H_Q0 := Lib.hid Q0; clear Q0; have H_Q2 := Lib.hid Q2; clear Q2; have H_C0 := Lib.hid C0; clear C0; have H_A0 := Lib.hid A0; clear A0; have H_S0 := Lib.hid S0; clear S0; have H_C1 := Lib.hid C1; clear C1; have H_A1 := Lib.hid A1; clear A1; have H_S1 := Lib.hid S1; clear S1; have H_D00 := Lib.hid D00; clear D00; have H_D01 := Lib.hid D01; clear D01; have H_D10 := Lib.hid D10; clear D10; have H_D11 := Lib.hid D11; clear D11; have H_N10 := Lib.hid N10; clear N10
      obtain ⟨ec, pc, ac, uc⟩ := H_C1.out rfl
      subst ec
      obtain ⟨ea, ka, za, _⟩ := H_A1.out rfl
      subst ea
      have B := za rfl
      have c0 : W.cell? ⟨k1, 0, none⟩ = some (.int .i64 0) := B.cell 0
      have f0 := B.free 0
      have c1 : W.cell? ⟨k1, 1, none⟩ = some (.slice none 0 0) := B.cell 1
      have f1 := B.free 1
      have c2 : W.cell? ⟨k1, 2, none⟩ = some (.slice none 0 0) := B.cell 2
      have f2 := B.free 2
      have c3 : W.cell? ⟨k1, 3, none⟩ = some (.slice none 0 0) := B.cell 3
      have f3 := B.free 3
      have lb := B.lt
      clear za
      have HB := Lib.hid B
      clear B
      refine wpOp_run (o := ?o7) ?i7 ?w7 (fun K hK => ?_)
      case i7 => simp only [List.getElem?_toArray, List.getElem?_cons_zero, List.getElem?_cons_succ]; exact rfl
      case w7 => rfl
      have HK2 := Lib.hid hK
      clear hK
      go_simp
      (try simp only [Act.put, List.setIfInBounds_toArray, List.set_cons_zero, List.set_cons_succ])
      refine HK2.out _ _ ((HI.out _ _ _).2 ⟨b0, true, true, true, true, true, b6, true, _, _, _, _, _, _, z0, z1, k0, k1, rfl, rfl, ?_, ?_, ?_, ?_, ?_, ?_, ?_, ?_, ?_, ?_, ?_, ?_, ?_, ?_⟩)
      · exact ((((X).setCell (p := ⟨k1, 0, none⟩) ka (.int .i64 z1.number)).setCell (p := ⟨k1, 1, none⟩) ka (.slice z1.a.1 z1.words.length z1.a.2)).setCell (p := ⟨k1, 2, none⟩) ka (.slice z1.b.1 z1.texts.length z1.b.2)).setCell (p := ⟨k1, 3, none⟩) ka (.slice z1.c.1 z1.subs.length z1.c.2)
      · exact H_Q0.out
      · exact H_Q2.out
      · exact fun h => ⟨(H_C0.out h).1, (H_C0.out h).2.1, (H_C0.out h).2.2.1.stays (((((Stays.refl (fun b => b ≠ k1) W).set (p := ⟨k1, 0, none⟩) (fun e => e rfl) (.int .i64 z1.number)).set (p := ⟨k1, 1, none⟩) (fun e => e rfl) (.slice z1.a.1 z1.words.length z1.a.2)).set (p := ⟨k1, 2, none⟩) (fun e => e rfl) (.slice z1.b.1 z1.texts.length z1.b.2)).set (p := ⟨k1, 3, none⟩) (fun e => e rfl) (.slice z1.c.1 z1.subs.length z1.c.2)) (fun b hb => H_D01.out h rfl b hb), (H_C0.out h).2.2.2⟩
      · refine fun h => ?_; have hne := (H_N10.out rfl h).symm; exact ⟨(H_A0.out h).1, (H_A0.out h).2.1, fun h2 => (((((H_A0.out h).2.2.1 h2).far (p := ⟨k1, 0, none⟩) hne (.int .i64 z1.number)).far (p := ⟨k1, 1, none⟩) hne (.slice z1.a.1 z1.words.length z1.a.2)).far (p := ⟨k1, 2, none⟩) hne (.slice z1.b.1 z1.texts.length z1.b.2)).far (p := ⟨k1, 3, none⟩) hne (.slice z1.c.1 z1.subs.length z1.c.2), fun h2 => (((((H_A0.out h).2.2.2 h2).far (p := ⟨k1, 0, none⟩) hne (.int .i64 z1.number)).far (p := ⟨k1, 1, none⟩) hne (.slice z1.a.1 z1.words.length z1.a.2)).far (p := ⟨k1, 2, none⟩) hne (.slice z1.b.1 z1.texts.length z1.b.2)).far (p := ⟨k1, 3, none⟩) hne (.slice z1.c.1 z1.subs.length z1.c.2)⟩
      · exact H_S0.out
      · exact fun _ => ⟨rfl, pc, ac.stays (((((Stays.refl (fun b => b ≠ k1) W).set (p := ⟨k1, 0, none⟩) (fun e => e rfl) (.int .i64 z1.number)).set (p := ⟨k1, 1, none⟩) (fun e => e rfl) (.slice z1.a.1 z1.words.length z1.a.2)).set (p := ⟨k1, 2, none⟩) (fun e => e rfl) (.slice z1.b.1 z1.texts.length z1.b.2)).set (p := ⟨k1, 3, none⟩) (fun e => e rfl) (.slice z1.c.1 z1.subs.length z1.c.2)) (fun b hb => H_D11.out rfl rfl b hb), uc⟩
      · exact fun _ => ⟨rfl, ka, fun h => (by cases h), fun _ => ((((HB.out).set_ 0 (.int .i64 z1.number)).set_ 1 (.slice z1.a.1 z1.words.length z1.a.2)).set_ 2 (.slice z1.b.1 z1.texts.length z1.b.2)).set_ 3 (.slice z1.c.1 z1.subs.length z1.c.2)⟩
      · exact fun _ => ⟨rfl, rfl⟩
      · exact H_D00.out
      · exact H_D01.out
      · exact H_D10.out
      · exact H_D11.out
      · exact H_N10.out
  · obtain ⟨b0, b1, b2, b3, b4, b5, b6, b7, s17, s18, s74, s75, s76, s77, z0, z1, k0, k1, rfl, rfl, X, Q0, Q2, C0, A0, S0, C1, A1, S1, D00, D01, D10, D11, N10⟩ := (HI.out _ _ _).1 hi
    clear hi
    have t0 : b0 = true := ready_none hr (i := 0) rfl (by simp [Region.binds]) (show 0 < 8 by decide)
    have t1 : b1 = true := ready_none hr (i := 1) rfl (by simp [Region.binds, t0]) (show 1 < 8 by decide)
    have t2 : b2 = true := ready_none hr (i := 2) rfl (by simp [Region.binds, t0, t1]) (show 2 < 8 by decide)
    have t3 : b3 = true := ready_none hr (i := 3) rfl (by simp [Region.binds, t0, t1, t2]) (show 3 < 8 by decide)
    have t4 : b4 = true := ready_none hr (i := 4) rfl (by simp [Region.binds, t0, t1, t2, t3]) (show 4 < 8 by decide)
    have t5 : b5 = true := ready_none hr (i := 5) rfl (by simp [Region.binds, t0, t1, t2, t3, t4]) (show 5 < 8 by decide)
    have t6 : b6 = true := ready_none hr (i := 6) rfl (by simp [Region.binds, t0, t1, t2, t3, t4, t5]) (show 6 < 8 by decide)
    have t7 : b7 = true := ready_none hr (i := 7) rfl (by simp [Region.binds, t0, t1, t2, t3, t4, t5, t6]) (show 7 < 8 by decide)
    subst t0 t1 t2 t3 t4 t5 t6 t7
    obtain ⟨rfl, p0, a0, n0⟩ := C0 rfl
    obtain ⟨rfl, l0, _, g0⟩ := A0 rfl
    obtain ⟨rfl, p1, a1, n1⟩ := C1 rfl
    obtain ⟨rfl, l1, _, g1⟩ := A1 rfl
    exact HK.out _ _ _ _ z0 z1 k0 k1 W X p0 a0 (g0 rfl) n0 l0 p1 a1 (g1 rfl) n1 l1 (D00 rfl rfl) (D01 rfl rfl) (D10 rfl rfl) (D11 rfl rfl)
  · refine (HI.out _ _ _).2 ⟨false, false, false, false, false, false, false, false, _, _, _, _, _, _, ⟨(none, 0), (none, 0), (none, 0), 0, [], [], []⟩, ⟨(none, 0), (none, 0), (none, 0), 0, [], [], []⟩, 0, 0, rfl, rfl, (Ext.refl w).drew, ?_, ?_, ?_, ?_, ?_, ?_, ?_, ?_, ?_, ?_, ?_, ?_, ?_⟩
    all_goals (intro h; first | cases h | (intro h2; cases h))

structure Ljreg11S where
  (b0 b1 b2 b3 b4 b5 b6 b7 b8 b9 b10 b11 b12 b13 b14 b15 b16 b17 b18 b19 b20 b21 b22 b23 b24 b25 : Bool)
  (s19 s78 s79 s80 s81 s82 s83 s84 s85 s86 s87 s88 s89 s90 s91 s92 s93 s94 s95 s96 s97 s98 s99 s100 s101 : Value)
  (AB0 A10 A20 AB1 A11 A21 AB2 A12 A22 : Option Addr)
  (cB0 c10 c20 cB1 c11 c21 cB2 c12 c22 : Nat)
  (kn : Nat)

structure Ljreg11F (w : World) (ka : Nat) (kc : Nat) (u : ValR) (v : ValR) (σ : Ljreg11S) (W : World) : Prop where
  X : σ.b25 = false → Ext w W
  NB : σ.b24 = true → σ.b25 = false → σ.s19 = .pointer (some ⟨σ.kn, 0, none⟩) ∧ w.heap.size ≤ σ.kn ∧ BlkT W σ.kn 39 #[.int .i64 0, .slice none 0 0, .slice none 0 0, .slice none 0 0]
  Q0 : σ.b0 = true → σ.s78 = .pointer (some ⟨ka, 0, none⟩)
  Q1 : σ.b1 = true → σ.s79 = .int .i64 u.number
  Q3 : σ.b3 = true → σ.s81 = .pointer (some ⟨ka, 1, none⟩)
  Q4 : σ.b4 = true → σ.s82 = .slice u.a.1 u.words.length u.a.2
  Q6 : σ.b6 = true → σ.s84 = .pointer (some ⟨kc, 1, none⟩)
  Q7 : σ.b7 = true → σ.s85 = .slice v.a.1 v.words.length v.a.2
  CB0 : σ.b2 = true → σ.b5 = false → σ.b25 = false → σ.s80 = .slice σ.AB0 0 σ.cB0 ∧ Own w W 56 1 σ.AB0 (0) σ.cB0 ([])
  C10 : σ.b5 = true → σ.b8 = false → σ.b25 = false → σ.s83 = .slice σ.A10 (u.words.length) σ.c10 ∧ Own w W 56 1 σ.A10 (u.words.length) σ.c10 (u.words.map uv)
  C20 : σ.b8 = true → σ.b25 = false → σ.s86 = .slice σ.A20 (u.words.length + v.words.length) σ.c20 ∧ Own w W 56 1 σ.A20 (u.words.length + v.words.length) σ.c20 (u.words.map uv ++ v.words.map uv)
  Q10 : σ.b10 = true → σ.s88 = .pointer (some ⟨ka, 2, none⟩)
  Q11 : σ.b11 = true → σ.s89 = .slice u.b.1 u.texts.length u.b.2
  Q13 : σ.b13 = true → σ.s91 = .pointer (some ⟨kc, 2, none⟩)
  Q14 : σ.b14 = true → σ.s92 = .slice v.b.1 v.texts.length v.b.2
  CB1 : σ.b9 = true → σ.b12 = false → σ.b25 = false → σ.s87 = .slice σ.AB1 0 σ.cB1 ∧ Own w W 9 1 σ.AB1 (0) σ.cB1 ([])
  C11 : σ.b12 = true → σ.b15 = false → σ.b25 = false → σ.s90 = .slice σ.A11 (u.texts.length) σ.c11 ∧ Own w W 9 1 σ.A11 (u.texts.length) σ.c11 (u.texts.map strV)
  C21 : σ.b15 = true → σ.b25 = false → σ.s93 = .slice σ.A21 (u.texts.length + v.texts.length) σ.c21 ∧ Own w W 9 1 σ.A21 (u.texts.length + v.texts.length) σ.c21 (u.texts.map strV ++ v.texts.map strV)
  Q17 : σ.b17 = true → σ.s95 = .pointer (some ⟨ka, 3, none⟩)
  Q18 : σ.b18 = true → σ.s96 = .slice u.c.1 u.subs.length u.c.2
  Q20 : σ.b20 = true → σ.s98 = .pointer (some ⟨kc, 3, none⟩)
  Q21 : σ.b21 = true → σ.s99 = .slice v.c.1 v.subs.length v.c.2
  CB2 : σ.b16 = true → σ.b19 = false → σ.b25 = false → σ.s94 = .slice σ.AB2 0 σ.cB2 ∧ Own w W 66 2 σ.AB2 (0) σ.cB2 ([])
  C12 : σ.b19 = true → σ.b22 = false → σ.b25 = false → σ.s97 = .slice σ.A12 (u.subs.length) σ.c12 ∧ Own w W 66 2 σ.A12 (u.subs.length) σ.c12 (u.subs.flatMap treeC)
  C22 : σ.b22 = true → σ.b25 = false → σ.s100 = .slice σ.A22 (u.subs.length + v.subs.length) σ.c22 ∧ Own w W 66 2 σ.A22 (u.subs.length + v.subs.length) σ.c22 (u.subs.flatMap treeC ++ v.subs.flatMap treeC)
  U : σ.b23 = true → σ.b25 = false → σ.s101 = .agg #[.int .i64 u.number, .slice σ.A20 (u.words.length + v.words.length) σ.c20, .slice σ.A21 (u.texts.length + v.texts.length) σ.c21, .slice σ.A22 (u.subs.length + v.subs.length) σ.c22]
  F : σ.b25 = true → σ.s19 = .pointer (some ⟨σ.kn, 0, none⟩) ∧ Ext w W ∧ w.heap.size ≤ σ.kn ∧ BlkT W σ.kn 39 #[.int .i64 u.number, .slice σ.A20 (u.words.length + v.words.length) σ.c20, .slice σ.A21 (u.texts.length + v.texts.length) σ.c21, .slice σ.A22 (u.subs.length + v.subs.length) σ.c22] ∧ Own w W 56 1 σ.A20 (u.words.length + v.words.length) σ.c20 (u.words.map uv ++ v.words.map uv) ∧ Own w W 9 1 σ.A21 (u.texts.length + v.texts.length) σ.c21 (u.texts.map strV ++ v.texts.map strV) ∧ Own w W 66 2 σ.A22 (u.subs.length + v.subs.length) σ.c22 (u.subs.flatMap treeC ++ v.subs.flatMap treeC)
  D1 : σ.b1 = true → σ.b0 = true
  D4 : σ.b4 = true → σ.b3 = true
  D5 : σ.b5 = true → σ.b2 = true ∧ σ.b4 = true
  D7 : σ.b7 = true → σ.b6 = true
  D8 : σ.b8 = true → σ.b5 = true ∧ σ.b7 = true
  D11 : σ.b11 = true → σ.b10 = true
  D12 : σ.b12 = true → σ.b9 = true ∧ σ.b11 = true
  D14 : σ.b14 = true → σ.b13 = true
  D15 : σ.b15 = true → σ.b12 = true ∧ σ.b14 = true
  D18 : σ.b18 = true → σ.b17 = true
  D19 : σ.b19 = true → σ.b16 = true ∧ σ.b18 = true
  D21 : σ.b21 = true → σ.b20 = true
  D22 : σ.b22 = true → σ.b19 = true ∧ σ.b21 = true
  D23 : σ.b23 = true → σ.b1 = true ∧ σ.b8 = true ∧ σ.b15 = true ∧ σ.b22 = true
  D25 : σ.b25 = true → σ.b23 = true ∧ σ.b24 = true

set_option maxRecDepth 100000 in
set_option maxHeartbeats 4000000 in
theorem ljreg11 {Q0 : Exit → Act → World → Prop} {u0 u1 u2 u3 u4 u5 u6 u7 u8 u9 u10 u11 u12 u13 u14 u15 u16 u19 u20 u21 u22 u23 u24 u25 u26 u27 u28 u29 u30 u31 u32 u33 u34 u35 u36 u37 u38 u39 u40 u41 u42 u43 u44 u45 u46 u47 u48 u49 u50 u51 u52 u53 u54 u55 u56 u57 u58 u59 u60 u61 u62 u63 u64 u65 u66 u67 u68 u69 u70 u71 u72 u73 u74 u75 u76 u77 u78 u79 u80 u81 u82 u83 u84 u85 u86 u87 u88 u89 u90 u91 u92 u93 u94 u95 u96 u97 u98 u99 u100 u101 u102 u103 u104 u105 u106 u107 u108 u109 u110 : Value} {w : World} {ka : Nat} {kc : Nat} {u : ValR} {v : ValR} (hu : ValAt w u) (hv : ValAt w v) (B0 : BlkT w ka 39 #[.int .i64 u.number, .slice u.a.1 u.words.length u.a.2, .slice u.b.1 u.texts.length u.b.2, .slice u.c.1 u.subs.length u.c.2]) (B1 : BlkT w kc 39 #[.int .i64 v.number, .slice v.a.1 v.words.length v.a.2, .slice v.b.1 v.texts.length v.b.2, .slice v.c.1 v.subs.length v.c.2]) (lu : u.words.length ≤ 1000000000 ∧ u.texts.length ≤ 1000000000 ∧ u.subs.length ≤ 1000000000) (lv : v.words.length ≤ 1000000000 ∧ v.texts.length ≤ 1000000000 ∧ v.subs.length ≤ 1000000000)
    (hK : ∀ (s19 s78 s79 s80 s81 s82 s83 s84 s85 s86 s87 s88 s89 s90 s91 s92 s93 s94 s95 s96 s97 s98 s99 s100 s101 : Value) (kn : Nat) (A20 A21 A22 : Option Addr) (c20 c21 c22 : Nat) (wz : World), s19 = .pointer (some ⟨kn, 0, none⟩) → Ext w wz → w.heap.size ≤ kn → BlkT wz kn 39 #[.int .i64 u.number, .slice A20 (u.words.length + v.words.length) c20, .slice A21 (u.texts.length + v.texts.length) c21, .slice A22 (u.subs.length + v.subs.length) c22] → Own w wz 56 1 A20 (u.words.length + v.words.length) c20 (u.words.map uv ++ v.words.map uv) → Own w wz 9 1 A21 (u.texts.length + v.texts.length) c21 (u.texts.map strV ++ v.texts.map strV) → Own w wz 66 2 A22 (u.subs.length + v.subs.length) c22 (u.subs.flatMap treeC ++ v.subs.flatMap treeC) → Q0 .normal ⟨#[u0, u1, u2, u3, u4, u5, u6, u7, u8, u9, u10, u11, u12, u13, u14, u15, u16, .pointer (some ⟨ka, 0, none⟩), .pointer (some ⟨kc, 0, none⟩), s19, u20, u21, u22, u23, u24, u25, u26, u27, u28, u29, u30, u31, u32, u33, u34, u35, u36, u37, u38, u39, u40, u41, u42, u43, u44, u45, u46, u47, u48, u49, u50, u51, u52, u53, u54, u55, u56, u57, u58, u59, u60, u61, u62, u63, u64, u65, u66, u67, u68, u69, u70, u71, u72, u73, u74, u75, u76, u77, s78, s79, s80, s81, s82, s83, s84, s85, s86, s87, s88, s89, s90, s91, s92, s93, s94, s95, s96, s97, s98, s99, s100, s101, u102, u103, u104, u105, u106, u107, u108, u109, u110], []⟩ wz) :
    Code.wp Try.prog (regLJ 11) (calmQ Q0) ⟨#[u0, u1, u2, u3, u4, u5, u6, u7, u8, u9, u10, u11, u12, u13, u14, u15, u16, .pointer (some ⟨ka, 0, none⟩), .pointer (some ⟨kc, 0, none⟩), u19, u20, u21, u22, u23, u24, u25, u26, u27, u28, u29, u30, u31, u32, u33, u34, u35, u36, u37, u38, u39, u40, u41, u42, u43, u44, u45, u46, u47, u48, u49, u50, u51, u52, u53, u54, u55, u56, u57, u58, u59, u60, u61, u62, u63, u64, u65, u66, u67, u68, u69, u70, u71, u72, u73, u74, u75, u76, u77, u78, u79, u80, u81, u82, u83, u84, u85, u86, u87, u88, u89, u90, u91, u92, u93, u94, u95, u96, u97, u98, u99, u100, u101, u102, u103, u104, u105, u106, u107, u108, u109, u110], []⟩ w := by
  have HK := Lib.hid hK
  clear hK
  conv => arg 2; whnf
  obtain ⟨I, hI⟩ : ∃ I : Array Bool → Act → World → Prop, ∀ l a W, I l a W ↔ (∃ σ : Ljreg11S, l = #[σ.b0, σ.b1, σ.b2, σ.b3, σ.b4, σ.b5, σ.b6, σ.b7, σ.b8, σ.b9, σ.b10, σ.b11, σ.b12, σ.b13, σ.b14, σ.b15, σ.b16, σ.b17, σ.b18, σ.b19, σ.b20, σ.b21, σ.b22, σ.b23, σ.b24, σ.b25] ∧ a = ⟨#[u0, u1, u2, u3, u4, u5, u6, u7, u8, u9, u10, u11, u12, u13, u14, u15, u16, .pointer (some ⟨ka, 0, none⟩), .pointer (some ⟨kc, 0, none⟩), σ.s19, u20, u21, u22, u23, u24, u25, u26, u27, u28, u29, u30, u31, u32, u33, u34, u35, u36, u37, u38, u39, u40, u41, u42, u43, u44, u45, u46, u47, u48, u49, u50, u51, u52, u53, u54, u55, u56, u57, u58, u59, u60, u61, u62, u63, u64, u65, u66, u67, u68, u69, u70, u71, u72, u73, u74, u75, u76, u77, σ.s78, σ.s79, σ.s80, σ.s81, σ.s82, σ.s83, σ.s84, σ.s85, σ.s86, σ.s87, σ.s88, σ.s89, σ.s90, σ.s91, σ.s92, σ.s93, σ.s94, σ.s95, σ.s96, σ.s97, σ.s98, σ.s99, σ.s100, σ.s101, u102, u103, u104, u105, u106, u107, u108, u109, u110], []⟩ ∧ Ljreg11F w ka kc u v σ W) := ⟨_, fun _ _ _ => Iff.rfl⟩
  have HI := Lib.hid hI
  clear hI
  refine wp_region_inv (I := I) (by kernel_rfl) (fun i l a W hi hr => ?_) (fun l a W hi hr => ?_) ?_
  · obtain ⟨σ, rfl, rfl, G⟩ := (HI.out _ _ _).1 hi
    clear hi
    obtain ⟨hlt, hl, hd⟩ := ready_spec hr
    clear hr
    have hlt : i < 26 := hlt
    rcases (show i = 0 ∨ i = 1 ∨ i = 2 ∨ i = 3 ∨ i = 4 ∨ i = 5 ∨ i = 6 ∨ i = 7 ∨ i = 8 ∨ i = 9 ∨ i = 10 ∨ i = 11 ∨ i = 12 ∨ i = 13 ∨ i = 14 ∨ i = 15 ∨ i = 16 ∨ i = 17 ∨ i = 18 ∨ i = 19 ∨ i = 20 ∨ i = 21 ∨ i = 22 ∨ i = 23 ∨ i = 24 ∨ i = 25 by omega) with rfl | rfl | rfl | rfl | rfl | rfl | rfl | rfl | rfl | rfl | rfl | rfl | rfl | rfl | rfl | rfl | rfl | rfl | rfl | rfl | rfl | rfl | rfl | rfl | rfl | rfl
    · have e : σ.b0 = false := hl
      have hd := hd _ rfl
      clear hl hlt
      clear hd
      have eS : σ.b25 = false := by
        rcases hs : σ.b25 with _ | _
        · rfl
        · exact ff e (G.D1 (G.D23 (G.D25 hs).1).1)
      have Xw := G.X eS
      have He := Lib.hid e
      have HeS := Lib.hid eS
      have HX := Lib.hid Xw
      clear e eS Xw
      refine wpOp_run (o := ?o0) ?i0 ?w0 (fun K hK => ?_)
      case i0 => simp only [List.getElem?_toArray, List.getElem?_cons_zero, List.getElem?_cons_succ]; exact rfl
      case w0 => rfl
      have HK2 := Lib.hid hK
      clear hK
      go_simp
      (try simp only [Act.put, List.setIfInBounds_toArray, List.set_cons_zero, List.set_cons_succ])
      have e := He.out
      have eS := HeS.out
      have Xw := HX.out
      refine HK2.out _ _ ((HI.out _ _ _).2 ⟨{ σ with b0 := true, s78 := _ }, rfl, rfl, { G with D1 := (fun h => ff e (G.D1 h)), Q0 := (fun _ => rfl), F := (fun h => ff eS h) }⟩)
    · have e : σ.b1 = false := hl
      have hd := hd _ rfl
      clear hl hlt
      simp [Region.binds] at hd
      have t0 : σ.b0 = true := by simp [hd]
      clear hd
      have eS : σ.b25 = false := by
        rcases hs : σ.b25 with _ | _
        · rfl
        · exact ff e (G.D23 (G.D25 hs).1).1
      have Xw := G.X eS
      have e0 := G.Q0 t0
      have g: W.cell? ⟨ka, 0, none⟩ = some (.int .i64 u.number) := Xw.of_cell (B0.cell 0)
      have He := Lib.hid e
      have HeS := Lib.hid eS
      have HX := Lib.hid Xw
      clear e eS Xw
      refine wpOp_run (o := ?o1) ?i1 ?w1 (fun K hK => ?_)
      case i1 => simp only [List.getElem?_toArray, List.getElem?_cons_zero, List.getElem?_cons_succ]; exact rfl
      case w1 => rfl
      have HK2 := Lib.hid hK
      clear hK
      go_simp
      (try simp only [Act.put, List.setIfInBounds_toArray, List.set_cons_zero, List.set_cons_succ])
      have e := He.out
      have eS := HeS.out
      have Xw := HX.out
      refine HK2.out _ _ ((HI.out _ _ _).2 ⟨{ σ with b1 := true, s79 := _, s78 := _ }, rfl, rfl, { G with D1 := (fun _ => t0), D23 := (fun h => ff e (G.D23 h).1), Q0 := (fun _ => rfl), Q1 := (fun _ => rfl), F := (fun h => ff eS h) }⟩)
    · have e : σ.b2 = false := hl
      have hd := hd _ rfl
      clear hl hlt
      clear hd
      have eS : σ.b25 = false := by
        rcases hs : σ.b25 with _ | _
        · rfl
        · exact ff e (G.D5 (G.D8 (G.D23 (G.D25 hs).1).2.1).1).1
      have Xw := G.X eS
      have He := Lib.hid e
      have HeS := Lib.hid eS
      have HX := Lib.hid Xw
      clear e eS Xw
      refine wpOp_run (o := ?o2) ?i2 ?w2 (fun K hK => ?_)
      case i2 => simp only [List.getElem?_toArray, List.getElem?_cons_zero, List.getElem?_cons_succ]; exact rfl
      case w2 => rfl
      have HK2 := Lib.hid hK
      clear hK
      go_simp
      (try simp only [Act.put, List.setIfInBounds_toArray, List.set_cons_zero, List.set_cons_succ])
      have e := He.out
      have eS := HeS.out
      have Xw := HX.out
      refine HK2.out _ _ ((HI.out _ _ _).2 ⟨{ σ with b2 := true, s80 := _, AB0 := some ⟨W.heap.size, 0, none⟩, cB0 := 0 }, rfl, rfl, { G with NB := (fun h h2 => ⟨(G.NB h h2).1, (G.NB h h2).2.1, (G.NB h h2).2.2.alloc _⟩), D5 := (fun h => ff e (G.D5 h).1), X := (fun _ => Xw.alloc _), CB0 := (fun _ _ _ => ⟨rfl, Own.empty Xw _ _⟩), C10 := (fun h h2 h3 => ⟨(G.C10 h h2 h3).1, (G.C10 h h2 h3).2.alloc _⟩), C20 := (fun h h2 => ⟨(G.C20 h h2).1, (G.C20 h h2).2.alloc _⟩), CB1 := (fun h h2 h3 => ⟨(G.CB1 h h2 h3).1, (G.CB1 h h2 h3).2.alloc _⟩), C11 := (fun h h2 h3 => ⟨(G.C11 h h2 h3).1, (G.C11 h h2 h3).2.alloc _⟩), C21 := (fun h h2 => ⟨(G.C21 h h2).1, (G.C21 h h2).2.alloc _⟩), CB2 := (fun h h2 h3 => ⟨(G.CB2 h h2 h3).1, (G.CB2 h h2 h3).2.alloc _⟩), C12 := (fun h h2 h3 => ⟨(G.C12 h h2 h3).1, (G.C12 h h2 h3).2.alloc _⟩), C22 := (fun h h2 => ⟨(G.C22 h h2).1, (G.C22 h h2).2.alloc _⟩), F := (fun h => ff eS h) }⟩)
    · have e : σ.b3 = false := hl
      have hd := hd _ rfl
      clear hl hlt
      clear hd
      have eS : σ.b25 = false := by
        rcases hs : σ.b25 with _ | _
        · rfl
        · exact ff e (G.D4 (G.D5 (G.D8 (G.D23 (G.D25 hs).1).2.1).1).2)
      have Xw := G.X eS
      have He := Lib.hid e
      have HeS := Lib.hid eS
      have HX := Lib.hid Xw
      clear e eS Xw
      refine wpOp_run (o := ?o3) ?i3 ?w3 (fun K hK => ?_)
      case i3 => simp only [List.getElem?_toArray, List.getElem?_cons_zero, List.getElem?_cons_succ]; exact rfl
      case w3 => rfl
      have HK2 := Lib.hid hK
      clear hK
      go_simp
      (try simp only [Act.put, List.setIfInBounds_toArray, List.set_cons_zero, List.set_cons_succ])
      have e := He.out
      have eS := HeS.out
      have Xw := HX.out
      refine HK2.out _ _ ((HI.out _ _ _).2 ⟨{ σ with b3 := true, s81 := _ }, rfl, rfl, { G with D4 := (fun h => ff e (G.D4 h)), Q3 := (fun _ => rfl), F := (fun h => ff eS h) }⟩)
    · have e : σ.b4 = false := hl
      have hd := hd _ rfl
      clear hl hlt
      simp [Region.binds] at hd
      have t3 : σ.b3 = true := by simp [hd]
      clear hd
      have eS : σ.b25 = false := by
        rcases hs : σ.b25 with _ | _
        · rfl
        · exact ff e (G.D5 (G.D8 (G.D23 (G.D25 hs).1).2.1).1).2
      have Xw := G.X eS
      have e3 := G.Q3 t3
      have g: W.cell? ⟨ka, 1, none⟩ = some (.slice u.a.1 u.words.length u.a.2) := Xw.of_cell (B0.cell 1)
      have He := Lib.hid e
      have HeS := Lib.hid eS
      have HX := Lib.hid Xw
      clear e eS Xw
      refine wpOp_run (o := ?o4) ?i4 ?w4 (fun K hK => ?_)
      case i4 => simp only [List.getElem?_toArray, List.getElem?_cons_zero, List.getElem?_cons_succ]; exact rfl
      case w4 => rfl
      have HK2 := Lib.hid hK
      clear hK
      go_simp
      (try simp only [Act.put, List.setIfInBounds_toArray, List.set_cons_zero, List.set_cons_succ])
      have e := He.out
      have eS := HeS.out
      have Xw := HX.out
      refine HK2.out _ _ ((HI.out _ _ _).2 ⟨{ σ with b4 := true, s82 := _, s81 := _ }, rfl, rfl, { G with D4 := (fun _ => t3), D5 := (fun h => ff e (G.D5 h).2), Q3 := (fun _ => rfl), Q4 := (fun _ => rfl), F := (fun h => ff eS h) }⟩)
    · have e : σ.b5 = false := hl
      have hd := hd _ rfl
      clear hl hlt
      simp [Region.binds] at hd
      have t2 : σ.b2 = true := by simp [hd]
      have t4 : σ.b4 = true := by simp [hd]
      clear hd
      have eS : σ.b25 = false := by
        rcases hs : σ.b25 with _ | _
        · rfl
        · exact ff e (G.D8 (G.D23 (G.D25 hs).1).2.1).1
      have Xw := G.X eS
      have el := G.Q4 t4
      obtain ⟨es, own⟩ := G.CB0 t2 e eS
      refine wpOp_step (o := ?o5) ?i5 (fun K hK => ?_)
      case i5 => simp only [List.getElem?_toArray, List.getElem?_cons_zero, List.getElem?_cons_succ]; exact rfl
      have HK2 := Lib.hid hK
      clear hK
      refine step_moreW elemU (by rfl) (.tmp 80) (.tmp 82) (by rfl) es own el (hu.own.words.ext Xw) (uv_one _) (by omega) (by unfold maxLen; omega) ?_
      intro An cn W2 on gn mn
      (try simp only [Nat.zero_add, List.nil_append] at on)
      (try simp only [Act.put, List.setIfInBounds_toArray, List.set_cons_zero, List.set_cons_succ, Nat.zero_add])
      refine HK2.out _ _ ((HI.out _ _ _).2 ⟨{ σ with b5 := true, A10 := An, c10 := cn, s83 := _ }, rfl, rfl, { G with NB := (fun h h2 => ⟨(G.NB h h2).1, (G.NB h h2).2.1, (G.NB h h2).2.2.beside own (by decide) gn⟩), D5 := (fun _ => ⟨t2, t4⟩), D8 := (fun h => ff e (G.D8 h).1), X := (fun _ => on.ext), CB1 := (fun h h2 h3 => ⟨(G.CB1 h h2 h3).1, (G.CB1 h h2 h3).2.beside own (by decide) (Ext.refl W) gn on.ext⟩), C11 := (fun h h2 h3 => ⟨(G.C11 h h2 h3).1, (G.C11 h h2 h3).2.beside own (by decide) (Ext.refl W) gn on.ext⟩), C21 := (fun h h2 => ⟨(G.C21 h h2).1, (G.C21 h h2).2.beside own (by decide) (Ext.refl W) gn on.ext⟩), CB2 := (fun h h2 h3 => ⟨(G.CB2 h h2 h3).1, (G.CB2 h h2 h3).2.beside own (by decide) (Ext.refl W) gn on.ext⟩), C12 := (fun h h2 h3 => ⟨(G.C12 h h2 h3).1, (G.C12 h h2 h3).2.beside own (by decide) (Ext.refl W) gn on.ext⟩), C22 := (fun h h2 => ⟨(G.C22 h h2).1, (G.C22 h h2).2.beside own (by decide) (Ext.refl W) gn on.ext⟩), CB0 := (fun _ h => by cases h), C10 := (fun _ _ _ => ⟨rfl, on⟩), C20 := (fun h => ff e (G.D8 h).1), F := (fun h => ff eS h) }⟩)
    · have e : σ.b6 = false := hl
      have hd := hd _ rfl
      clear hl hlt
      clear hd
      have eS : σ.b25 = false := by
        rcases hs : σ.b25 with _ | _
        · rfl
        · exact ff e (G.D7 (G.D8 (G.D23 (G.D25 hs).1).2.1).2)
      have Xw := G.X eS
      have He := Lib.hid e
      have HeS := Lib.hid eS
      have HX := Lib.hid Xw
      clear e eS Xw
      refine wpOp_run (o := ?o6) ?i6 ?w6 (fun K hK => ?_)
      case i6 => simp only [List.getElem?_toArray, List.getElem?_cons_zero, List.getElem?_cons_succ]; exact rfl
      case w6 => rfl
      have HK2 := Lib.hid hK
      clear hK
      go_simp
      (try simp only [Act.put, List.setIfInBounds_toArray, List.set_cons_zero, List.set_cons_succ])
      have e := He.out
      have eS := HeS.out
      have Xw := HX.out
      refine HK2.out _ _ ((HI.out _ _ _).2 ⟨{ σ with b6 := true, s84 := _ }, rfl, rfl, { G with D7 := (fun h => ff e (G.D7 h)), Q6 := (fun _ => rfl), F := (fun h => ff eS h) }⟩)
    · have e : σ.b7 = false := hl
      have hd := hd _ rfl
      clear hl hlt
      simp [Region.binds] at hd
      have t6 : σ.b6 = true := by simp [hd]
      clear hd
      have eS : σ.b25 = false := by
        rcases hs : σ.b25 with _ | _
        · rfl
        · exact ff e (G.D8 (G.D23 (G.D25 hs).1).2.1).2
      have Xw := G.X eS
      have e6 := G.Q6 t6
      have g: W.cell? ⟨kc, 1, none⟩ = some (.slice v.a.1 v.words.length v.a.2) := Xw.of_cell (B1.cell 1)
      have He := Lib.hid e
      have HeS := Lib.hid eS
      have HX := Lib.hid Xw
      clear e eS Xw
      refine wpOp_run (o := ?o7) ?i7 ?w7 (fun K hK => ?_)
      case i7 => simp only [List.getElem?_toArray, List.getElem?_cons_zero, List.getElem?_cons_succ]; exact rfl
      case w7 => rfl
      have HK2 := Lib.hid hK
      clear hK
      go_simp
      (try simp only [Act.put, List.setIfInBounds_toArray, List.set_cons_zero, List.set_cons_succ])
      have e := He.out
      have eS := HeS.out
      have Xw := HX.out
      refine HK2.out _ _ ((HI.out _ _ _).2 ⟨{ σ with b7 := true, s85 := _, s84 := _ }, rfl, rfl, { G with D7 := (fun _ => t6), D8 := (fun h => ff e (G.D8 h).2), Q6 := (fun _ => rfl), Q7 := (fun _ => rfl), F := (fun h => ff eS h) }⟩)
    · have e : σ.b8 = false := hl
      have hd := hd _ rfl
      clear hl hlt
      simp [Region.binds] at hd
      have t5 : σ.b5 = true := by simp [hd]
      have t7 : σ.b7 = true := by simp [hd]
      clear hd
      have eS : σ.b25 = false := by
        rcases hs : σ.b25 with _ | _
        · rfl
        · exact ff e (G.D23 (G.D25 hs).1).2.1
      have Xw := G.X eS
      have el := G.Q7 t7
      obtain ⟨es, own⟩ := G.C10 t5 e eS
      refine wpOp_step (o := ?o8) ?i8 (fun K hK => ?_)
      case i8 => simp only [List.getElem?_toArray, List.getElem?_cons_zero, List.getElem?_cons_succ]; exact rfl
      have HK2 := Lib.hid hK
      clear hK
      refine step_moreW elemU (by rfl) (.tmp 83) (.tmp 85) (by rfl) es own el (hv.own.words.ext Xw) (uv_one _) (by omega) (by unfold maxLen; omega) ?_
      intro An cn W2 on gn mn
      (try simp only [Nat.zero_add, List.nil_append] at on)
      (try simp only [Act.put, List.setIfInBounds_toArray, List.set_cons_zero, List.set_cons_succ, Nat.zero_add])
      refine HK2.out _ _ ((HI.out _ _ _).2 ⟨{ σ with b8 := true, A20 := An, c20 := cn, s86 := _ }, rfl, rfl, { G with NB := (fun h h2 => ⟨(G.NB h h2).1, (G.NB h h2).2.1, (G.NB h h2).2.2.beside own (by decide) gn⟩), D8 := (fun _ => ⟨t5, t7⟩), D23 := (fun h => ff e (G.D23 h).2.1), X := (fun _ => on.ext), CB1 := (fun h h2 h3 => ⟨(G.CB1 h h2 h3).1, (G.CB1 h h2 h3).2.beside own (by decide) (Ext.refl W) gn on.ext⟩), C11 := (fun h h2 h3 => ⟨(G.C11 h h2 h3).1, (G.C11 h h2 h3).2.beside own (by decide) (Ext.refl W) gn on.ext⟩), C21 := (fun h h2 => ⟨(G.C21 h h2).1, (G.C21 h h2).2.beside own (by decide) (Ext.refl W) gn on.ext⟩), CB2 := (fun h h2 h3 => ⟨(G.CB2 h h2 h3).1, (G.CB2 h h2 h3).2.beside own (by decide) (Ext.refl W) gn on.ext⟩), C12 := (fun h h2 h3 => ⟨(G.C12 h h2 h3).1, (G.C12 h h2 h3).2.beside own (by decide) (Ext.refl W) gn on.ext⟩), C22 := (fun h h2 => ⟨(G.C22 h h2).1, (G.C22 h h2).2.beside own (by decide) (Ext.refl W) gn on.ext⟩), CB0 := (fun _ h => ff h t5), C10 := (fun _ h => by cases h), C20 := (fun _ _ => ⟨rfl, on⟩), U := (fun h => ff e (G.D23 h).2.1), F := (fun h => ff eS h) }⟩)
    · have e : σ.b9 = false := hl
      have hd := hd _ rfl
      clear hl hlt
      clear hd
      have eS : σ.b25 = false := by
        rcases hs : σ.b25 with _ | _
        · rfl
        · exact ff e (G.D12 (G.D15 (G.D23 (G.D25 hs).1).2.2.1).1).1
      have Xw := G.X eS
      have He := Lib.hid e
      have HeS := Lib.hid eS
      have HX := Lib.hid Xw
      clear e eS Xw
      refine wpOp_run (o := ?o9) ?i9 ?w9 (fun K hK => ?_)
      case i9 => simp only [List.getElem?_toArray, List.getElem?_cons_zero, List.getElem?_cons_succ]; exact rfl
      case w9 => rfl
      have HK2 := Lib.hid hK
      clear hK
      go_simp
      (try simp only [Act.put, List.setIfInBounds_toArray, List.set_cons_zero, List.set_cons_succ])
      have e := He.out
      have eS := HeS.out
      have Xw := HX.out
      refine HK2.out _ _ ((HI.out _ _ _).2 ⟨{ σ with b9 := true, s87 := _, AB1 := some ⟨W.heap.size, 0, none⟩, cB1 := 0 }, rfl, rfl, { G with NB := (fun h h2 => ⟨(G.NB h h2).1, (G.NB h h2).2.1, (G.NB h h2).2.2.alloc _⟩), D12 := (fun h => ff e (G.D12 h).1), X := (fun _ => Xw.alloc _), CB0 := (fun h h2 h3 => ⟨(G.CB0 h h2 h3).1, (G.CB0 h h2 h3).2.alloc _⟩), C10 := (fun h h2 h3 => ⟨(G.C10 h h2 h3).1, (G.C10 h h2 h3).2.alloc _⟩), C20 := (fun h h2 => ⟨(G.C20 h h2).1, (G.C20 h h2).2.alloc _⟩), CB1 := (fun _ _ _ => ⟨rfl, Own.empty Xw _ _⟩), C11 := (fun h h2 h3 => ⟨(G.C11 h h2 h3).1, (G.C11 h h2 h3).2.alloc _⟩), C21 := (fun h h2 => ⟨(G.C21 h h2).1, (G.C21 h h2).2.alloc _⟩), CB2 := (fun h h2 h3 => ⟨(G.CB2 h h2 h3).1, (G.CB2 h h2 h3).2.alloc _⟩), C12 := (fun h h2 h3 => ⟨(G.C12 h h2 h3).1, (G.C12 h h2 h3).2.alloc _⟩), C22 := (fun h h2 => ⟨(G.C22 h h2).1, (G.C22 h h2).2.alloc _⟩), F := (fun h => ff eS h) }⟩)
    · have e : σ.b10 = false := hl
      have hd := hd _ rfl
      clear hl hlt
      clear hd
      have eS : σ.b25 = false := by
        rcases hs : σ.b25 with _ | _
        · rfl
        · exact ff e (G.D11 (G.D12 (G.D15 (G.D23 (G.D25 hs).1).2.2.1).1).2)
      have Xw := G.X eS
      have He := Lib.hid e
      have HeS := Lib.hid eS
      have HX := Lib.hid Xw
      clear e eS Xw
      refine wpOp_run (o := ?o10) ?i10 ?w10 (fun K hK => ?_)
      case i10 => simp only [List.getElem?_toArray, List.getElem?_cons_zero, List.getElem?_cons_succ]; exact rfl
      case w10 => rfl
      have HK2 := Lib.hid hK
      clear hK
      go_simp
      (try simp only [Act.put, List.setIfInBounds_toArray, List.set_cons_zero, List.set_cons_succ])
      have e := He.out
      have eS := HeS.out
      have Xw := HX.out
      refine HK2.out _ _ ((HI.out _ _ _).2 ⟨{ σ with b10 := true, s88 := _ }, rfl, rfl, { G with D11 := (fun h => ff e (G.D11 h)), Q10 := (fun _ => rfl), F := (fun h => ff eS h) }⟩)
    · have e : σ.b11 = false := hl
      have hd := hd _ rfl
      clear hl hlt
      simp [Region.binds] at hd
      have t10 : σ.b10 = true := by simp [hd]
      clear hd
      have eS : σ.b25 = false := by
        rcases hs : σ.b25 with _ | _
        · rfl
        · exact ff e (G.D12 (G.D15 (G.D23 (G.D25 hs).1).2.2.1).1).2
      have Xw := G.X eS
      have e10 := G.Q10 t10
      have g: W.cell? ⟨ka, 2, none⟩ = some (.slice u.b.1 u.texts.length u.b.2) := Xw.of_cell (B0.cell 2)
      have He := Lib.hid e
      have HeS := Lib.hid eS
      have HX := Lib.hid Xw
      clear e eS Xw
      refine wpOp_run (o := ?o11) ?i11 ?w11 (fun K hK => ?_)
      case i11 => simp only [List.getElem?_toArray, List.getElem?_cons_zero, List.getElem?_cons_succ]; exact rfl
      case w11 => rfl
      have HK2 := Lib.hid hK
      clear hK
      go_simp
      (try simp only [Act.put, List.setIfInBounds_toArray, List.set_cons_zero, List.set_cons_succ])
      have e := He.out
      have eS := HeS.out
      have Xw := HX.out
      refine HK2.out _ _ ((HI.out _ _ _).2 ⟨{ σ with b11 := true, s89 := _, s88 := _ }, rfl, rfl, { G with D11 := (fun _ => t10), D12 := (fun h => ff e (G.D12 h).2), Q10 := (fun _ => rfl), Q11 := (fun _ => rfl), F := (fun h => ff eS h) }⟩)
    · have e : σ.b12 = false := hl
      have hd := hd _ rfl
      clear hl hlt
      simp [Region.binds] at hd
      have t9 : σ.b9 = true := by simp [hd]
      have t11 : σ.b11 = true := by simp [hd]
      clear hd
      have eS : σ.b25 = false := by
        rcases hs : σ.b25 with _ | _
        · rfl
        · exact ff e (G.D15 (G.D23 (G.D25 hs).1).2.2.1).1
      have Xw := G.X eS
      have el := G.Q11 t11
      obtain ⟨es, own⟩ := G.CB1 t9 e eS
      refine wpOp_step (o := ?o12) ?i12 (fun K hK => ?_)
      case i12 => simp only [List.getElem?_toArray, List.getElem?_cons_zero, List.getElem?_cons_succ]; exact rfl
      have HK2 := Lib.hid hK
      clear hK
      refine step_moreW elemStr (by rfl) (.tmp 87) (.tmp 89) (by rfl) es own el (hu.own.texts.at_.ext Xw) (strV_one _) (by omega) (by unfold maxLen; omega) ?_
      intro An cn W2 on gn mn
      (try simp only [Nat.zero_add, List.nil_append] at on)
      (try simp only [Act.put, List.setIfInBounds_toArray, List.set_cons_zero, List.set_cons_succ, Nat.zero_add])
      refine HK2.out _ _ ((HI.out _ _ _).2 ⟨{ σ with b12 := true, A11 := An, c11 := cn, s90 := _ }, rfl, rfl, { G with NB := (fun h h2 => ⟨(G.NB h h2).1, (G.NB h h2).2.1, (G.NB h h2).2.2.beside own (by decide) gn⟩), D12 := (fun _ => ⟨t9, t11⟩), D15 := (fun h => ff e (G.D15 h).1), X := (fun _ => on.ext), CB0 := (fun h h2 h3 => ⟨(G.CB0 h h2 h3).1, (G.CB0 h h2 h3).2.beside own (by decide) (Ext.refl W) gn on.ext⟩), C10 := (fun h h2 h3 => ⟨(G.C10 h h2 h3).1, (G.C10 h h2 h3).2.beside own (by decide) (Ext.refl W) gn on.ext⟩), C20 := (fun h h2 => ⟨(G.C20 h h2).1, (G.C20 h h2).2.beside own (by decide) (Ext.refl W) gn on.ext⟩), CB2 := (fun h h2 h3 => ⟨(G.CB2 h h2 h3).1, (G.CB2 h h2 h3).2.beside own (by decide) (Ext.refl W) gn on.ext⟩), C12 := (fun h h2 h3 => ⟨(G.C12 h h2 h3).1, (G.C12 h h2 h3).2.beside own (by decide) (Ext.refl W) gn on.ext⟩), C22 := (fun h h2 => ⟨(G.C22 h h2).1, (G.C22 h h2).2.beside own (by decide) (Ext.refl W) gn on.ext⟩), CB1 := (fun _ h => by cases h), C11 := (fun _ _ _ => ⟨rfl, on⟩), C21 := (fun h => ff e (G.D15 h).1), F := (fun h => ff eS h) }⟩)
    · have e : σ.b13 = false := hl
      have hd := hd _ rfl
      clear hl hlt
      clear hd
      have eS : σ.b25 = false := by
        rcases hs : σ.b25 with _ | _
        · rfl
        · exact ff e (G.D14 (G.D15 (G.D23 (G.D25 hs).1).2.2.1).2)
      have Xw := G.X eS
      have He := Lib.hid e
      have HeS := Lib.hid eS
      have HX := Lib.hid Xw
      clear e eS Xw
      refine wpOp_run (o := ?o13) ?i13 ?w13 (fun K hK => ?_)
      case i13 => simp only [List.getElem?_toArray, List.getElem?_cons_zero, List.getElem?_cons_succ]; exact rfl
      case w13 => rfl
      have HK2 := Lib.hid hK
      clear hK
      go_simp
      (try simp only [Act.put, List.setIfInBounds_toArray, List.set_cons_zero, List.set_cons_succ])
      have e := He.out
      have eS := HeS.out
      have Xw := HX.out
      refine HK2.out _ _ ((HI.out _ _ _).2 ⟨{ σ with b13 := true, s91 := _ }, rfl, rfl, { G with D14 := (fun h => ff e (G.D14 h)), Q13 := (fun _ => rfl), F := (fun h => ff eS h) }⟩)
    · have e : σ.b14 = false := hl
      have hd := hd _ rfl
      clear hl hlt
      simp [Region.binds] at hd
      have t13 : σ.b13 = true := by simp [hd]
      clear hd
      have eS : σ.b25 = false := by
        rcases hs : σ.b25 with _ | _
        · rfl
        · exact ff e (G.D15 (G.D23 (G.D25 hs).1).2.2.1).2
      have Xw := G.X eS
      have e13 := G.Q13 t13
      have g: W.cell? ⟨kc, 2, none⟩ = some (.slice v.b.1 v.texts.length v.b.2) := Xw.of_cell (B1.cell 2)
      have He := Lib.hid e
      have HeS := Lib.hid eS
      have HX := Lib.hid Xw
      clear e eS Xw
      refine wpOp_run (o := ?o14) ?i14 ?w14 (fun K hK => ?_)
      case i14 => simp only [List.getElem?_toArray, List.getElem?_cons_zero, List.getElem?_cons_succ]; exact rfl
      case w14 => rfl
      have HK2 := Lib.hid hK
      clear hK
      go_simp
      (try simp only [Act.put, List.setIfInBounds_toArray, List.set_cons_zero, List.set_cons_succ])
      have e := He.out
      have eS := HeS.out
      have Xw := HX.out
      refine HK2.out _ _ ((HI.out _ _ _).2 ⟨{ σ with b14 := true, s92 := _, s91 := _ }, rfl, rfl, { G with D14 := (fun _ => t13), D15 := (fun h => ff e (G.D15 h).2), Q13 := (fun _ => rfl), Q14 := (fun _ => rfl), F := (fun h => ff eS h) }⟩)
    · have e : σ.b15 = false := hl
      have hd := hd _ rfl
      clear hl hlt
      simp [Region.binds] at hd
      have t12 : σ.b12 = true := by simp [hd]
      have t14 : σ.b14 = true := by simp [hd]
      clear hd
      have eS : σ.b25 = false := by
        rcases hs : σ.b25 with _ | _
        · rfl
        · exact ff e (G.D23 (G.D25 hs).1).2.2.1
      have Xw := G.X eS
      have el := G.Q14 t14
      obtain ⟨es, own⟩ := G.C11 t12 e eS
      refine wpOp_step (o := ?o15) ?i15 (fun K hK => ?_)
      case i15 => simp only [List.getElem?_toArray, List.getElem?_cons_zero, List.getElem?_cons_succ]; exact rfl
      have HK2 := Lib.hid hK
      clear hK
      refine step_moreW elemStr (by rfl) (.tmp 90) (.tmp 92) (by rfl) es own el (hv.own.texts.at_.ext Xw) (strV_one _) (by omega) (by unfold maxLen; omega) ?_
      intro An cn W2 on gn mn
      (try simp only [Nat.zero_add, List.nil_append] at on)
      (try simp only [Act.put, List.setIfInBounds_toArray, List.set_cons_zero, List.set_cons_succ, Nat.zero_add])
      refine HK2.out _ _ ((HI.out _ _ _).2 ⟨{ σ with b15 := true, A21 := An, c21 := cn, s93 := _ }, rfl, rfl, { G with NB := (fun h h2 => ⟨(G.NB h h2).1, (G.NB h h2).2.1, (G.NB h h2).2.2.beside own (by decide) gn⟩), D15 := (fun _ => ⟨t12, t14⟩), D23 := (fun h => ff e (G.D23 h).2.2.1), X := (fun _ => on.ext), CB0 := (fun h h2 h3 => ⟨(G.CB0 h h2 h3).1, (G.CB0 h h2 h3).2.beside own (by decide) (Ext.refl W) gn on.ext⟩), C10 := (fun h h2 h3 => ⟨(G.C10 h h2 h3).1, (G.C10 h h2 h3).2.beside own (by decide) (Ext.refl W) gn on.ext⟩), C20 := (fun h h2 => ⟨(G.C20 h h2).1, (G.C20 h h2).2.beside own (by decide) (Ext.refl W) gn on.ext⟩), CB2 := (fun h h2 h3 => ⟨(G.CB2 h h2 h3).1, (G.CB2 h h2 h3).2.beside own (by decide) (Ext.refl W) gn on.ext⟩), C12 := (fun h h2 h3 => ⟨(G.C12 h h2 h3).1, (G.C12 h h2 h3).2.beside own (by decide) (Ext.refl W) gn on.ext⟩), C22 := (fun h h2 => ⟨(G.C22 h h2).1, (G.C22 h h2).2.beside own (by decide) (Ext.refl W) gn on.ext⟩), CB1 := (fun _ h => ff h t12), C11 := (fun _ h => by cases h), C21 := (fun _ _ => ⟨rfl, on⟩), U := (fun h => ff e (G.D23 h).2.2.1), F := (fun h => ff eS h) }⟩)
    · have e : σ.b16 = false := hl
      have hd := hd _ rfl
      clear hl hlt
      clear hd
      have eS : σ.b25 = false := by
        rcases hs : σ.b25 with _ | _
        · rfl
        · exact ff e (G.D19 (G.D22 (G.D23 (G.D25 hs).1).2.2.2).1).1
      have Xw := G.X eS
      have He := Lib.hid e
      have HeS := Lib.hid eS
      have HX := Lib.hid Xw
      clear e eS Xw
      refine wpOp_run (o := ?o16) ?i16 ?w16 (fun K hK => ?_)
      case i16 => simp only [List.getElem?_toArray, List.getElem?_cons_zero, List.getElem?_cons_succ]; exact rfl
      case w16 => rfl
      have HK2 := Lib.hid hK
      clear hK
      go_simp
      (try simp only [Act.put, List.setIfInBounds_toArray, List.set_cons_zero, List.set_cons_succ])
      have e := He.out
      have eS := HeS.out
      have Xw := HX.out
      refine HK2.out _ _ ((HI.out _ _ _).2 ⟨{ σ with b16 := true, s94 := _, AB2 := some ⟨W.heap.size, 0, none⟩, cB2 := 0 }, rfl, rfl, { G with NB := (fun h h2 => ⟨(G.NB h h2).1, (G.NB h h2).2.1, (G.NB h h2).2.2.alloc _⟩), D19 := (fun h => ff e (G.D19 h).1), X := (fun _ => Xw.alloc _), CB0 := (fun h h2 h3 => ⟨(G.CB0 h h2 h3).1, (G.CB0 h h2 h3).2.alloc _⟩), C10 := (fun h h2 h3 => ⟨(G.C10 h h2 h3).1, (G.C10 h h2 h3).2.alloc _⟩), C20 := (fun h h2 => ⟨(G.C20 h h2).1, (G.C20 h h2).2.alloc _⟩), CB1 := (fun h h2 h3 => ⟨(G.CB1 h h2 h3).1, (G.CB1 h h2 h3).2.alloc _⟩), C11 := (fun h h2 h3 => ⟨(G.C11 h h2 h3).1, (G.C11 h h2 h3).2.alloc _⟩), C21 := (fun h h2 => ⟨(G.C21 h h2).1, (G.C21 h h2).2.alloc _⟩), CB2 := (fun _ _ _ => ⟨rfl, Own.empty Xw _ _⟩), C12 := (fun h h2 h3 => ⟨(G.C12 h h2 h3).1, (G.C12 h h2 h3).2.alloc _⟩), C22 := (fun h h2 => ⟨(G.C22 h h2).1, (G.C22 h h2).2.alloc _⟩), F := (fun h => ff eS h) }⟩)
    · have e : σ.b17 = false := hl
      have hd := hd _ rfl
      clear hl hlt
      clear hd
      have eS : σ.b25 = false := by
        rcases hs : σ.b25 with _ | _
        · rfl
        · exact ff e (G.D18 (G.D19 (G.D22 (G.D23 (G.D25 hs).1).2.2.2).1).2)
      have Xw := G.X eS
      have He := Lib.hid e
      have HeS := Lib.hid eS
      have HX := Lib.hid Xw
      clear e eS Xw
      refine wpOp_run (o := ?o17) ?i17 ?w17 (fun K hK => ?_)
      case i17 => simp only [List.getElem?_toArray, List.getElem?_cons_zero, List.getElem?_cons_succ]; exact rfl
      case w17 => rfl
      have HK2 := Lib.hid hK
      clear hK
      go_simp
      (try simp only [Act.put, List.setIfInBounds_toArray, List.set_cons_zero, List.set_cons_succ])
      have e := He.out
      have eS := HeS.out
      have Xw := HX.out
      refine HK2.out _ _ ((HI.out _ _ _).2 ⟨{ σ with b17 := true, s95 := _ }, rfl, rfl, { G with D18 := (fun h => ff e (G.D18 h)), Q17 := (fun _ => rfl), F := (fun h => ff eS h) }⟩)
    · have e : σ.b18 = false := hl
      have hd := hd _ rfl
      clear hl hlt
      simp [Region.binds] at hd
      have t17 : σ.b17 = true := by simp [hd]
      clear hd
      have eS : σ.b25 = false := by
        rcases hs : σ.b25 with _ | _
        · rfl
        · exact ff e (G.D19 (G.D22 (G.D23 (G.D25 hs).1).2.2.2).1).2
      have Xw := G.X eS
      have e17 := G.Q17 t17
      have g: W.cell? ⟨ka, 3, none⟩ = some (.slice u.c.1 u.subs.length u.c.2) := Xw.of_cell (B0.cell 3)
      have He := Lib.hid e
      have HeS := Lib.hid eS
      have HX := Lib.hid Xw
      clear e eS Xw
      refine wpOp_run (o := ?o18) ?i18 ?w18 (fun K hK => ?_)
      case i18 => simp only [List.getElem?_toArray, List.getElem?_cons_zero, List.getElem?_cons_succ]; exact rfl
      case w18 => rfl
      have HK2 := Lib.hid hK
      clear hK
      go_simp
      (try simp only [Act.put, List.setIfInBounds_toArray, List.set_cons_zero, List.set_cons_succ])
      have e := He.out
      have eS := HeS.out
      have Xw := HX.out
      refine HK2.out _ _ ((HI.out _ _ _).2 ⟨{ σ with b18 := true, s96 := _, s95 := _ }, rfl, rfl, { G with D18 := (fun _ => t17), D19 := (fun h => ff e (G.D19 h).2), Q17 := (fun _ => rfl), Q18 := (fun _ => rfl), F := (fun h => ff eS h) }⟩)
    · have e : σ.b19 = false := hl
      have hd := hd _ rfl
      clear hl hlt
      simp [Region.binds] at hd
      have t16 : σ.b16 = true := by simp [hd]
      have t18 : σ.b18 = true := by simp [hd]
      clear hd
      have eS : σ.b25 = false := by
        rcases hs : σ.b25 with _ | _
        · rfl
        · exact ff e (G.D22 (G.D23 (G.D25 hs).1).2.2.2).1
      have Xw := G.X eS
      have el := G.Q18 t18
      obtain ⟨es, own⟩ := G.CB2 t16 e eS
      refine wpOp_step (o := ?o19) ?i19 (fun K hK => ?_)
      case i19 => simp only [List.getElem?_toArray, List.getElem?_cons_zero, List.getElem?_cons_succ]; exact rfl
      have HK2 := Lib.hid hK
      clear hK
      refine step_moreW elemRM (by rfl) (.tmp 94) (.tmp 96) (by rfl) es own el (hu.own.subs.ext Xw) (treeC_one _) (by omega) (by unfold maxLen; omega) ?_
      intro An cn W2 on gn mn
      (try simp only [Nat.zero_add, List.nil_append] at on)
      (try simp only [Act.put, List.setIfInBounds_toArray, List.set_cons_zero, List.set_cons_succ, Nat.zero_add])
      refine HK2.out _ _ ((HI.out _ _ _).2 ⟨{ σ with b19 := true, A12 := An, c12 := cn, s97 := _ }, rfl, rfl, { G with NB := (fun h h2 => ⟨(G.NB h h2).1, (G.NB h h2).2.1, (G.NB h h2).2.2.beside own (by decide) gn⟩), D19 := (fun _ => ⟨t16, t18⟩), D22 := (fun h => ff e (G.D22 h).1), X := (fun _ => on.ext), CB0 := (fun h h2 h3 => ⟨(G.CB0 h h2 h3).1, (G.CB0 h h2 h3).2.beside own (by decide) (Ext.refl W) gn on.ext⟩), C10 := (fun h h2 h3 => ⟨(G.C10 h h2 h3).1, (G.C10 h h2 h3).2.beside own (by decide) (Ext.refl W) gn on.ext⟩), C20 := (fun h h2 => ⟨(G.C20 h h2).1, (G.C20 h h2).2.beside own (by decide) (Ext.refl W) gn on.ext⟩), CB1 := (fun h h2 h3 => ⟨(G.CB1 h h2 h3).1, (G.CB1 h h2 h3).2.beside own (by decide) (Ext.refl W) gn on.ext⟩), C11 := (fun h h2 h3 => ⟨(G.C11 h h2 h3).1, (G.C11 h h2 h3).2.beside own (by decide) (Ext.refl W) gn on.ext⟩), C21 := (fun h h2 => ⟨(G.C21 h h2).1, (G.C21 h h2).2.beside own (by decide) (Ext.refl W) gn on.ext⟩), CB2 := (fun _ h => by cases h), C12 := (fun _ _ _ => ⟨rfl, on⟩), C22 := (fun h => ff e (G.D22 h).1), F := (fun h => ff eS h) }⟩)
    · have e : σ.b20 = false := hl
      have hd := hd _ rfl
      clear hl hlt
      clear hd
      have eS : σ.b25 = false := by
        rcases hs : σ.b25 with _ | _
        · rfl
        · exact ff e (G.D21 (G.D22 (G.D23 (G.D25 hs).1).2.2.2).2)
      have Xw := G.X eS
      have He := Lib.hid e
      have HeS := Lib.hid eS
      have HX := Lib.hid Xw
      clear e eS Xw
      refine wpOp_run (o := ?o20) ?i20 ?w20 (fun K hK => ?_)
      case i20 => simp only [List.getElem?_toArray, List.getElem?_cons_zero, List.getElem?_cons_succ]; exact rfl
      case w20 => rfl
      have HK2 := Lib.hid hK
      clear hK
      go_simp
      (try simp only [Act.put, List.setIfInBounds_toArray, List.set_cons_zero, List.set_cons_succ])
      have e := He.out
      have eS := HeS.out
      have Xw := HX.out
      refine HK2.out _ _ ((HI.out _ _ _).2 ⟨{ σ with b20 := true, s98 := _ }, rfl, rfl, { G with D21 := (fun h => ff e (G.D21 h)), Q20 := (fun _ => rfl), F := (fun h => ff eS h) }⟩)
    · have e : σ.b21 = false := hl
      have hd := hd _ rfl
      clear hl hlt
      simp [Region.binds] at hd
      have t20 : σ.b20 = true := by simp [hd]
      clear hd
      have eS : σ.b25 = false := by
        rcases hs : σ.b25 with _ | _
        · rfl
        · exact ff e (G.D22 (G.D23 (G.D25 hs).1).2.2.2).2
      have Xw := G.X eS
      have e20 := G.Q20 t20
      have g: W.cell? ⟨kc, 3, none⟩ = some (.slice v.c.1 v.subs.length v.c.2) := Xw.of_cell (B1.cell 3)
      have He := Lib.hid e
      have HeS := Lib.hid eS
      have HX := Lib.hid Xw
      clear e eS Xw
      refine wpOp_run (o := ?o21) ?i21 ?w21 (fun K hK => ?_)
      case i21 => simp only [List.getElem?_toArray, List.getElem?_cons_zero, List.getElem?_cons_succ]; exact rfl
      case w21 => rfl
      have HK2 := Lib.hid hK
      clear hK
      go_simp
      (try simp only [Act.put, List.setIfInBounds_toArray, List.set_cons_zero, List.set_cons_succ])
      have e := He.out
      have eS := HeS.out
      have Xw := HX.out
      refine HK2.out _ _ ((HI.out _ _ _).2 ⟨{ σ with b21 := true, s99 := _, s98 := _ }, rfl, rfl, { G with D21 := (fun _ => t20), D22 := (fun h => ff e (G.D22 h).2), Q20 := (fun _ => rfl), Q21 := (fun _ => rfl), F := (fun h => ff eS h) }⟩)
    · have e : σ.b22 = false := hl
      have hd := hd _ rfl
      clear hl hlt
      simp [Region.binds] at hd
      have t19 : σ.b19 = true := by simp [hd]
      have t21 : σ.b21 = true := by simp [hd]
      clear hd
      have eS : σ.b25 = false := by
        rcases hs : σ.b25 with _ | _
        · rfl
        · exact ff e (G.D23 (G.D25 hs).1).2.2.2
      have Xw := G.X eS
      have el := G.Q21 t21
      obtain ⟨es, own⟩ := G.C12 t19 e eS
      refine wpOp_step (o := ?o22) ?i22 (fun K hK => ?_)
      case i22 => simp only [List.getElem?_toArray, List.getElem?_cons_zero, List.getElem?_cons_succ]; exact rfl
      have HK2 := Lib.hid hK
      clear hK
      refine step_moreW elemRM (by rfl) (.tmp 97) (.tmp 99) (by rfl) es own el (hv.own.subs.ext Xw) (treeC_one _) (by omega) (by unfold maxLen; omega) ?_
      intro An cn W2 on gn mn
      (try simp only [Nat.zero_add, List.nil_append] at on)
      (try simp only [Act.put, List.setIfInBounds_toArray, List.set_cons_zero, List.set_cons_succ, Nat.zero_add])
      refine HK2.out _ _ ((HI.out _ _ _).2 ⟨{ σ with b22 := true, A22 := An, c22 := cn, s100 := _ }, rfl, rfl, { G with NB := (fun h h2 => ⟨(G.NB h h2).1, (G.NB h h2).2.1, (G.NB h h2).2.2.beside own (by decide) gn⟩), D22 := (fun _ => ⟨t19, t21⟩), D23 := (fun h => ff e (G.D23 h).2.2.2), X := (fun _ => on.ext), CB0 := (fun h h2 h3 => ⟨(G.CB0 h h2 h3).1, (G.CB0 h h2 h3).2.beside own (by decide) (Ext.refl W) gn on.ext⟩), C10 := (fun h h2 h3 => ⟨(G.C10 h h2 h3).1, (G.C10 h h2 h3).2.beside own (by decide) (Ext.refl W) gn on.ext⟩), C20 := (fun h h2 => ⟨(G.C20 h h2).1, (G.C20 h h2).2.beside own (by decide) (Ext.refl W) gn on.ext⟩), CB1 := (fun h h2 h3 => ⟨(G.CB1 h h2 h3).1, (G.CB1 h h2 h3).2.beside own (by decide) (Ext.refl W) gn on.ext⟩), C11 := (fun h h2 h3 => ⟨(G.C11 h h2 h3).1, (G.C11 h h2 h3).2.beside own (by decide) (Ext.refl W) gn on.ext⟩), C21 := (fun h h2 => ⟨(G.C21 h h2).1, (G.C21 h h2).2.beside own (by decide) (Ext.refl W) gn on.ext⟩), CB2 := (fun _ h => ff h t19), C12 := (fun _ h => by cases h), C22 := (fun _ _ => ⟨rfl, on⟩), U := (fun h => ff e (G.D23 h).2.2.2), F := (fun h => ff eS h) }⟩)
    · have e : σ.b23 = false := hl
      have hd := hd _ rfl
      clear hl hlt
      simp [Region.binds] at hd
      have t1 : σ.b1 = true := by simp [hd]
      have t8 : σ.b8 = true := by simp [hd]
      have t15 : σ.b15 = true := by simp [hd]
      have t22 : σ.b22 = true := by simp [hd]
      clear hd
      have eS : σ.b25 = false := by
        rcases hs : σ.b25 with _ | _
        · rfl
        · exact ff e (G.D25 hs).1
      have Xw := G.X eS
      have e1 := G.Q1 t1
      obtain ⟨es0, own0⟩ := G.C20 t8 eS
      obtain ⟨es1, own1⟩ := G.C21 t15 eS
      obtain ⟨es2, own2⟩ := G.C22 t22 eS
      have He := Lib.hid e
      have HeS := Lib.hid eS
      have HX := Lib.hid Xw
      clear e eS Xw
      refine wpOp_run (o := ?o23) ?i23 ?w23 (fun K hK => ?_)
      case i23 => simp only [List.getElem?_toArray, List.getElem?_cons_zero, List.getElem?_cons_succ]; exact rfl
      case w23 => rfl
      have HK2 := Lib.hid hK
      clear hK
      go_simp
      (try simp only [Act.put, List.setIfInBounds_toArray, List.set_cons_zero, List.set_cons_succ])
      have e := He.out
      have eS := HeS.out
      have Xw := HX.out
      refine HK2.out _ _ ((HI.out _ _ _).2 ⟨{ σ with b23 := true, s101 := _, s79 := _, s86 := _, s93 := _, s100 := _ }, rfl, rfl, { G with D23 := (fun _ => ⟨t1, t8, t15, t22⟩), D25 := (fun h => ff e (G.D25 h).1), Q1 := (fun _ => rfl), C20 := (fun _ _ => ⟨rfl, own0⟩), C21 := (fun _ _ => ⟨rfl, own1⟩), C22 := (fun _ _ => ⟨rfl, own2⟩), U := (fun _ _ => rfl), F := (fun h => ff eS h) }⟩)
    · have e : σ.b24 = false := hl
      have hd := hd _ rfl
      clear hl hlt
      clear hd
      have eS : σ.b25 = false := by
        rcases hs : σ.b25 with _ | _
        · rfl
        · exact ff e (G.D25 hs).2
      have Xw := G.X eS
      have He := Lib.hid e
      have HeS := Lib.hid eS
      have HX := Lib.hid Xw
      clear e eS Xw
      refine wpOp_run (o := ?o24) ?i24 ?w24 (fun K hK => ?_)
      case i24 => simp only [List.getElem?_toArray, List.getElem?_cons_zero, List.getElem?_cons_succ]; exact rfl
      case w24 => rfl
      have HK2 := Lib.hid hK
      clear hK
      go_simp
      (try simp only [Act.put, List.setIfInBounds_toArray, List.set_cons_zero, List.set_cons_succ])
      have e := He.out
      have eS := HeS.out
      have Xw := HX.out
      refine HK2.out _ _ ((HI.out _ _ _).2 ⟨{ σ with b24 := true, s19 := _, kn := W.heap.size }, rfl, rfl, { G with D25 := (fun h => ff e (G.D25 h).2), X := (fun _ => Xw.alloc _), CB0 := (fun h h2 h3 => ⟨(G.CB0 h h2 h3).1, (G.CB0 h h2 h3).2.alloc _⟩), C10 := (fun h h2 h3 => ⟨(G.C10 h h2 h3).1, (G.C10 h h2 h3).2.alloc _⟩), C20 := (fun h h2 => ⟨(G.C20 h h2).1, (G.C20 h h2).2.alloc _⟩), CB1 := (fun h h2 h3 => ⟨(G.CB1 h h2 h3).1, (G.CB1 h h2 h3).2.alloc _⟩), C11 := (fun h h2 h3 => ⟨(G.C11 h h2 h3).1, (G.C11 h h2 h3).2.alloc _⟩), C21 := (fun h h2 => ⟨(G.C21 h h2).1, (G.C21 h h2).2.alloc _⟩), CB2 := (fun h h2 h3 => ⟨(G.CB2 h h2 h3).1, (G.CB2 h h2 h3).2.alloc _⟩), C12 := (fun h h2 h3 => ⟨(G.C12 h h2 h3).1, (G.C12 h h2 h3).2.alloc _⟩), C22 := (fun h h2 => ⟨(G.C22 h h2).1, (G.C22 h h2).2.alloc _⟩), NB := (fun _ _ => ⟨rfl, Xw.size, BlkT.new W _ _ rfl⟩), F := (fun h => ff eS h) }⟩)
    · have e : σ.b25 = false := hl
      have hd := hd _ rfl
      clear hl hlt
      simp [Region.binds] at hd
      have t23 : σ.b23 = true := by simp [hd]
      have t24 : σ.b24 = true := by simp [hd]
      clear hd
      have eS : σ.b25 = false := e
      have Xw := G.X eS
      have eu := G.U t23 eS
      obtain ⟨ep, lk, B⟩ := G.NB t24 eS
      obtain ⟨es0, own0⟩ := G.C20 (G.D23 t23).2.1 eS
      have HO0 := Lib.hid own0
      clear own0 es0
      obtain ⟨es1, own1⟩ := G.C21 (G.D23 t23).2.2.1 eS
      have HO1 := Lib.hid own1
      clear own1 es1
      obtain ⟨es2, own2⟩ := G.C22 (G.D23 t23).2.2.2 eS
      have HO2 := Lib.hid own2
      clear own2 es2
      have g0 : W.cell? ⟨σ.kn, 0, none⟩ = some (.int .i64 0) := B.cell 0
      have f0 := B.free 0
      have g1 : W.cell? ⟨σ.kn, 1, none⟩ = some (.slice none 0 0) := B.cell 1
      have f1 := B.free 1
      have g2 : W.cell? ⟨σ.kn, 2, none⟩ = some (.slice none 0 0) := B.cell 2
      have f2 := B.free 2
      have g3 : W.cell? ⟨σ.kn, 3, none⟩ = some (.slice none 0 0) := B.cell 3
      have f3 := B.free 3
      have lb := B.lt
      have HB := Lib.hid B
      clear B
      have He := Lib.hid e
      have HeS := Lib.hid eS
      have HX := Lib.hid Xw
      clear e eS Xw
      refine wpOp_run (o := ?o25) ?i25 ?w25 (fun K hK => ?_)
      case i25 => simp only [List.getElem?_toArray, List.getElem?_cons_zero, List.getElem?_cons_succ]; exact rfl
      case w25 => rfl
      have HK2 := Lib.hid hK
      clear hK
      go_simp
      (try simp only [Act.put, List.setIfInBounds_toArray, List.set_cons_zero, List.set_cons_succ])
      have e := He.out
      have eS := HeS.out
      have Xw := HX.out
      refine HK2.out _ _ ((HI.out _ _ _).2 ⟨{ σ with b25 := true, s101 := _, s19 := _ }, rfl, rfl, { G with D25 := (fun _ => ⟨t23, t24⟩), U := (fun _ h => by cases h), NB := (fun _ h => by cases h), CB0 := (fun _ _ h => by cases h), C10 := (fun _ _ h => by cases h), C20 := (fun _ h => by cases h), CB1 := (fun _ _ h => by cases h), C11 := (fun _ _ h => by cases h), C21 := (fun _ h => by cases h), CB2 := (fun _ _ h => by cases h), C12 := (fun _ _ h => by cases h), C22 := (fun _ h => by cases h), X := (fun h => by cases h), F := (fun _ => ⟨rfl, ((((HX.out.setCell (p := ⟨σ.kn, 0, none⟩) lk (.int .i64 u.number)).setCell (p := ⟨σ.kn, 1, none⟩) lk (.slice σ.A20 (u.words.length + v.words.length) σ.c20)).setCell (p := ⟨σ.kn, 2, none⟩) lk (.slice σ.A21 (u.texts.length + v.texts.length) σ.c21)).setCell (p := ⟨σ.kn, 3, none⟩) lk (.slice σ.A22 (u.subs.length + v.subs.length) σ.c22)), lk, ((((HB.out.set_ 0 (.int .i64 u.number)).set_ 1 (.slice σ.A20 (u.words.length + v.words.length) σ.c20)).set_ 2 (.slice σ.A21 (u.texts.length + v.texts.length) σ.c21)).set_ 3 (.slice σ.A22 (u.subs.length + v.subs.length) σ.c22)), ((((HO0.out.far HB.out (by decide) lk 0 (.int .i64 u.number)).far (HB.out.set_ 0 (.int .i64 u.number)) (by decide) lk 1 (.slice σ.A20 (u.words.length + v.words.length) σ.c20)).far ((HB.out.set_ 0 (.int .i64 u.number)).set_ 1 (.slice σ.A20 (u.words.length + v.words.length) σ.c20)) (by decide) lk 2 (.slice σ.A21 (u.texts.length + v.texts.length) σ.c21)).far (((HB.out.set_ 0 (.int .i64 u.number)).set_ 1 (.slice σ.A20 (u.words.length + v.words.length) σ.c20)).set_ 2 (.slice σ.A21 (u.texts.length + v.texts.length) σ.c21)) (by decide) lk 3 (.slice σ.A22 (u.subs.length + v.subs.length) σ.c22)), ((((HO1.out.far HB.out (by decide) lk 0 (.int .i64 u.number)).far (HB.out.set_ 0 (.int .i64 u.number)) (by decide) lk 1 (.slice σ.A20 (u.words.length + v.words.length) σ.c20)).far ((HB.out.set_ 0 (.int .i64 u.number)).set_ 1 (.slice σ.A20 (u.words.length + v.words.length) σ.c20)) (by decide) lk 2 (.slice σ.A21 (u.texts.length + v.texts.length) σ.c21)).far (((HB.out.set_ 0 (.int .i64 u.number)).set_ 1 (.slice σ.A20 (u.words.length + v.words.length) σ.c20)).set_ 2 (.slice σ.A21 (u.texts.length + v.texts.length) σ.c21)) (by decide) lk 3 (.slice σ.A22 (u.subs.length + v.subs.length) σ.c22)), ((((HO2.out.far HB.out (by decide) lk 0 (.int .i64 u.number)).far (HB.out.set_ 0 (.int .i64 u.number)) (by decide) lk 1 (.slice σ.A20 (u.words.length + v.words.length) σ.c20)).far ((HB.out.set_ 0 (.int .i64 u.number)).set_ 1 (.slice σ.A20 (u.words.length + v.words.length) σ.c20)) (by decide) lk 2 (.slice σ.A21 (u.texts.length + v.texts.length) σ.c21)).far (((HB.out.set_ 0 (.int .i64 u.number)).set_ 1 (.slice σ.A20 (u.words.length + v.words.length) σ.c20)).set_ 2 (.slice σ.A21 (u.texts.length + v.texts.length) σ.c21)) (by decide) lk 3 (.slice σ.A22 (u.subs.length + v.subs.length) σ.c22))⟩) }⟩)
  · obtain ⟨σ, rfl, rfl, hF⟩ := (HI.out _ _ _).1 hi
    clear hi
    have t0 : σ.b0 = true := ready_none hr (i := 0) rfl (by simp [Region.binds]) (show 0 < 26 by decide)
    have t1 : σ.b1 = true := ready_none hr (i := 1) rfl (by simp [Region.binds, t0]) (show 1 < 26 by decide)
    have t2 : σ.b2 = true := ready_none hr (i := 2) rfl (by simp [Region.binds, t0, t1]) (show 2 < 26 by decide)
    have t3 : σ.b3 = true := ready_none hr (i := 3) rfl (by simp [Region.binds, t0, t1, t2]) (show 3 < 26 by decide)
    have t4 : σ.b4 = true := ready_none hr (i := 4) rfl (by simp [Region.binds, t0, t1, t2, t3]) (show 4 < 26 by decide)
    have t5 : σ.b5 = true := ready_none hr (i := 5) rfl (by simp [Region.binds, t0, t1, t2, t3, t4]) (show 5 < 26 by decide)
    have t6 : σ.b6 = true := ready_none hr (i := 6) rfl (by simp [Region.binds, t0, t1, t2, t3, t4, t5]) (show 6 < 26 by decide)
    have t7 : σ.b7 = true := ready_none hr (i := 7) rfl (by simp [Region.binds, t0, t1, t2, t3, t4, t5, t6]) (show 7 < 26 by decide)
    have t8 : σ.b8 = true := ready_none hr (i := 8) rfl (by simp [Region.binds, t0, t1, t2, t3, t4, t5, t6, t7]) (show 8 < 26 by decide)
    have t9 : σ.b9 = true := ready_none hr (i := 9) rfl (by simp [Region.binds, t0, t1, t2, t3, t4, t5, t6, t7, t8]) (show 9 < 26 by decide)
    have t10 : σ.b10 = true := ready_none hr (i := 10) rfl (by simp [Region.binds, t0, t1, t2, t3, t4, t5, t6, t7, t8, t9]) (show 10 < 26 by decide)
    have t11 : σ.b11 = true := ready_none hr (i := 11) rfl (by simp [Region.binds, t0, t1, t2, t3, t4, t5, t6, t7, t8, t9, t10]) (show 11 < 26 by decide)
    have t12 : σ.b12 = true := ready_none hr (i := 12) rfl (by simp [Region.binds, t0, t1, t2, t3, t4, t5, t6, t7, t8, t9, t10, t11]) (show 12 < 26 by decide)
    have t13 : σ.b13 = true := ready_none hr (i := 13) rfl (by simp [Region.binds, t0, t1, t2, t3, t4, t5, t6, t7, t8, t9, t10, t11, t12]) (show 13 < 26 by decide)
    have t14 : σ.b14 = true := ready_none hr (i := 14) rfl (by simp [Region.binds, t0, t1, t2, t3, t4, t5, t6, t7, t8, t9, t10, t11, t12, t13]) (show 14 < 26 by decide)
    have t15 : σ.b15 = true := ready_none hr (i := 15) rfl (by simp [Region.binds, t0, t1, t2, t3, t4, t5, t6, t7, t8, t9, t10, t11, t12, t13, t14]) (show 15 < 26 by decide)
    have t16 : σ.b16 = true := ready_none hr (i := 16) rfl (by simp [Region.binds, t0, t1, t2, t3, t4, t5, t6, t7, t8, t9, t10, t11, t12, t13, t14, t15]) (show 16 < 26 by decide)
    have t17 : σ.b17 = true := ready_none hr (i := 17) rfl (by simp [Region.binds, t0, t1, t2, t3, t4, t5, t6, t7, t8, t9, t10, t11, t12, t13, t14, t15, t16]) (show 17 < 26 by decide)
    have t18 : σ.b18 = true := ready_none hr (i := 18) rfl (by simp [Region.binds, t0, t1, t2, t3, t4, t5, t6, t7, t8, t9, t10, t11, t12, t13, t14, t15, t16, t17]) (show 18 < 26 by decide)
    have t19 : σ.b19 = true := ready_none hr (i := 19) rfl (by simp [Region.binds, t0, t1, t2, t3, t4, t5, t6, t7, t8, t9, t10, t11, t12, t13, t14, t15, t16, t17, t18]) (show 19 < 26 by decide)
    have t20 : σ.b20 = true := ready_none hr (i := 20) rfl (by simp [Region.binds, t0, t1, t2, t3, t4, t5, t6, t7, t8, t9, t10, t11, t12, t13, t14, t15, t16, t17, t18, t19]) (show 20 < 26 by decide)
    have t21 : σ.b21 = true := ready_none hr (i := 21) rfl (by simp [Region.binds, t0, t1, t2, t3, t4, t5, t6, t7, t8, t9, t10, t11, t12, t13, t14, t15, t16, t17, t18, t19, t20]) (show 21 < 26 by decide)
    have t22 : σ.b22 = true := ready_none hr (i := 22) rfl (by simp [Region.binds, t0, t1, t2, t3, t4, t5, t6, t7, t8, t9, t10, t11, t12, t13, t14, t15, t16, t17, t18, t19, t20, t21]) (show 22 < 26 by decide)
    have t23 : σ.b23 = true := ready_none hr (i := 23) rfl (by simp [Region.binds, t0, t1, t2, t3, t4, t5, t6, t7, t8, t9, t10, t11, t12, t13, t14, t15, t16, t17, t18, t19, t20, t21, t22]) (show 23 < 26 by decide)
    have t24 : σ.b24 = true := ready_none hr (i := 24) rfl (by simp [Region.binds, t0, t1, t2, t3, t4, t5, t6, t7, t8, t9, t10, t11, t12, t13, t14, t15, t16, t17, t18, t19, t20, t21, t22, t23]) (show 24 < 26 by decide)
    have t25 : σ.b25 = true := ready_none hr (i := 25) rfl (by simp [Region.binds, t0, t1, t2, t3, t4, t5, t6, t7, t8, t9, t10, t11, t12, t13, t14, t15, t16, t17, t18, t19, t20, t21, t22, t23, t24]) (show 25 < 26 by decide)
    obtain ⟨es, x0, lk, bl, o0, o1, o2⟩ := hF.F t25
    exact HK.out _ _ _ _ _ _ _ _ _ _ _ _ _ _ _ _ _ _ _ _ _ _ _ _ _ _ _ _ _ _ _ _ W es x0 lk bl o0 o1 o2
  · refine (HI.out _ _ _).2 ⟨⟨false, false, false, false, false, false, false, false, false, false, false, false, false, false, false, false, false, false, false, false, false, false, false, false, false, false, _, _, _, _, _, _, _, _, _, _, _, _, _, _, _, _, _, _, _, _, _, _, _, _, _, none, none, none, none, none, none, none, none, none, 0, 0, 0, 0, 0, 0, 0, 0, 0, 0⟩, rfl, rfl, ?_⟩
    constructor
    all_goals dsimp only
    all_goals first | exact fun _ => (Ext.refl w).drew | (intro h; cases h; done)

end Go.Proofs.Ytnnphodgegcddaa

/- A drawn region of the law LoadJoins that holds a call, as a law of its own. (Printed by gen_inv5.py.) -/



namespace Go.Proofs.Ytnnphodgegcddaa
open Go.RowKit Go.Shelf
set_option linter.unusedVariables false
set_option linter.unusedSimpArgs false

structure Ljreg9S where
  (b0 b1 b2 b3 b4 b5 b6 b7 b8 b9 b10 b11 b12 b13 b14 : Bool)
  (s15 s16 s62 s63 s64 s65 s66 s67 s68 s69 s70 s71 s72 s73 : Value)
  (AB A1 A2 : Option Addr)
  (cB cq cr kn : Nat)
  (y : ValR)

structure Ljreg9F (w : World) (A : Option Addr) (n : Nat) (c : Nat) (f : FieldD) (B : Option Addr) (n1 : Nat) (c1 : Nat) (D : Option Addr) (n2 : Nat) (c2 : Nat) (d : Int) (xs : List UInt8) (ys : List UInt8) (P0 : ValR → Prop) (σ : Ljreg9S) (W : World) : Prop where
  X : Ext w W
  Q0 : σ.b0 = true → σ.s63 = .slice A n c
  Q1 : σ.b1 = true → σ.s64 = .agg #[.string f.name, .int .i64 f.number, .int .i64 f.kind, .bool true, .bool f.packed, .int .i64 f.of_]
  Q3 : σ.b3 = true → σ.s66 = .slice B n1 c1
  Q5 : σ.b5 = true → σ.s68 = .slice D n2 c2
  Q7 : σ.b7 = true → σ.s70 = .int .i64 d
  CB : σ.b2 = true → σ.b4 = false → σ.s65 = .slice σ.AB 0 σ.cB ∧ Own w W 5 1 σ.AB (0) σ.cB ([])
  C1 : σ.b4 = true → σ.b6 = false → σ.s67 = .slice σ.A1 (n1) σ.cq ∧ Own w W 5 1 σ.A1 (n1) σ.cq (xs.map bv)
  C2 : σ.b6 = true → σ.b8 = false → σ.s69 = .slice σ.A2 (n1 + n2) σ.cr ∧ Own w W 5 1 σ.A2 (n1 + n2) σ.cr (xs.map bv ++ ys.map bv)
  P8 : σ.b8 = true → σ.s71 = .tuple #[.agg #[.int .i64 σ.y.number, .slice σ.y.a.1 σ.y.words.length σ.y.a.2, .slice σ.y.b.1 σ.y.texts.length σ.y.b.2, .slice σ.y.c.1 σ.y.subs.length σ.y.c.2], .int .u8 0]
  PV : σ.b8 = true → P0 σ.y ∧ ValAt W σ.y ∧ ∀ b, UsesV σ.y b → w.heap.size ≤ b
  P9 : σ.b9 = true → σ.s62 = .tuple #[.agg #[.int .i64 σ.y.number, .slice σ.y.a.1 σ.y.words.length σ.y.a.2, .slice σ.y.b.1 σ.y.texts.length σ.y.b.2, .slice σ.y.c.1 σ.y.subs.length σ.y.c.2], .int .u8 0]
  P10 : σ.b10 = true → σ.s72 = .agg #[.int .i64 σ.y.number, .slice σ.y.a.1 σ.y.words.length σ.y.a.2, .slice σ.y.b.1 σ.y.texts.length σ.y.b.2, .slice σ.y.c.1 σ.y.subs.length σ.y.c.2]
  P11 : σ.b11 = true → σ.s73 = .int .u8 0
  P14 : σ.b14 = true → σ.s16 = .int .u8 0
  N : σ.b12 = true → σ.s15 = .pointer (some ⟨σ.kn, 0, none⟩) ∧ w.heap.size ≤ σ.kn
  N0 : σ.b12 = true → σ.b13 = false → BlkT W σ.kn 33 #[.int .i64 0, .slice none 0 0, .slice none 0 0, .slice none 0 0]
  N1 : σ.b13 = true → BlkT W σ.kn 33 #[.int .i64 σ.y.number, .slice σ.y.a.1 σ.y.words.length σ.y.a.2, .slice σ.y.b.1 σ.y.texts.length σ.y.b.2, .slice σ.y.c.1 σ.y.subs.length σ.y.c.2]
  U : σ.b8 = true → σ.b12 = true → ∀ b, UsesV σ.y b → b ≠ σ.kn
  D4 : σ.b4 = true → σ.b2 = true ∧ σ.b3 = true
  D6 : σ.b6 = true → σ.b4 = true ∧ σ.b5 = true
  D8 : σ.b8 = true → σ.b0 = true ∧ σ.b1 = true ∧ σ.b6 = true ∧ σ.b7 = true
  D9 : σ.b9 = true → σ.b8 = true
  D10 : σ.b10 = true → σ.b9 = true
  D11 : σ.b11 = true → σ.b9 = true
  D13 : σ.b13 = true → σ.b12 = true ∧ σ.b10 = true ∧ σ.b8 = true
  D14 : σ.b14 = true → σ.b11 = true ∧ σ.b13 = true

set_option maxRecDepth 100000 in
set_option maxHeartbeats 4000000 in
theorem ljreg9 {Q0 : Exit → Act → World → Prop} {u1 u5 u7 u8 u9 u10 u11 u12 u13 u14 u15 u16 u17 u18 u19 u20 u21 u22 u23 u24 u25 u26 u27 u28 u29 u30 u31 u32 u33 u34 u35 u36 u37 u38 u39 u40 u41 u42 u43 u44 u45 u46 u47 u48 u49 u50 u51 u52 u53 u54 u55 u56 u57 u58 u59 u60 u61 u62 u63 u64 u65 u66 u67 u68 u69 u70 u71 u72 u73 u74 u75 u76 u77 u78 u79 u80 u81 u82 u83 u84 u85 u86 u87 u88 u89 u90 u91 u92 u93 u94 u95 u96 u97 u98 u99 u100 u101 u102 u103 u104 u105 u106 u107 u108 u109 u110 : Value} {kf : Nat} {w : World} {A : Option Addr} {n : Nat} {c : Nat} {f : FieldD} {B : Option Addr} {n1 : Nat} {c1 : Nat} {D : Option Addr} {n2 : Nat} {c2 : Nat} {d : Int} {xs : List UInt8} {ys : List UInt8} {P0 : ValR → Prop} (z0 : w.cell? ⟨kf, 0, none⟩ = some (.string f.name)) (z1 : w.cell? ⟨kf, 1, none⟩ = some (.int .i64 f.number)) (z2 : w.cell? ⟨kf, 2, none⟩ = some (.int .i64 f.kind)) (z3 : w.cell? ⟨kf, 3, none⟩ = some (.bool true)) (z4 : w.cell? ⟨kf, 4, none⟩ = some (.bool f.packed)) (z5 : w.cell? ⟨kf, 5, none⟩ = some (.int .i64 f.of_)) (ha : BytesAt w B n1 c1 xs) (hbs : BytesAt w D n2 c2 ys) (hl : n1 + n2 ≤ 1000) (Hc : Hid (∀ W A3 c3, Ext w W → BytesAt W A3 (n1 + n2) c3 (xs ++ ys) → Calls Try.prog 6 #[.slice A n c, .agg #[.string f.name, .int .i64 f.number, .int .i64 f.kind, .bool true, .bool f.packed, .int .i64 f.of_], .slice A3 (n1 + n2) c3, .int .i64 d] W fun e W' => ∃ y, e = .returned (.tuple #[.agg #[.int .i64 y.number, .slice y.a.1 y.words.length y.a.2, .slice y.b.1 y.texts.length y.b.2, .slice y.c.1 y.subs.length y.c.2], .int .u8 0]) ∧ P0 y ∧ ValAt W' y ∧ (∀ b, UsesV y b → W.heap.size ≤ b) ∧ Ext W W'))
    (hK : ∀ (s62 s63 s64 s65 s66 s67 s68 s69 s70 s71 s72 s73 : Value) (kn : Nat) (y : ValR) (wz : World), Ext w wz → w.heap.size ≤ kn → P0 y → ValAt wz y → BlkT wz kn 33 #[.int .i64 y.number, .slice y.a.1 y.words.length y.a.2, .slice y.b.1 y.texts.length y.b.2, .slice y.c.1 y.subs.length y.c.2] → Q0 .normal ⟨#[.slice A n c, u1, .slice B n1 c1, .slice D n2 c2, .int .i64 d, u5, .pointer (some ⟨kf, 0, none⟩), u7, u8, u9, u10, u11, u12, u13, u14, .pointer (some ⟨kn, 0, none⟩), .int .u8 0, u17, u18, u19, u20, u21, u22, u23, u24, u25, u26, u27, u28, u29, u30, u31, u32, u33, u34, u35, u36, u37, u38, u39, u40, u41, u42, u43, u44, u45, u46, u47, u48, u49, u50, u51, u52, u53, u54, u55, u56, u57, u58, u59, u60, u61, s62, s63, s64, s65, s66, s67, s68, s69, s70, s71, s72, s73, u74, u75, u76, u77, u78, u79, u80, u81, u82, u83, u84, u85, u86, u87, u88, u89, u90, u91, u92, u93, u94, u95, u96, u97, u98, u99, u100, u101, u102, u103, u104, u105, u106, u107, u108, u109, u110], []⟩ wz) :
    Code.wp Try.prog (regLJ 9) (calmQ Q0) ⟨#[.slice A n c, u1, .slice B n1 c1, .slice D n2 c2, .int .i64 d, u5, .pointer (some ⟨kf, 0, none⟩), u7, u8, u9, u10, u11, u12, u13, u14, u15, u16, u17, u18, u19, u20, u21, u22, u23, u24, u25, u26, u27, u28, u29, u30, u31, u32, u33, u34, u35, u36, u37, u38, u39, u40, u41, u42, u43, u44, u45, u46, u47, u48, u49, u50, u51, u52, u53, u54, u55, u56, u57, u58, u59, u60, u61, u62, u63, u64, u65, u66, u67, u68, u69, u70, u71, u72, u73, u74, u75, u76, u77, u78, u79, u80, u81, u82, u83, u84, u85, u86, u87, u88, u89, u90, u91, u92, u93, u94, u95, u96, u97, u98, u99, u100, u101, u102, u103, u104, u105, u106, u107, u108, u109, u110], []⟩ w := by
  have HK := Lib.hid hK
  clear hK
  conv => arg 2; whnf
  obtain ⟨I, hI⟩ : ∃ I : Array Bool → Act → World → Prop, ∀ l a W, I l a W ↔ (∃ σ : Ljreg9S, l = #[σ.b0, σ.b1, σ.b2, σ.b3, σ.b4, σ.b5, σ.b6, σ.b7, σ.b8, σ.b9, σ.b10, σ.b11, σ.b12, σ.b13, σ.b14] ∧ a = ⟨#[.slice A n c, u1, .slice B n1 c1, .slice D n2 c2, .int .i64 d, u5, .pointer (some ⟨kf, 0, none⟩), u7, u8, u9, u10, u11, u12, u13, u14, σ.s15, σ.s16, u17, u18, u19, u20, u21, u22, u23, u24, u25, u26, u27, u28, u29, u30, u31, u32, u33, u34, u35, u36, u37, u38, u39, u40, u41, u42, u43, u44, u45, u46, u47, u48, u49, u50, u51, u52, u53, u54, u55, u56, u57, u58, u59, u60, u61, σ.s62, σ.s63, σ.s64, σ.s65, σ.s66, σ.s67, σ.s68, σ.s69, σ.s70, σ.s71, σ.s72, σ.s73, u74, u75, u76, u77, u78, u79, u80, u81, u82, u83, u84, u85, u86, u87, u88, u89, u90, u91, u92, u93, u94, u95, u96, u97, u98, u99, u100, u101, u102, u103, u104, u105, u106, u107, u108, u109, u110], []⟩ ∧ Ljreg9F w A n c f B n1 c1 D n2 c2 d xs ys P0 σ W) := ⟨_, fun _ _ _ => Iff.rfl⟩
  have HI := Lib.hid hI
  clear hI
  refine wp_region_inv (I := I) (by kernel_rfl) (fun i l a W hi hr => ?_) (fun l a W hi hr => ?_) ?_
  · obtain ⟨σ, rfl, rfl, G⟩ := (HI.out _ _ _).1 hi
    clear hi
    obtain ⟨hlt, hl, hd⟩ := ready_spec hr
    clear hr
    have hlt : i < 15 := hlt
    rcases (show i = 0 ∨ i = 1 ∨ i = 2 ∨ i = 3 ∨ i = 4 ∨ i = 5 ∨ i = 6 ∨ i = 7 ∨ i = 8 ∨ i = 9 ∨ i = 10 ∨ i = 11 ∨ i = 12 ∨ i = 13 ∨ i = 14 by omega) with rfl | rfl | rfl | rfl | rfl | rfl | rfl | rfl | rfl | rfl | rfl | rfl | rfl | rfl | rfl
    · have e : σ.b0 = false := hl
      have hd := hd _ rfl
      clear hl hlt
      clear hd
      have Xw := G.X
      have He := Lib.hid e
      have HX := Lib.hid Xw
      clear e Xw
      refine wpOp_run (o := ?o0) ?i0 ?w0 (fun K hK => ?_)
      case i0 => simp only [List.getElem?_toArray, List.getElem?_cons_zero, List.getElem?_cons_succ]; exact rfl
      case w0 => rfl
      have HK2 := Lib.hid hK
      clear hK
      go_simp
      (try simp only [Act.put, List.setIfInBounds_toArray, List.set_cons_zero, List.set_cons_succ])
      have e := He.out
      have Xw := HX.out
      refine HK2.out _ _ ((HI.out _ _ _).2 ⟨{ σ with b0 := true, s63 := _ }, rfl, rfl, { G with D8 := (fun h => ff e (G.D8 h).1), Q0 := (fun _ => rfl) }⟩)
    · have e : σ.b1 = false := hl
      have hd := hd _ rfl
      clear hl hlt
      clear hd
      have Xw := G.X
      have g0 : W.cell? ⟨kf, 0, none⟩ = some (.string f.name) := Xw.of_cell z0
      have g1 : W.cell? ⟨kf, 1, none⟩ = some (.int .i64 f.number) := Xw.of_cell z1
      have g2 : W.cell? ⟨kf, 2, none⟩ = some (.int .i64 f.kind) := Xw.of_cell z2
      have g3 : W.cell? ⟨kf, 3, none⟩ = some (.bool true) := Xw.of_cell z3
      have g4 : W.cell? ⟨kf, 4, none⟩ = some (.bool f.packed) := Xw.of_cell z4
      have g5 : W.cell? ⟨kf, 5, none⟩ = some (.int .i64 f.of_) := Xw.of_cell z5
      have He := Lib.hid e
      have HX := Lib.hid Xw
      clear e Xw
      refine wpOp_run (o := ?o1) ?i1 ?w1 (fun K hK => ?_)
      case i1 => simp only [List.getElem?_toArray, List.getElem?_cons_zero, List.getElem?_cons_succ]; exact rfl
      case w1 => rfl
      have HK2 := Lib.hid hK
      clear hK
      go_simp
      (try simp only [Act.put, List.setIfInBounds_toArray, List.set_cons_zero, List.set_cons_succ])
      have e := He.out
      have Xw := HX.out
      refine HK2.out _ _ ((HI.out _ _ _).2 ⟨{ σ with b1 := true, s64 := _ }, rfl, rfl, { G with D8 := (fun h => ff e (G.D8 h).2.1), Q1 := (fun _ => rfl) }⟩)
    · have e : σ.b2 = false := hl
      have hd := hd _ rfl
      clear hl hlt
      clear hd
      have Xw := G.X
      have He := Lib.hid e
      have HX := Lib.hid Xw
      clear e Xw
      refine wpOp_run (o := ?o2) ?i2 ?w2 (fun K hK => ?_)
      case i2 => simp only [List.getElem?_toArray, List.getElem?_cons_zero, List.getElem?_cons_succ]; exact rfl
      case w2 => rfl
      have HK2 := Lib.hid hK
      clear hK
      go_simp
      (try simp only [Act.put, List.setIfInBounds_toArray, List.set_cons_zero, List.set_cons_succ])
      have e := He.out
      have Xw := HX.out
      refine HK2.out _ _ ((HI.out _ _ _).2 ⟨{ σ with b2 := true, s65 := _, AB := some ⟨W.heap.size, 0, none⟩, cB := 0 }, rfl, rfl, { G with D4 := (fun h => ff e (G.D4 h).1), X := (Xw.alloc _), CB := (fun _ _ => ⟨rfl, Own.empty Xw _ _⟩), C1 := (fun h => ff e (G.D4 h).1), C2 := (fun h => ff e (G.D4 (G.D6 h).1).1), PV := (fun h => ff e (G.D4 (G.D6 (G.D8 h).2.2.1).1).1), N0 := (fun h h2 => (G.N0 h h2).alloc _), N1 := (fun h => ff e (G.D4 (G.D6 (G.D8 (G.D13 h).2.2).2.2.1).1).1) }⟩)
    · have e : σ.b3 = false := hl
      have hd := hd _ rfl
      clear hl hlt
      clear hd
      have Xw := G.X
      have He := Lib.hid e
      have HX := Lib.hid Xw
      clear e Xw
      refine wpOp_run (o := ?o3) ?i3 ?w3 (fun K hK => ?_)
      case i3 => simp only [List.getElem?_toArray, List.getElem?_cons_zero, List.getElem?_cons_succ]; exact rfl
      case w3 => rfl
      have HK2 := Lib.hid hK
      clear hK
      go_simp
      (try simp only [Act.put, List.setIfInBounds_toArray, List.set_cons_zero, List.set_cons_succ])
      have e := He.out
      have Xw := HX.out
      refine HK2.out _ _ ((HI.out _ _ _).2 ⟨{ σ with b3 := true, s66 := _ }, rfl, rfl, { G with D4 := (fun h => ff e (G.D4 h).2), Q3 := (fun _ => rfl) }⟩)
    · have e : σ.b4 = false := hl
      have hd := hd _ rfl
      clear hl hlt
      simp [Region.binds] at hd
      have t2 : σ.b2 = true := by simp [hd]
      have t3 : σ.b3 = true := by simp [hd]
      clear hd
      have Xw := G.X
      have el := G.Q3 t3
      obtain ⟨es, own⟩ := G.CB t2 e
      refine wpOp_step (o := ?o4) ?i4 (fun K hK => ?_)
      case i4 => simp only [List.getElem?_toArray, List.getElem?_cons_zero, List.getElem?_cons_succ]; exact rfl
      have HK2 := Lib.hid hK
      clear hK
      refine step_moreW elemB (by rfl) (.tmp 65) (.tmp 66) (by rfl) es own el (ha.ext Xw) (bv_one _) (by omega) (by unfold maxLen; omega) ?_
      intro An cn W2 on gn mn
      (try simp only [Nat.zero_add, List.nil_append] at on)
      (try simp only [Act.put, List.setIfInBounds_toArray, List.set_cons_zero, List.set_cons_succ, Nat.zero_add])
      refine HK2.out _ _ ((HI.out _ _ _).2 ⟨{ σ with b4 := true, s67 := _, A1 := An, cq := cn }, rfl, rfl, { G with D4 := (fun _ => ⟨t2, t3⟩), D6 := (fun h => ff e (G.D6 h).1), X := (on.ext), CB := (fun _ h => by cases h), C1 := (fun _ _ => ⟨rfl, on⟩), C2 := (fun h => ff e (G.D6 h).1), PV := (fun h => ff e (G.D6 (G.D8 h).2.2.1).1), N0 := (fun h h2 => (G.N0 h h2).beside own (by decide) gn), N1 := (fun h => ff e (G.D6 (G.D8 (G.D13 h).2.2).2.2.1).1) }⟩)
    · have e : σ.b5 = false := hl
      have hd := hd _ rfl
      clear hl hlt
      clear hd
      have Xw := G.X
      have He := Lib.hid e
      have HX := Lib.hid Xw
      clear e Xw
      refine wpOp_run (o := ?o5) ?i5 ?w5 (fun K hK => ?_)
      case i5 => simp only [List.getElem?_toArray, List.getElem?_cons_zero, List.getElem?_cons_succ]; exact rfl
      case w5 => rfl
      have HK2 := Lib.hid hK
      clear hK
      go_simp
      (try simp only [Act.put, List.setIfInBounds_toArray, List.set_cons_zero, List.set_cons_succ])
      have e := He.out
      have Xw := HX.out
      refine HK2.out _ _ ((HI.out _ _ _).2 ⟨{ σ with b5 := true, s68 := _ }, rfl, rfl, { G with D6 := (fun h => ff e (G.D6 h).2), Q5 := (fun _ => rfl) }⟩)
    · have e : σ.b6 = false := hl
      have hd := hd _ rfl
      clear hl hlt
      simp [Region.binds] at hd
      have t4 : σ.b4 = true := by simp [hd]
      have t5 : σ.b5 = true := by simp [hd]
      have t2 : σ.b2 = true := (G.D4 t4).1
      have t3 : σ.b3 = true := (G.D4 t4).2
      clear hd
      have Xw := G.X
      have el := G.Q5 t5
      obtain ⟨es, own⟩ := G.C1 t4 e
      refine wpOp_step (o := ?o6) ?i6 (fun K hK => ?_)
      case i6 => simp only [List.getElem?_toArray, List.getElem?_cons_zero, List.getElem?_cons_succ]; exact rfl
      have HK2 := Lib.hid hK
      clear hK
      refine step_moreW elemB (by rfl) (.tmp 67) (.tmp 68) (by rfl) es own el (hbs.ext Xw) (bv_one _) (by omega) (by unfold maxLen; omega) ?_
      intro An cn W2 on gn mn
      (try simp only [Nat.zero_add, List.nil_append] at on)
      (try simp only [Act.put, List.setIfInBounds_toArray, List.set_cons_zero, List.set_cons_succ, Nat.zero_add])
      refine HK2.out _ _ ((HI.out _ _ _).2 ⟨{ σ with b6 := true, s69 := _, A2 := An, cr := cn }, rfl, rfl, { G with D6 := (fun _ => ⟨t4, t5⟩), D8 := (fun h => ff e (G.D8 h).2.2.1), X := (on.ext), CB := (fun _ h => ff h t4), C1 := (fun _ h => by cases h), C2 := (fun _ _ => ⟨rfl, on⟩), PV := (fun h => ff e (G.D8 h).2.2.1), N0 := (fun h h2 => (G.N0 h h2).beside own (by decide) gn), N1 := (fun h => ff e (G.D8 (G.D13 h).2.2).2.2.1) }⟩)
    · have e : σ.b7 = false := hl
      have hd := hd _ rfl
      clear hl hlt
      clear hd
      have Xw := G.X
      have He := Lib.hid e
      have HX := Lib.hid Xw
      clear e Xw
      refine wpOp_run (o := ?o7) ?i7 ?w7 (fun K hK => ?_)
      case i7 => simp only [List.getElem?_toArray, List.getElem?_cons_zero, List.getElem?_cons_succ]; exact rfl
      case w7 => rfl
      have HK2 := Lib.hid hK
      clear hK
      go_simp
      (try simp only [Act.put, List.setIfInBounds_toArray, List.set_cons_zero, List.set_cons_succ])
      have e := He.out
      have Xw := HX.out
      refine HK2.out _ _ ((HI.out _ _ _).2 ⟨{ σ with b7 := true, s70 := _ }, rfl, rfl, { G with D8 := (fun h => ff e (G.D8 h).2.2.2), Q7 := (fun _ => rfl) }⟩)
    · have e : σ.b8 = false := hl
      have hd := hd _ rfl
      clear hl hlt
      simp [Region.binds] at hd
      have t0 : σ.b0 = true := by simp [hd]
      have t1 : σ.b1 = true := by simp [hd]
      have t6 : σ.b6 = true := by simp [hd]
      have t7 : σ.b7 = true := by simp [hd]
      have t2 : σ.b2 = true := (G.D4 (G.D6 t6).1).1
      have t3 : σ.b3 = true := (G.D4 (G.D6 t6).1).2
      have t4 : σ.b4 = true := (G.D6 t6).1
      have t5 : σ.b5 = true := (G.D6 t6).2
      clear hd
      have Xw := G.X
      have e0 := G.Q0 t0
      have e1 := G.Q1 t1
      have e7 := G.Q7 t7
      obtain ⟨es, own⟩ := G.C2 t6 e
      have hby := own.reads
      rw [← List.map_append] at hby
      have HB := Lib.hid (show BytesAt W σ.A2 (n1 + n2) σ.cr (xs ++ ys) from hby)
      clear own hby
      have He := Lib.hid e
      have HX := Lib.hid Xw
      clear e Xw
      refine wpOp_run (o := ?o8) ?i8 ?w8 (fun K hK => ?_)
      case i8 => simp only [List.getElem?_toArray, List.getElem?_cons_zero, List.getElem?_cons_succ]; exact rfl
      case w8 => rfl
      have HK2 := Lib.hid hK
      clear hK
      go_simp
      (try simp only [Act.put, List.setIfInBounds_toArray, List.set_cons_zero, List.set_cons_succ])
      go_at_call 6
      refine (Hc.out _ _ _ HX.out HB.out).mono ?_
      rintro e1 W2 ⟨yn, rfl, pn, an, un, E2⟩
      (try dsimp only)
      (try simp only [Act.put, List.setIfInBounds_toArray, List.set_cons_zero, List.set_cons_succ])
      have kl : σ.b12 = true → σ.kn < W.heap.size := fun h => by rcases hs : σ.b13 with _ | _; exact (G.N0 h hs).lt; exact (G.N1 hs).lt
      have e := He.out
      have Xw := HX.out
      refine HK2.out _ _ ((HI.out _ _ _).2 ⟨{ σ with b8 := true, s71 := _, s63 := _, s64 := _, s70 := _, s69 := _, y := yn }, rfl, rfl, { G with D8 := (fun _ => ⟨t0, t1, t6, t7⟩), D9 := (fun h => ff e (G.D9 h)), D13 := (fun h => ff e (G.D13 h).2.2), Q0 := (fun _ => rfl), Q1 := (fun _ => rfl), Q7 := (fun _ => rfl), X := (Xw.trans E2), CB := (fun _ h => ff h t4), C1 := (fun _ h => ff h t6), C2 := (fun _ h => by cases h), P8 := (fun _ => rfl), PV := (fun _ => ⟨pn, an, fun b hb => Nat.le_trans Xw.size (un b hb)⟩), P9 := (fun h => ff e (G.D9 h)), P10 := (fun h => ff e (G.D9 (G.D10 h))), N0 := (fun h h2 => (G.N0 h h2).up E2), N1 := (fun h => ff e (G.D13 h).2.2), U := (fun _ h b hb => Nat.ne_of_gt (Nat.lt_of_lt_of_le (kl h) (un b hb))) }⟩)
    · have e : σ.b9 = false := hl
      have hd := hd _ rfl
      clear hl hlt
      simp [Region.binds] at hd
      have t8 : σ.b8 = true := by simp [hd]
      have t0 : σ.b0 = true := (G.D8 t8).1
      have t1 : σ.b1 = true := (G.D8 t8).2.1
      have t2 : σ.b2 = true := (G.D4 (G.D6 (G.D8 t8).2.2.1).1).1
      have t3 : σ.b3 = true := (G.D4 (G.D6 (G.D8 t8).2.2.1).1).2
      have t4 : σ.b4 = true := (G.D6 (G.D8 t8).2.2.1).1
      have t5 : σ.b5 = true := (G.D6 (G.D8 t8).2.2.1).2
      have t6 : σ.b6 = true := (G.D8 t8).2.2.1
      have t7 : σ.b7 = true := (G.D8 t8).2.2.2
      clear hd
      have Xw := G.X
      have er := G.P8 t8
      have He := Lib.hid e
      have HX := Lib.hid Xw
      clear e Xw
      refine wpOp_run (o := ?o9) ?i9 ?w9 (fun K hK => ?_)
      case i9 => simp only [List.getElem?_toArray, List.getElem?_cons_zero, List.getElem?_cons_succ]; exact rfl
      case w9 => rfl
      have HK2 := Lib.hid hK
      clear hK
      go_simp
      (try simp only [Act.put, List.setIfInBounds_toArray, List.set_cons_zero, List.set_cons_succ])
      have e := He.out
      have Xw := HX.out
      refine HK2.out _ _ ((HI.out _ _ _).2 ⟨{ σ with b9 := true, s62 := _, s71 := _ }, rfl, rfl, { G with D9 := (fun _ => t8), D10 := (fun h => ff e (G.D10 h)), D11 := (fun h => ff e (G.D11 h)), P8 := (fun _ => rfl), P9 := (fun _ => rfl) }⟩)
    · have e : σ.b10 = false := hl
      have hd := hd _ rfl
      clear hl hlt
      simp [Region.binds] at hd
      have t9 : σ.b9 = true := by simp [hd]
      have t0 : σ.b0 = true := (G.D8 (G.D9 t9)).1
      have t1 : σ.b1 = true := (G.D8 (G.D9 t9)).2.1
      have t2 : σ.b2 = true := (G.D4 (G.D6 (G.D8 (G.D9 t9)).2.2.1).1).1
      have t3 : σ.b3 = true := (G.D4 (G.D6 (G.D8 (G.D9 t9)).2.2.1).1).2
      have t4 : σ.b4 = true := (G.D6 (G.D8 (G.D9 t9)).2.2.1).1
      have t5 : σ.b5 = true := (G.D6 (G.D8 (G.D9 t9)).2.2.1).2
      have t6 : σ.b6 = true := (G.D8 (G.D9 t9)).2.2.1
      have t7 : σ.b7 = true := (G.D8 (G.D9 t9)).2.2.2
      have t8 : σ.b8 = true := (G.D9 t9)
      clear hd
      have Xw := G.X
      have er := G.P9 t9
      have He := Lib.hid e
      have HX := Lib.hid Xw
      clear e Xw
      refine wpOp_run (o := ?o10) ?i10 ?w10 (fun K hK => ?_)
      case i10 => simp only [List.getElem?_toArray, List.getElem?_cons_zero, List.getElem?_cons_succ]; exact rfl
      case w10 => rfl
      have HK2 := Lib.hid hK
      clear hK
      go_simp
      (try simp only [Act.put, List.setIfInBounds_toArray, List.set_cons_zero, List.set_cons_succ])
      have e := He.out
      have Xw := HX.out
      refine HK2.out _ _ ((HI.out _ _ _).2 ⟨{ σ with b10 := true, s72 := _, s62 := _ }, rfl, rfl, { G with D10 := (fun _ => t9), D13 := (fun h => ff e (G.D13 h).2.1), P9 := (fun _ => rfl), P10 := (fun _ => rfl) }⟩)
    · have e : σ.b11 = false := hl
      have hd := hd _ rfl
      clear hl hlt
      simp [Region.binds] at hd
      have t9 : σ.b9 = true := by simp [hd]
      have t0 : σ.b0 = true := (G.D8 (G.D9 t9)).1
      have t1 : σ.b1 = true := (G.D8 (G.D9 t9)).2.1
      have t2 : σ.b2 = true := (G.D4 (G.D6 (G.D8 (G.D9 t9)).2.2.1).1).1
      have t3 : σ.b3 = true := (G.D4 (G.D6 (G.D8 (G.D9 t9)).2.2.1).1).2
      have t4 : σ.b4 = true := (G.D6 (G.D8 (G.D9 t9)).2.2.1).1
      have t5 : σ.b5 = true := (G.D6 (G.D8 (G.D9 t9)).2.2.1).2
      have t6 : σ.b6 = true := (G.D8 (G.D9 t9)).2.2.1
      have t7 : σ.b7 = true := (G.D8 (G.D9 t9)).2.2.2
      have t8 : σ.b8 = true := (G.D9 t9)
      clear hd
      have Xw := G.X
      have er := G.P9 t9
      have He := Lib.hid e
      have HX := Lib.hid Xw
      clear e Xw
      refine wpOp_run (o := ?o11) ?i11 ?w11 (fun K hK => ?_)
      case i11 => simp only [List.getElem?_toArray, List.getElem?_cons_zero, List.getElem?_cons_succ]; exact rfl
      case w11 => rfl
      have HK2 := Lib.hid hK
      clear hK
      go_simp
      (try simp only [Act.put, List.setIfInBounds_toArray, List.set_cons_zero, List.set_cons_succ])
      have e := He.out
      have Xw := HX.out
      refine HK2.out _ _ ((HI.out _ _ _).2 ⟨{ σ with b11 := true, s73 := _, s62 := _ }, rfl, rfl, { G with D11 := (fun _ => t9), D14 := (fun h => ff e (G.D14 h).1), P9 := (fun _ => rfl), P11 := (fun _ => rfl) }⟩)
    · have e : σ.b12 = false := hl
      have hd := hd _ rfl
      clear hl hlt
      clear hd
      have Xw := G.X
      have He := Lib.hid e
      have HX := Lib.hid Xw
      clear e Xw
      refine wpOp_run (o := ?o12) ?i12 ?w12 (fun K hK => ?_)
      case i12 => simp only [List.getElem?_toArray, List.getElem?_cons_zero, List.getElem?_cons_succ]; exact rfl
      case w12 => rfl
      have HK2 := Lib.hid hK
      clear hK
      go_simp
      (try simp only [Act.put, List.setIfInBounds_toArray, List.set_cons_zero, List.set_cons_succ])
      have e := He.out
      have Xw := HX.out
      refine HK2.out _ _ ((HI.out _ _ _).2 ⟨{ σ with b12 := true, s15 := _, kn := W.heap.size }, rfl, rfl, { G with D13 := (fun h => ff e (G.D13 h).1), CB := (fun h h2 => ⟨(G.CB h h2).1, (G.CB h h2).2.alloc _⟩), C1 := (fun h h2 => ⟨(G.C1 h h2).1, (G.C1 h h2).2.alloc _⟩), C2 := (fun h h2 => ⟨(G.C2 h h2).1, (G.C2 h h2).2.alloc _⟩), X := (Xw.alloc _), PV := (fun h => ⟨(G.PV h).1, (G.PV h).2.1.up ((Ext.refl W).alloc _), (G.PV h).2.2⟩), N := (fun _ => ⟨rfl, Xw.size⟩), N0 := (fun _ _ => BlkT.new W _ _ rfl), N1 := (fun h => ff e (G.D13 h).1), U := (fun h _ b hb => Nat.ne_of_lt ((G.PV h).2.1.lt hb)) }⟩)
    · have e : σ.b13 = false := hl
      have hd := hd _ rfl
      clear hl hlt
      simp [Region.binds] at hd
      have t12 : σ.b12 = true := by simp [hd]
      have t10 : σ.b10 = true := by simp [hd]
      have t8 : σ.b8 = true := by simp [hd]
      have t0 : σ.b0 = true := (G.D8 (G.D9 (G.D10 t10))).1
      have t1 : σ.b1 = true := (G.D8 (G.D9 (G.D10 t10))).2.1
      have t2 : σ.b2 = true := (G.D4 (G.D6 (G.D8 (G.D9 (G.D10 t10))).2.2.1).1).1
      have t3 : σ.b3 = true := (G.D4 (G.D6 (G.D8 (G.D9 (G.D10 t10))).2.2.1).1).2
      have t4 : σ.b4 = true := (G.D6 (G.D8 (G.D9 (G.D10 t10))).2.2.1).1
      have t5 : σ.b5 = true := (G.D6 (G.D8 (G.D9 (G.D10 t10))).2.2.1).2
      have t6 : σ.b6 = true := (G.D8 (G.D9 (G.D10 t10))).2.2.1
      have t7 : σ.b7 = true := (G.D8 (G.D9 (G.D10 t10))).2.2.2
      have t9 : σ.b9 = true := (G.D10 t10)
      clear hd
      have Xw := G.X
      obtain ⟨ep, lk⟩ := G.N t12
      have er := G.P10 t10
      have B := G.N0 t12 e
      have g0 : W.cell? ⟨σ.kn, 0, none⟩ = some (.int .i64 0) := B.cell 0
      have f0 := B.free 0
      have g1 : W.cell? ⟨σ.kn, 1, none⟩ = some (.slice none 0 0) := B.cell 1
      have f1 := B.free 1
      have g2 : W.cell? ⟨σ.kn, 2, none⟩ = some (.slice none 0 0) := B.cell 2
      have f2 := B.free 2
      have g3 : W.cell? ⟨σ.kn, 3, none⟩ = some (.slice none 0 0) := B.cell 3
      have f3 := B.free 3
      have lb := B.lt
      have HB := Lib.hid B
      clear B
      have He := Lib.hid e
      have HX := Lib.hid Xw
      clear e Xw
      refine wpOp_run (o := ?o13) ?i13 ?w13 (fun K hK => ?_)
      case i13 => simp only [List.getElem?_toArray, List.getElem?_cons_zero, List.getElem?_cons_succ]; exact rfl
      case w13 => rfl
      have HK2 := Lib.hid hK
      clear hK
      go_simp
      (try simp only [Act.put, List.setIfInBounds_toArray, List.set_cons_zero, List.set_cons_succ])
      have e := He.out
      have Xw := HX.out
      refine HK2.out _ _ ((HI.out _ _ _).2 ⟨{ σ with b13 := true, s15 := _, s72 := _ }, rfl, rfl, { G with D13 := (fun _ => ⟨t12, t10, t8⟩), D14 := (fun h => ff e (G.D14 h).2), X := (((((Xw.setCell (p := ⟨σ.kn, 0, none⟩) lk (.int .i64 σ.y.number)).setCell (p := ⟨σ.kn, 1, none⟩) lk (.slice σ.y.a.1 σ.y.words.length σ.y.a.2)).setCell (p := ⟨σ.kn, 2, none⟩) lk (.slice σ.y.b.1 σ.y.texts.length σ.y.b.2)).setCell (p := ⟨σ.kn, 3, none⟩) lk (.slice σ.y.c.1 σ.y.subs.length σ.y.c.2))), CB := (fun _ h => ff h t4), C1 := (fun _ h => ff h t6), C2 := (fun _ h => ff h t8), P10 := (fun _ => rfl), N := (fun _ => ⟨rfl, lk⟩), N0 := (fun _ h => by cases h), N1 := (fun _ => ((((HB.out.set_ 0 (.int .i64 σ.y.number)).set_ 1 (.slice σ.y.a.1 σ.y.words.length σ.y.a.2)).set_ 2 (.slice σ.y.b.1 σ.y.texts.length σ.y.b.2)).set_ 3 (.slice σ.y.c.1 σ.y.subs.length σ.y.c.2))), PV := (fun h => ⟨(G.PV h).1, (G.PV h).2.1.stays (s := fun b => b ≠ σ.kn) (((((Stays.refl _ W).set (p := ⟨σ.kn, 0, none⟩) (fun e => e rfl) (.int .i64 σ.y.number)).set (p := ⟨σ.kn, 1, none⟩) (fun e => e rfl) (.slice σ.y.a.1 σ.y.words.length σ.y.a.2)).set (p := ⟨σ.kn, 2, none⟩) (fun e => e rfl) (.slice σ.y.b.1 σ.y.texts.length σ.y.b.2)).set (p := ⟨σ.kn, 3, none⟩) (fun e => e rfl) (.slice σ.y.c.1 σ.y.subs.length σ.y.c.2)) (G.U t8 t12), (G.PV h).2.2⟩) }⟩)
    · have e : σ.b14 = false := hl
      have hd := hd _ rfl
      clear hl hlt
      simp [Region.binds] at hd
      have t11 : σ.b11 = true := by simp [hd]
      have t13 : σ.b13 = true := by simp [hd]
      have t0 : σ.b0 = true := (G.D8 (G.D9 (G.D11 t11))).1
      have t1 : σ.b1 = true := (G.D8 (G.D9 (G.D11 t11))).2.1
      have t2 : σ.b2 = true := (G.D4 (G.D6 (G.D8 (G.D9 (G.D11 t11))).2.2.1).1).1
      have t3 : σ.b3 = true := (G.D4 (G.D6 (G.D8 (G.D9 (G.D11 t11))).2.2.1).1).2
      have t4 : σ.b4 = true := (G.D6 (G.D8 (G.D9 (G.D11 t11))).2.2.1).1
      have t5 : σ.b5 = true := (G.D6 (G.D8 (G.D9 (G.D11 t11))).2.2.1).2
      have t6 : σ.b6 = true := (G.D8 (G.D9 (G.D11 t11))).2.2.1
      have t7 : σ.b7 = true := (G.D8 (G.D9 (G.D11 t11))).2.2.2
      have t8 : σ.b8 = true := (G.D9 (G.D11 t11))
      have t9 : σ.b9 = true := (G.D11 t11)
      have t10 : σ.b10 = true := (G.D13 t13).2.1
      have t12 : σ.b12 = true := (G.D13 t13).1
      clear hd
      have Xw := G.X
      have er := G.P11 t11
      have He := Lib.hid e
      have HX := Lib.hid Xw
      clear e Xw
      refine wpOp_run (o := ?o14) ?i14 ?w14 (fun K hK => ?_)
      case i14 => simp only [List.getElem?_toArray, List.getElem?_cons_zero, List.getElem?_cons_succ]; exact rfl
      case w14 => rfl
      have HK2 := Lib.hid hK
      clear hK
      go_simp
      (try simp only [Act.put, List.setIfInBounds_toArray, List.set_cons_zero, List.set_cons_succ])
      have e := He.out
      have Xw := HX.out
      refine HK2.out _ _ ((HI.out _ _ _).2 ⟨{ σ with b14 := true, s16 := _, s73 := _ }, rfl, rfl, { G with D14 := (fun _ => ⟨t11, t13⟩), P11 := (fun _ => rfl), P14 := (fun _ => rfl) }⟩)
  · obtain ⟨σ, rfl, rfl, G⟩ := (HI.out _ _ _).1 hi
    clear hi
    have t0 : σ.b0 = true := ready_none hr (i := 0) rfl (by simp [Region.binds]) (show 0 < 15 by decide)
    have t1 : σ.b1 = true := ready_none hr (i := 1) rfl (by simp [Region.binds, t0]) (show 1 < 15 by decide)
    have t2 : σ.b2 = true := ready_none hr (i := 2) rfl (by simp [Region.binds, t0, t1]) (show 2 < 15 by decide)
    have t3 : σ.b3 = true := ready_none hr (i := 3) rfl (by simp [Region.binds, t0, t1, t2]) (show 3 < 15 by decide)
    have t4 : σ.b4 = true := ready_none hr (i := 4) rfl (by simp [Region.binds, t0, t1, t2, t3]) (show 4 < 15 by decide)
    have t5 : σ.b5 = true := ready_none hr (i := 5) rfl (by simp [Region.binds, t0, t1, t2, t3, t4]) (show 5 < 15 by decide)
    have t6 : σ.b6 = true := ready_none hr (i := 6) rfl (by simp [Region.binds, t0, t1, t2, t3, t4, t5]) (show 6 < 15 by decide)
    have t7 : σ.b7 = true := ready_none hr (i := 7) rfl (by simp [Region.binds, t0, t1, t2, t3, t4, t5, t6]) (show 7 < 15 by decide)
    have t8 : σ.b8 = true := ready_none hr (i := 8) rfl (by simp [Region.binds, t0, t1, t2, t3, t4, t5, t6, t7]) (show 8 < 15 by decide)
    have t9 : σ.b9 = true := ready_none hr (i := 9) rfl (by simp [Region.binds, t0, t1, t2, t3, t4, t5, t6, t7, t8]) (show 9 < 15 by decide)
    have t10 : σ.b10 = true := ready_none hr (i := 10) rfl (by simp [Region.binds, t0, t1, t2, t3, t4, t5, t6, t7, t8, t9]) (show 10 < 15 by decide)
    have t12 : σ.b12 = true := ready_none hr (i := 12) rfl (by simp [Region.binds, t0, t1, t2, t3, t4, t5, t6, t7, t8, t9, t10]) (show 12 < 15 by decide)
    have t13 : σ.b13 = true := ready_none hr (i := 13) rfl (by simp [Region.binds, t0, t1, t2, t3, t4, t5, t6, t7, t8, t9, t10, t12]) (show 13 < 15 by decide)
    have t11 : σ.b11 = true := ready_none hr (i := 11) rfl (by simp [Region.binds, t0, t1, t2, t3, t4, t5, t6, t7, t8, t9, t10, t12, t13]) (show 11 < 15 by decide)
    have t14 : σ.b14 = true := ready_none hr (i := 14) rfl (by simp [Region.binds, t0, t1, t2, t3, t4, t5, t6, t7, t8, t9, t10, t12, t13, t11]) (show 14 < 15 by decide)
    obtain ⟨en, lk⟩ := G.N t12
    obtain ⟨p, q, u⟩ := G.PV t8
    have e14 := G.P14 t14
    have fin := HK.out σ.s62 σ.s63 σ.s64 σ.s65 σ.s66 σ.s67 σ.s68 σ.s69 σ.s70 σ.s71 σ.s72 σ.s73 σ.kn σ.y W G.X lk p q (G.N1 t13)
    rw [← en, ← e14] at fin
    exact fin
  · refine (HI.out _ _ _).2 ⟨⟨false, false, false, false, false, false, false, false, false, false, false, false, false, false, false, _, _, _, _, _, _, _, _, _, _, _, _, _, _, none, none, none, 0, 0, 0, 0, ⟨(none, 0), (none, 0), (none, 0), 0, [], [], []⟩⟩, rfl, rfl, ?_⟩
    constructor
    all_goals (try dsimp only)
    all_goals first | exact (Ext.refl w).drew | (intro h; cases h; done)

end Go.Proofs.Ytnnphodgegcddaa
