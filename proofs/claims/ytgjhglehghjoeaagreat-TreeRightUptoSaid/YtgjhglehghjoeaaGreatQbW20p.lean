/- A drawn region of the reference's Right, as laws of its own. (Printed by gen_rreg7.py.) -/
import Derived.Test.YtgjhglehghjoeaaGreatQbW14w
import Derived.StillTailTactics

namespace Go.Proofs.YtgjhglehghjoeaaGreat
open Go.RowKit Go.Shelf
set_option linter.unusedVariables false
set_option linter.unusedSimpArgs false

noncomputable def regR (n : Nat) : Code := ((Tryz.f20.body.bind (regionOf n)).getD .skip)

set_option maxRecDepth 100000 in
set_option maxHeartbeats 4000000 in
theorem rreg7a {Q0 : Exit → Act → World → Prop} {u2 u3 u4 u6 u9 u10 u11 u12 u13 u14 u15 u16 u17 u18 u19 u20 u21 u22 u23 u24 u25 u26 u27 u28 u29 u30 u31 u32 u33 u34 u35 u36 u37 u38 u39 u40 u41 u42 u43 u44 u45 u46 u47 u48 u49 u50 u51 u52 u53 u54 u55 u56 u57 u58 u59 u60 u61 u62 u63 u64 u65 u66 u67 u68 u69 u70 u71 u72 u73 u74 u75 u76 u77 u78 u79 u80 u81 u82 u83 u84 u85 u86 u87 u88 u89 u90 u91 u92 u93 u94 u95 u96 u97 u98 u99 u100 u101 u102 u103 u104 u105 u106 u107 u108 u109 u110 u111 u112 u113 u114 u115 u116 u117 : Value} {w : World} {b1 off1 n c m bx i Mn Mc b8 off8 b5 off5 xl xc k : Nat} {q : Bool} {f : FieldD} {v : ValR}
    (hm : m < n) (hi : i < Mn) (hMn : Mn ≤ 1000000) (hk : k < xl) (hk0 : k = 0) (hxl : xl ≤ 1000000000000)
    (x0 : w.cell? ⟨bx, 0, none⟩ = some (.slice (some ⟨b5, off5, none⟩) xl xc)) (s1 : w.cell? ⟨b1, off1 + m * 2 + 1, none⟩ = some (.slice (some ⟨b8, off8, none⟩) Mn Mc))
    (g0 : w.cell? ⟨b8, off8 + i * 6, none⟩ = some (.string f.name)) (g1 : w.cell? ⟨b8, off8 + i * 6 + 1, none⟩ = some (.int .i64 f.number)) (g2 : w.cell? ⟨b8, off8 + i * 6 + 2, none⟩ = some (.int .i64 f.kind)) (g3 : w.cell? ⟨b8, off8 + i * 6 + 3, none⟩ = some (.bool f.rep)) (g4 : w.cell? ⟨b8, off8 + i * 6 + 4, none⟩ = some (.bool f.packed)) (g5 : w.cell? ⟨b8, off8 + i * 6 + 5, none⟩ = some (.int .i64 f.of_))
    (e0 : w.cell? ⟨b5, off5 + k * 4, none⟩ = some (.int .i64 v.number)) (e1 : w.cell? ⟨b5, off5 + k * 4 + 1, none⟩ = some (.slice v.a.1 v.words.length v.a.2)) (e2 : w.cell? ⟨b5, off5 + k * 4 + 2, none⟩ = some (.slice v.b.1 v.texts.length v.b.2)) (e3 : w.cell? ⟨b5, off5 + k * 4 + 3, none⟩ = some (.slice v.c.1 v.subs.length v.c.2)) 
    (h1 : b1 < w.heap.size) (h8 : b8 < w.heap.size) (h5 : b5 < w.heap.size) (hx : bx < w.heap.size)
    (Hcall : Hid (∀ W, Ext w W → Calls Tryz.prog 16 #[.slice (some ⟨b1, off1, none⟩) n c, .agg #[.string f.name, .int .i64 f.number, .int .i64 f.kind, .bool f.rep, .bool f.packed, .int .i64 f.of_], .agg #[.int .i64 v.number, .slice v.a.1 v.words.length v.a.2, .slice v.b.1 v.texts.length v.b.2, .slice v.c.1 v.subs.length v.c.2]] W fun e W' => e = .returned (.bool q) ∧ Ext W W'))
    (hK : ∀ (v38 v39 v40 v41 v42 v43 v44 v45 v46 v47 v48 v49 v50 v51 v52 v53 v54 v55 v56 v57 v58 v59 v60 v61 v62 v63 v64 v65 v66 v67 v68 v69 v70 v71 v72 v73 v74 v75 v76 : Value) (wz : World), Ext w wz → Q0 .normal ⟨#[.slice (some ⟨b1, off1, none⟩) n c, .int .i64 (m : Int), u2, u3, u4, .pointer (some ⟨bx, 0, none⟩), u6, .int .i64 (k : Int), .int .i64 (i : Int), u9, u10, u11, u12, u13, u14, u15, u16, u17, u18, u19, u20, u21, u22, u23, u24, u25, u26, u27, u28, u29, u30, u31, u32, u33, u34, u35, u36, u37, v38, v39, v40, v41, v42, v43, v44, v45, v46, v47, v48, v49, v50, v51, v52, v53, v54, v55, v56, v57, v58, v59, v60, v61, v62, v63, v64, v65, v66, v67, v68, v69, v70, v71, v72, v73, v74, v75, v76, .bool (!q), u78, u79, u80, u81, u82, u83, u84, u85, u86, u87, u88, u89, u90, u91, u92, u93, u94, u95, u96, u97, u98, u99, u100, u101, u102, u103, u104, u105, u106, u107, u108, u109, u110, u111, u112, u113, u114, u115, u116, u117], []⟩ wz) :
    Code.wp Tryz.prog (regR 7) (calmQ Q0) ⟨#[.slice (some ⟨b1, off1, none⟩) n c, .int .i64 (m : Int), u2, u3, u4, .pointer (some ⟨bx, 0, none⟩), u6, .int .i64 (k : Int), .int .i64 (i : Int), u9, u10, u11, u12, u13, u14, u15, u16, u17, u18, u19, u20, u21, u22, u23, u24, u25, u26, u27, u28, u29, u30, u31, u32, u33, u34, u35, u36, u37, u38, u39, u40, u41, u42, u43, u44, u45, u46, u47, u48, u49, u50, u51, u52, u53, u54, u55, u56, u57, u58, u59, u60, u61, u62, u63, u64, u65, u66, u67, u68, u69, u70, u71, u72, u73, u74, u75, u76, u77, u78, u79, u80, u81, u82, u83, u84, u85, u86, u87, u88, u89, u90, u91, u92, u93, u94, u95, u96, u97, u98, u99, u100, u101, u102, u103, u104, u105, u106, u107, u108, u109, u110, u111, u112, u113, u114, u115, u116, u117], []⟩ w := by
  have mI : (m : Int) < n := by omega
  have iI : (i : Int) < Mn := by omega
  have iN : decide ((i : Int) < 0) = false := by rw [decide_eq_false_iff_not]; omega
  have kI : (k : Int) < xl := by omega
  have kN : decide ((0 : Int) < (k : Int)) = false := by rw [decide_eq_false_iff_not]; omega
  have kN2 : decide (0 < k) = false := by rw [decide_eq_false_iff_not]; omega
  clear hk0
  have HK := Lib.hid hK
  clear hK
  conv => arg 2; whnf
  refine wp_region_held_drew (S := fun W => Ext w W ∧ ∀ b o, b < w.heap.size → W.cell? ⟨b, o, none⟩ = w.cell? ⟨b, o, none⟩) (by kernel_rfl) ?_ (fun hHeld => ?_)
  · exact Ext.keep (Ext.drew (Ext.refl _))
  refine wpAnyH_take (i := 0) (oi := ?o0) (v := ?v0) ?i0 (by kernel_rfl) (by kernel_rfl) (by kernel_rfl) ?q0 ?y0 (by assumption) ?r0
  case i0 => simp only [List.getElem?_toArray, List.getElem?_cons_zero, List.getElem?_cons_succ]; exact rfl
  case q0 => exact fun _ _ _ h => h
  case y0 => exact Or.inl ⟨by rfl, by (intro w' hSw; (try dsimp only at hSw); go_split_ands; go_simp; with_reducible rfl)⟩
  simp only [Act.put, List.setIfInBounds_toArray, List.set_cons_zero, List.set_cons_succ]
  refine wpAnyH_take (i := 1) (oi := ?o1) (v := ?v1) ?i1 (by kernel_rfl) (by kernel_rfl) (by kernel_rfl) ?q1 ?y1 (by assumption) ?r1
  case i1 => simp only [List.getElem?_toArray, List.getElem?_cons_zero, List.getElem?_cons_succ]; exact rfl
  case q1 => exact fun _ _ _ h => h
  case y1 => exact Or.inl ⟨by rfl, by (intro w' hSw; (try dsimp only at hSw); go_split_ands; go_simp; with_reducible rfl)⟩
  simp only [Act.put, List.setIfInBounds_toArray, List.set_cons_zero, List.set_cons_succ]
  refine wpAnyH_take (i := 2) (oi := ?o2) (v := ?v2) ?i2 (by kernel_rfl) (by kernel_rfl) (by kernel_rfl) ?q2 ?y2 (by assumption) ?r2
  case i2 => simp only [List.getElem?_toArray, List.getElem?_cons_zero, List.getElem?_cons_succ]; exact rfl
  case q2 => exact fun _ _ _ h => h
  case y2 => exact Or.inl ⟨by rfl, by (intro w' hSw; (try dsimp only at hSw); go_split_ands; go_simp; with_reducible rfl)⟩
  simp only [Act.put, List.setIfInBounds_toArray, List.set_cons_zero, List.set_cons_succ]
  refine wpAnyH_take (i := 3) (oi := ?o3) (v := ?v3) ?i3 (by kernel_rfl) (by kernel_rfl) (by kernel_rfl) ?q3 ?y3 (by assumption) ?r3
  case i3 => simp only [List.getElem?_toArray, List.getElem?_cons_zero, List.getElem?_cons_succ]; exact rfl
  case q3 => exact fun _ _ _ h => h
  case y3 => exact Or.inl ⟨by rfl, by (intro w' hSw; (try dsimp only at hSw); go_split_ands; go_simp; with_reducible rfl)⟩
  simp only [Act.put, List.setIfInBounds_toArray, List.set_cons_zero, List.set_cons_succ]
  refine wpAnyH_take (i := 4) (oi := ?o4) (v := ?v4) ?i4 (by kernel_rfl) (by kernel_rfl) (by kernel_rfl) ?q4 ?y4 (by assumption) ?r4
  case i4 => simp only [List.getElem?_toArray, List.getElem?_cons_zero, List.getElem?_cons_succ]; exact rfl
  case q4 => exact fun _ _ _ h => h
  case y4 => exact Or.inl ⟨by rfl, by (intro w' hSw; (try dsimp only at hSw); go_split_ands; go_simp; with_reducible rfl)⟩
  simp only [Act.put, List.setIfInBounds_toArray, List.set_cons_zero, List.set_cons_succ]
  refine wpAnyH_take (i := 5) (oi := ?o5) (v := ?v5) ?i5 (by kernel_rfl) (by kernel_rfl) (by kernel_rfl) ?q5 ?y5 (by assumption) ?r5
  case i5 => simp only [List.getElem?_toArray, List.getElem?_cons_zero, List.getElem?_cons_succ]; exact rfl
  case q5 => exact fun _ _ _ h => h
  case y5 => exact Or.inl ⟨by rfl, by (intro w' hSw; (try dsimp only at hSw); go_split_ands; go_simp; with_reducible rfl)⟩
  simp only [Act.put, List.setIfInBounds_toArray, List.set_cons_zero, List.set_cons_succ]
  refine wpAnyH_take (i := 6) (oi := ?o6) (v := undef) ?i6 (by kernel_rfl) (by kernel_rfl) (by kernel_rfl) ?q6 ?y6 (by assumption) ?r6
  case i6 => simp only [List.getElem?_toArray, List.getElem?_cons_zero, List.getElem?_cons_succ]; exact rfl
  case q6 => exact fun _ _ _ h => h
  case y6 => exact Or.inr ⟨by rfl, rfl⟩
  simp only [Act.put, List.setIfInBounds_toArray, List.set_cons_zero, List.set_cons_succ]
  refine wpAnyH_take (i := 7) (oi := ?o7) (v := undef) ?i7 (by kernel_rfl) (by kernel_rfl) (by kernel_rfl) ?q7 ?y7 (by assumption) ?r7
  case i7 => simp only [List.getElem?_toArray, List.getElem?_cons_zero, List.getElem?_cons_succ]; exact rfl
  case q7 => exact fun _ _ _ h => h
  case y7 => exact Or.inr ⟨by rfl, rfl⟩
  simp only [Act.put, List.setIfInBounds_toArray, List.set_cons_zero, List.set_cons_succ]
  refine wpAnyH_take (i := 8) (oi := ?o8) (v := undef) ?i8 (by kernel_rfl) (by kernel_rfl) (by kernel_rfl) ?q8 ?y8 (by assumption) ?r8
  case i8 => simp only [List.getElem?_toArray, List.getElem?_cons_zero, List.getElem?_cons_succ]; exact rfl
  case q8 => exact fun _ _ _ h => h
  case y8 => exact Or.inr ⟨by rfl, rfl⟩
  simp only [Act.put, List.setIfInBounds_toArray, List.set_cons_zero, List.set_cons_succ]
  refine wpAnyH_take (i := 9) (oi := ?o9) (v := undef) ?i9 (by kernel_rfl) (by kernel_rfl) (by kernel_rfl) ?q9 ?y9 (by assumption) ?r9
  case i9 => simp only [List.getElem?_toArray, List.getElem?_cons_zero, List.getElem?_cons_succ]; exact rfl
  case q9 => exact fun _ _ _ h => h
  case y9 => exact Or.inr ⟨by rfl, rfl⟩
  simp only [Act.put, List.setIfInBounds_toArray, List.set_cons_zero, List.set_cons_succ]
  refine wpAnyH_take (i := 10) (oi := ?o10) (v := undef) ?i10 (by kernel_rfl) (by kernel_rfl) (by kernel_rfl) ?q10 ?y10 (by assumption) ?r10
  case i10 => simp only [List.getElem?_toArray, List.getElem?_cons_zero, List.getElem?_cons_succ]; exact rfl
  case q10 => exact fun _ _ _ h => h
  case y10 => exact Or.inr ⟨by rfl, rfl⟩
  simp only [Act.put, List.setIfInBounds_toArray, List.set_cons_zero, List.set_cons_succ]
  refine wpAnyH_take (i := 11) (oi := ?o11) (v := undef) ?i11 (by kernel_rfl) (by kernel_rfl) (by kernel_rfl) ?q11 ?y11 (by assumption) ?r11
  case i11 => simp only [List.getElem?_toArray, List.getElem?_cons_zero, List.getElem?_cons_succ]; exact rfl
  case q11 => exact fun _ _ _ h => h
  case y11 => exact Or.inr ⟨by rfl, rfl⟩
  simp only [Act.put, List.setIfInBounds_toArray, List.set_cons_zero, List.set_cons_succ]
  refine wpAnyH_take (i := 12) (oi := ?o12) (v := undef) ?i12 (by kernel_rfl) (by kernel_rfl) (by kernel_rfl) ?q12 ?y12 (by assumption) ?r12
  case i12 => simp only [List.getElem?_toArray, List.getElem?_cons_zero, List.getElem?_cons_succ]; exact rfl
  case q12 => exact fun _ _ _ h => h
  case y12 => exact Or.inr ⟨by rfl, rfl⟩
  simp only [Act.put, List.setIfInBounds_toArray, List.set_cons_zero, List.set_cons_succ]
  refine wpAnyH_take (i := 13) (oi := ?o13) (v := undef) ?i13 (by kernel_rfl) (by kernel_rfl) (by kernel_rfl) ?q13 ?y13 (by assumption) ?r13
  case i13 => simp only [List.getElem?_toArray, List.getElem?_cons_zero, List.getElem?_cons_succ]; exact rfl
  case q13 => exact fun _ _ _ h => h
  case y13 => exact Or.inr ⟨by rfl, rfl⟩
  simp only [Act.put, List.setIfInBounds_toArray, List.set_cons_zero, List.set_cons_succ]
  refine wpAnyH_take (i := 14) (oi := ?o14) (v := undef) ?i14 (by kernel_rfl) (by kernel_rfl) (by kernel_rfl) ?q14 ?y14 (by assumption) ?r14
  case i14 => simp only [List.getElem?_toArray, List.getElem?_cons_zero, List.getElem?_cons_succ]; exact rfl
  case q14 => exact fun _ _ _ h => h
  case y14 => exact Or.inr ⟨by rfl, rfl⟩
  simp only [Act.put, List.setIfInBounds_toArray, List.set_cons_zero, List.set_cons_succ]
  refine wpAnyH_take (i := 15) (oi := ?o15) (v := undef) ?i15 (by kernel_rfl) (by kernel_rfl) (by kernel_rfl) ?q15 ?y15 (by assumption) ?r15
  case i15 => simp only [List.getElem?_toArray, List.getElem?_cons_zero, List.getElem?_cons_succ]; exact rfl
  case q15 => exact fun _ _ _ h => h
  case y15 => exact Or.inr ⟨by rfl, rfl⟩
  simp only [Act.put, List.setIfInBounds_toArray, List.set_cons_zero, List.set_cons_succ]
  refine wpAnyH_take (i := 16) (oi := ?o16) (v := undef) ?i16 (by kernel_rfl) (by kernel_rfl) (by kernel_rfl) ?q16 ?y16 (by assumption) ?r16
  case i16 => simp only [List.getElem?_toArray, List.getElem?_cons_zero, List.getElem?_cons_succ]; exact rfl
  case q16 => exact fun _ _ _ h => h
  case y16 => exact Or.inr ⟨by rfl, rfl⟩
  simp only [Act.put, List.setIfInBounds_toArray, List.set_cons_zero, List.set_cons_succ]
  refine wpAnyH_take (i := 17) (oi := ?o17) (v := undef) ?i17 (by kernel_rfl) (by kernel_rfl) (by kernel_rfl) ?q17 ?y17 (by assumption) ?r17
  case i17 => simp only [List.getElem?_toArray, List.getElem?_cons_zero, List.getElem?_cons_succ]; exact rfl
  case q17 => exact fun _ _ _ h => h
  case y17 => exact Or.inr ⟨by rfl, rfl⟩
  simp only [Act.put, List.setIfInBounds_toArray, List.set_cons_zero, List.set_cons_succ]
  refine wpAnyH_take (i := 18) (oi := ?o18) (v := undef) ?i18 (by kernel_rfl) (by kernel_rfl) (by kernel_rfl) ?q18 ?y18 (by assumption) ?r18
  case i18 => simp only [List.getElem?_toArray, List.getElem?_cons_zero, List.getElem?_cons_succ]; exact rfl
  case q18 => exact fun _ _ _ h => h
  case y18 => exact Or.inr ⟨by rfl, rfl⟩
  simp only [Act.put, List.setIfInBounds_toArray, List.set_cons_zero, List.set_cons_succ]
  refine wpAnyH_take (i := 19) (oi := ?o19) (v := undef) ?i19 (by kernel_rfl) (by kernel_rfl) (by kernel_rfl) ?q19 ?y19 (by assumption) ?r19
  case i19 => simp only [List.getElem?_toArray, List.getElem?_cons_zero, List.getElem?_cons_succ]; exact rfl
  case q19 => exact fun _ _ _ h => h
  case y19 => exact Or.inr ⟨by rfl, rfl⟩
  simp only [Act.put, List.setIfInBounds_toArray, List.set_cons_zero, List.set_cons_succ]
  refine wpAnyH_take (i := 20) (oi := ?o20) (v := ?v20) ?i20 (by kernel_rfl) (by kernel_rfl) (by kernel_rfl) ?q20 ?y20 (by assumption) ?r20
  case i20 => simp only [List.getElem?_toArray, List.getElem?_cons_zero, List.getElem?_cons_succ]; exact rfl
  case q20 => exact fun _ _ _ h => h
  case y20 => exact Or.inl ⟨by rfl, by (intro w' hSw; (try dsimp only at hSw); go_split_ands; go_simp; with_reducible rfl)⟩
  simp only [Act.put, List.setIfInBounds_toArray, List.set_cons_zero, List.set_cons_succ]
  refine wpAnyH_take (i := 21) (oi := ?o21) (v := ?v21) ?i21 (by kernel_rfl) (by kernel_rfl) (by kernel_rfl) ?q21 ?y21 (by assumption) ?r21
  case i21 => simp only [List.getElem?_toArray, List.getElem?_cons_zero, List.getElem?_cons_succ]; exact rfl
  case q21 => exact fun _ _ _ h => h
  case y21 => exact Or.inl ⟨by rfl, by (intro w' hSw; (try dsimp only at hSw); go_split_ands; go_simp; with_reducible rfl)⟩
  simp only [Act.put, List.setIfInBounds_toArray, List.set_cons_zero, List.set_cons_succ]
  refine wpAnyH_take (i := 22) (oi := ?o22) (v := ?v22) ?i22 (by kernel_rfl) (by kernel_rfl) (by kernel_rfl) ?q22 ?y22 (by assumption) ?r22
  case i22 => simp only [List.getElem?_toArray, List.getElem?_cons_zero, List.getElem?_cons_succ]; exact rfl
  case q22 => exact fun _ _ _ h => h
  case y22 => exact Or.inl ⟨by rfl, by (intro w' hSw; (try dsimp only at hSw); go_split_ands; go_simp; with_reducible rfl)⟩
  simp only [Act.put, List.setIfInBounds_toArray, List.set_cons_zero, List.set_cons_succ]
  refine wpAnyH_take (i := 23) (oi := ?o23) (v := ?v23) ?i23 (by kernel_rfl) (by kernel_rfl) (by kernel_rfl) ?q23 ?y23 (by assumption) ?r23
  case i23 => simp only [List.getElem?_toArray, List.getElem?_cons_zero, List.getElem?_cons_succ]; exact rfl
  case q23 => exact fun _ _ _ h => h
  case y23 => exact Or.inl ⟨by rfl, by (intro w' hSw; (try dsimp only at hSw); go_split_ands; go_simp; with_reducible rfl)⟩
  simp only [Act.put, List.setIfInBounds_toArray, List.set_cons_zero, List.set_cons_succ]
  refine wpAnyH_take (i := 24) (oi := ?o24) (v := ?v24) ?i24 (by kernel_rfl) (by kernel_rfl) (by kernel_rfl) ?q24 ?y24 (by assumption) ?r24
  case i24 => simp only [List.getElem?_toArray, List.getElem?_cons_zero, List.getElem?_cons_succ]; exact rfl
  case q24 => exact fun _ _ _ h => h
  case y24 => exact Or.inl ⟨by rfl, by (intro w' hSw; (try dsimp only at hSw); go_split_ands; go_simp; with_reducible rfl)⟩
  simp only [Act.put, List.setIfInBounds_toArray, List.set_cons_zero, List.set_cons_succ]
  refine wpAnyH_take (i := 25) (oi := ?o25) (v := ?v25) ?i25 (by kernel_rfl) (by kernel_rfl) (by kernel_rfl) ?q25 ?y25 (by assumption) ?r25
  case i25 => simp only [List.getElem?_toArray, List.getElem?_cons_zero, List.getElem?_cons_succ]; exact rfl
  case q25 => exact fun _ _ _ h => h
  case y25 => exact Or.inl ⟨by rfl, by (intro w' hSw; (try dsimp only at hSw); go_split_ands; go_simp; with_reducible rfl)⟩
  simp only [Act.put, List.setIfInBounds_toArray, List.set_cons_zero, List.set_cons_succ]
  refine wpAnyH_take (i := 26) (oi := ?o26) (v := ?v26) ?i26 (by kernel_rfl) (by kernel_rfl) (by kernel_rfl) ?q26 ?y26 (by assumption) ?r26
  case i26 => simp only [List.getElem?_toArray, List.getElem?_cons_zero, List.getElem?_cons_succ]; exact rfl
  case q26 => exact fun _ _ _ h => h
  case y26 => exact Or.inl ⟨by rfl, by (intro w' hSw; (try dsimp only at hSw); go_split_ands; go_simp; with_reducible rfl)⟩
  simp only [Act.put, List.setIfInBounds_toArray, List.set_cons_zero, List.set_cons_succ]
  refine wpAnyH_take (i := 27) (oi := ?o27) (v := ?v27) ?i27 (by kernel_rfl) (by kernel_rfl) (by kernel_rfl) ?q27 ?y27 (by assumption) ?r27
  case i27 => simp only [List.getElem?_toArray, List.getElem?_cons_zero, List.getElem?_cons_succ]; exact rfl
  case q27 => exact fun _ _ _ h => h
  case y27 => exact Or.inl ⟨by rfl, by (intro w' hSw; (try dsimp only at hSw); go_split_ands; go_simp; with_reducible rfl)⟩
  simp only [Act.put, List.setIfInBounds_toArray, List.set_cons_zero, List.set_cons_succ]
  refine wpAnyH_take (i := 28) (oi := ?o28) (v := ?v28) ?i28 (by kernel_rfl) (by kernel_rfl) (by kernel_rfl) ?q28 ?y28 (by assumption) ?r28
  case i28 => simp only [List.getElem?_toArray, List.getElem?_cons_zero, List.getElem?_cons_succ]; exact rfl
  case q28 => exact fun _ _ _ h => h
  case y28 => exact Or.inl ⟨by rfl, by (intro w' hSw; (try dsimp only at hSw); go_split_ands; go_simp; with_reducible rfl)⟩
  simp only [Act.put, List.setIfInBounds_toArray, List.set_cons_zero, List.set_cons_succ]
  refine wpAnyH_take (i := 29) (oi := ?o29) (v := ?v29) ?i29 (by kernel_rfl) (by kernel_rfl) (by kernel_rfl) ?q29 ?y29 (by assumption) ?r29
  case i29 => simp only [List.getElem?_toArray, List.getElem?_cons_zero, List.getElem?_cons_succ]; exact rfl
  case q29 => exact fun _ _ _ h => h
  case y29 => exact Or.inl ⟨by rfl, by (intro w' hSw; (try dsimp only at hSw); go_split_ands; go_simp; with_reducible rfl)⟩
  simp only [Act.put, List.setIfInBounds_toArray, List.set_cons_zero, List.set_cons_succ]
  refine wpAnyH_take (i := 30) (oi := ?o30) (v := ?v30) ?i30 (by kernel_rfl) (by kernel_rfl) (by kernel_rfl) ?q30 ?y30 (by assumption) ?r30
  case i30 => simp only [List.getElem?_toArray, List.getElem?_cons_zero, List.getElem?_cons_succ]; exact rfl
  case q30 => exact fun _ _ _ h => h
  case y30 => exact Or.inl ⟨by rfl, by (intro w' hSw; (try dsimp only at hSw); go_split_ands; go_simp; with_reducible rfl)⟩
  simp only [Act.put, List.setIfInBounds_toArray, List.set_cons_zero, List.set_cons_succ]
  refine wpAnyH_take (i := 31) (oi := ?o31) (v := ?v31) ?i31 (by kernel_rfl) (by kernel_rfl) (by kernel_rfl) ?q31 ?y31 (by assumption) ?r31
  case i31 => simp only [List.getElem?_toArray, List.getElem?_cons_zero, List.getElem?_cons_succ]; exact rfl
  case q31 => exact fun _ _ _ h => h
  case y31 => exact Or.inl ⟨by rfl, by (intro w' hSw; (try dsimp only at hSw); go_split_ands; go_simp; with_reducible rfl)⟩
  simp only [Act.put, List.setIfInBounds_toArray, List.set_cons_zero, List.set_cons_succ]
  refine wpAnyH_take (i := 32) (oi := ?o32) (v := ?v32) ?i32 (by kernel_rfl) (by kernel_rfl) (by kernel_rfl) ?q32 ?y32 (by assumption) ?r32
  case i32 => simp only [List.getElem?_toArray, List.getElem?_cons_zero, List.getElem?_cons_succ]; exact rfl
  case q32 => exact fun _ _ _ h => h
  case y32 => exact Or.inl ⟨by rfl, by (intro w' hSw; (try dsimp only at hSw); go_split_ands; go_simp; with_reducible rfl)⟩
  simp only [Act.put, List.setIfInBounds_toArray, List.set_cons_zero, List.set_cons_succ]
  refine wpAnyH_take (i := 33) (oi := ?o33) (v := ?v33) ?i33 (by kernel_rfl) (by kernel_rfl) (by kernel_rfl) ?q33 ?y33 (by assumption) ?r33
  case i33 => simp only [List.getElem?_toArray, List.getElem?_cons_zero, List.getElem?_cons_succ]; exact rfl
  case q33 => exact fun _ _ _ h => h
  case y33 => exact Or.inl ⟨by rfl, by (intro w' hSw; (try dsimp only at hSw); go_split_ands; go_simp; with_reducible rfl)⟩
  simp only [Act.put, List.setIfInBounds_toArray, List.set_cons_zero, List.set_cons_succ]
  refine wpAnyH_take (i := 34) (oi := ?o34) (v := ?v34) ?i34 (by kernel_rfl) (by kernel_rfl) (by kernel_rfl) ?q34 ?y34 (by assumption) ?r34
  case i34 => simp only [List.getElem?_toArray, List.getElem?_cons_zero, List.getElem?_cons_succ]; exact rfl
  case q34 => exact fun _ _ _ h => h
  case y34 => exact Or.inl ⟨by rfl, by (intro w' hSw; (try dsimp only at hSw); go_split_ands; go_simp; with_reducible rfl)⟩
  simp only [Act.put, List.setIfInBounds_toArray, List.set_cons_zero, List.set_cons_succ]
  refine wpAnyH_take (i := 35) (oi := ?o35) (v := ?v35) ?i35 (by kernel_rfl) (by kernel_rfl) (by kernel_rfl) ?q35 ?y35 (by assumption) ?r35
  case i35 => simp only [List.getElem?_toArray, List.getElem?_cons_zero, List.getElem?_cons_succ]; exact rfl
  case q35 => exact fun _ _ _ h => h
  case y35 => exact Or.inl ⟨by rfl, by (intro w' hSw; (try dsimp only at hSw); go_split_ands; go_simp; with_reducible rfl)⟩
  simp only [Act.put, List.setIfInBounds_toArray, List.set_cons_zero, List.set_cons_succ]
  refine wpAnyH_take (i := 36) (oi := ?o36) (v := ?v36) ?i36 (by kernel_rfl) (by kernel_rfl) (by kernel_rfl) ?q36 ?y36 (by assumption) ?r36
  case i36 => simp only [List.getElem?_toArray, List.getElem?_cons_zero, List.getElem?_cons_succ]; exact rfl
  case q36 => exact fun _ _ _ h => h
  case y36 => exact Or.inl ⟨by rfl, by (intro w' hSw; (try dsimp only at hSw); go_split_ands; go_simp; with_reducible rfl)⟩
  simp only [Act.put, List.setIfInBounds_toArray, List.set_cons_zero, List.set_cons_succ]
  refine wpAnyH_ready (rs := [37]) (by kernel_rfl) (by simp) ?_
  refine AllReadyH.cons (o := ?o37) ?i37 (fun K hK => ?_) AllReadyH.nil
  case i37 => simp only [List.getElem?_toArray, List.getElem?_cons_zero, List.getElem?_cons_succ]; exact rfl
  go_simp
  have Xd : Ext w w.drew := (Ext.refl w).drew
  go_at_call 16
  refine (Hcall.out _ Xd).mono ?_
  rintro e w6 ⟨rfl, E6⟩
  have X6 : Ext w w6 := Xd.trans E6
  go_simp
  refine hK.out _ _ (Ext.keep X6) (fun hHeld2 => ?_)
  clear hK K hHeld
  (try simp only [Act.put, List.setIfInBounds_toArray, List.set_cons_zero, List.set_cons_succ])
  refine wpAnyH_take (i := 38) (oi := ?o38) (v := ?v38) ?i38 (by kernel_rfl) (by kernel_rfl) (by kernel_rfl) ?q38 ?y38 (by assumption) ?r38
  case i38 => simp only [List.getElem?_toArray, List.getElem?_cons_zero, List.getElem?_cons_succ]; exact rfl
  case q38 => exact fun _ _ _ h => h
  case y38 => exact Or.inl ⟨by rfl, by (intro w' hSw; (try dsimp only at hSw); go_split_ands; go_simp; with_reducible rfl)⟩
  simp only [Act.put, List.setIfInBounds_toArray, List.set_cons_zero, List.set_cons_succ]
  refine wpAnyH_take (i := 39) (oi := ?o39) (v := ?v39) ?i39 (by kernel_rfl) (by kernel_rfl) (by kernel_rfl) ?q39 ?y39 (by assumption) ?r39
  case i39 => simp only [List.getElem?_toArray, List.getElem?_cons_zero, List.getElem?_cons_succ]; exact rfl
  case q39 => exact fun _ _ _ h => h
  case y39 => exact Or.inl ⟨by rfl, by (intro w' hSw; (try dsimp only at hSw); go_split_ands; go_simp; with_reducible rfl)⟩
  simp only [Act.put, List.setIfInBounds_toArray, List.set_cons_zero, List.set_cons_succ]
  refine wpAnyH_done (by kernel_rfl) ?_ _
  exact HK.out _ _ _ _ _ _ _ _ _ _ _ _ _ _ _ _ _ _ _ _ _ _ _ _ _ _ _ _ _ _ _ _ _ _ _ _ _ _ _ _ X6


set_option maxRecDepth 100000 in
set_option maxHeartbeats 4000000 in
theorem rreg7b {Q0 : Exit → Act → World → Prop} {u2 u3 u4 u6 u9 u10 u11 u12 u13 u14 u15 u16 u17 u18 u19 u20 u21 u22 u23 u24 u25 u26 u27 u28 u29 u30 u31 u32 u33 u34 u35 u36 u37 u38 u39 u40 u41 u42 u43 u44 u45 u46 u47 u48 u49 u50 u51 u52 u53 u54 u55 u56 u57 u58 u59 u60 u61 u62 u63 u64 u65 u66 u67 u68 u69 u70 u71 u72 u73 u74 u75 u76 u77 u78 u79 u80 u81 u82 u83 u84 u85 u86 u87 u88 u89 u90 u91 u92 u93 u94 u95 u96 u97 u98 u99 u100 u101 u102 u103 u104 u105 u106 u107 u108 u109 u110 u111 u112 u113 u114 u115 u116 u117 : Value} {w : World} {b1 off1 n c m bx i Mn Mc b8 off8 b5 off5 xl xc k j : Nat} {pn : Int} {q : Bool} {f : FieldD} {v : ValR}
    (hm : m < n) (hi : i < Mn) (hMn : Mn ≤ 1000000) (hk : k < xl) (hj : k = j + 1) (hxl : xl ≤ 1000000000000)
    (x0 : w.cell? ⟨bx, 0, none⟩ = some (.slice (some ⟨b5, off5, none⟩) xl xc)) (s1 : w.cell? ⟨b1, off1 + m * 2 + 1, none⟩ = some (.slice (some ⟨b8, off8, none⟩) Mn Mc))
    (g0 : w.cell? ⟨b8, off8 + i * 6, none⟩ = some (.string f.name)) (g1 : w.cell? ⟨b8, off8 + i * 6 + 1, none⟩ = some (.int .i64 f.number)) (g2 : w.cell? ⟨b8, off8 + i * 6 + 2, none⟩ = some (.int .i64 f.kind)) (g3 : w.cell? ⟨b8, off8 + i * 6 + 3, none⟩ = some (.bool f.rep)) (g4 : w.cell? ⟨b8, off8 + i * 6 + 4, none⟩ = some (.bool f.packed)) (g5 : w.cell? ⟨b8, off8 + i * 6 + 5, none⟩ = some (.int .i64 f.of_))
    (e0 : w.cell? ⟨b5, off5 + k * 4, none⟩ = some (.int .i64 v.number)) (e1 : w.cell? ⟨b5, off5 + k * 4 + 1, none⟩ = some (.slice v.a.1 v.words.length v.a.2)) (e2 : w.cell? ⟨b5, off5 + k * 4 + 2, none⟩ = some (.slice v.b.1 v.texts.length v.b.2)) (e3 : w.cell? ⟨b5, off5 + k * 4 + 3, none⟩ = some (.slice v.c.1 v.subs.length v.c.2)) (p0 : w.cell? ⟨b5, off5 + j * 4, none⟩ = some (.int .i64 pn)) (hle : decide (v.number ≤ pn) = false) 
    (h1 : b1 < w.heap.size) (h8 : b8 < w.heap.size) (h5 : b5 < w.heap.size) (hx : bx < w.heap.size)
    (Hcall : Hid (∀ W, Ext w W → Calls Tryz.prog 16 #[.slice (some ⟨b1, off1, none⟩) n c, .agg #[.string f.name, .int .i64 f.number, .int .i64 f.kind, .bool f.rep, .bool f.packed, .int .i64 f.of_], .agg #[.int .i64 v.number, .slice v.a.1 v.words.length v.a.2, .slice v.b.1 v.texts.length v.b.2, .slice v.c.1 v.subs.length v.c.2]] W fun e W' => e = .returned (.bool q) ∧ Ext W W'))
    (hK : ∀ (v38 v39 v40 v41 v42 v43 v44 v45 v46 v47 v48 v49 v50 v51 v52 v53 v54 v55 v56 v57 v58 v59 v60 v61 v62 v63 v64 v65 v66 v67 v68 v69 v70 v71 v72 v73 v74 v75 v76 : Value) (wz : World), Ext w wz → Q0 .normal ⟨#[.slice (some ⟨b1, off1, none⟩) n c, .int .i64 (m : Int), u2, u3, u4, .pointer (some ⟨bx, 0, none⟩), u6, .int .i64 (k : Int), .int .i64 (i : Int), u9, u10, u11, u12, u13, u14, u15, u16, u17, u18, u19, u20, u21, u22, u23, u24, u25, u26, u27, u28, u29, u30, u31, u32, u33, u34, u35, u36, u37, v38, v39, v40, v41, v42, v43, v44, v45, v46, v47, v48, v49, v50, v51, v52, v53, v54, v55, v56, v57, v58, v59, v60, v61, v62, v63, v64, v65, v66, v67, v68, v69, v70, v71, v72, v73, v74, v75, v76, .bool (!q), u78, u79, u80, u81, u82, u83, u84, u85, u86, u87, u88, u89, u90, u91, u92, u93, u94, u95, u96, u97, u98, u99, u100, u101, u102, u103, u104, u105, u106, u107, u108, u109, u110, u111, u112, u113, u114, u115, u116, u117], []⟩ wz) :
    Code.wp Tryz.prog (regR 7) (calmQ Q0) ⟨#[.slice (some ⟨b1, off1, none⟩) n c, .int .i64 (m : Int), u2, u3, u4, .pointer (some ⟨bx, 0, none⟩), u6, .int .i64 (k : Int), .int .i64 (i : Int), u9, u10, u11, u12, u13, u14, u15, u16, u17, u18, u19, u20, u21, u22, u23, u24, u25, u26, u27, u28, u29, u30, u31, u32, u33, u34, u35, u36, u37, u38, u39, u40, u41, u42, u43, u44, u45, u46, u47, u48, u49, u50, u51, u52, u53, u54, u55, u56, u57, u58, u59, u60, u61, u62, u63, u64, u65, u66, u67, u68, u69, u70, u71, u72, u73, u74, u75, u76, u77, u78, u79, u80, u81, u82, u83, u84, u85, u86, u87, u88, u89, u90, u91, u92, u93, u94, u95, u96, u97, u98, u99, u100, u101, u102, u103, u104, u105, u106, u107, u108, u109, u110, u111, u112, u113, u114, u115, u116, u117], []⟩ w := by
  have mI : (m : Int) < n := by omega
  have iI : (i : Int) < Mn := by omega
  have iN : decide ((i : Int) < 0) = false := by rw [decide_eq_false_iff_not]; omega
  have kI : (k : Int) < xl := by omega
  have jI : (j : Int) < xl := by omega
  have kP : decide ((0 : Int) < (k : Int)) = true := by rw [decide_eq_true_iff]; omega
  have kP2 : decide (0 < k) = true := by rw [decide_eq_true_iff]; omega
  have jw : IntKind.i64.wrap ((k : Int) - 1) = (j : Int) := by rw [IntWalk.i64_in _ (by omega)]; omega
  clear hj
  have jw2 : IntKind.i64.wrap (j : Int) = (j : Int) := IntWalk.i64_in _ (by omega)
  have HK := Lib.hid hK
  clear hK
  conv => arg 2; whnf
  have Xw : Ext w w := Ext.refl w
  go_region_held3 (fun W => Ext w W ∧ ∀ b o, b < w.heap.size → W.cell? ⟨b, o, none⟩ = w.cell? ⟨b, o, none⟩) ((refine Ext.keep ?_; repeat with_reducible (first | assumption | exact Ext.refl _ | refine Ext.alloc ?_ _ | refine Ext.drew ?_ | refine Ext.drewN ?_ _ | refine Ext.setCell ?_ (by first | exact Nat.le_refl _ | omega | (simp; done) | (simp; omega)) _))) (first
    | (go_split_ands; go_at_call 16; refine (Hcall.out _ (by with_reducible assumption)).mono ?_; rintro e w6 ⟨rfl, E6⟩; have X6 : Ext w w6 := Ext.trans (by with_reducible assumption) E6))
  go_simp
  exact HK.out _ _ _ _ _ _ _ _ _ _ _ _ _ _ _ _ _ _ _ _ _ _ _ _ _ _ _ _ _ _ _ _ _ _ _ _ _ _ _ _ X6


end Go.Proofs.YtgjhglehghjoeaaGreat
