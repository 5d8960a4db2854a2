/- The drawn regions of the reference's Of, as laws of their own. -/
import Derived.Test.YtpicpebolghcfaaGreatDoorQjW14p
import Derived.Test.YtpicpebolghcfaaGreatDoorQjS14o
import Derived.Deep.DeepCutAuto

namespace Go.Proofs.YtpicpebolghcfaaGreatDoor
open Go.RowKit Go.Shelf
set_option linter.unusedVariables false

def regionOf (n : Nat) : Code → Option Code
  | .region i ops d => if i = n then some (.region i ops d) else none
  | .loop c => regionOf n c
  | .seq a b => match regionOf n a with
    | some c => some c
    | none => regionOf n b
  | .block _ c => regionOf n c
  | .scope c => regionOf n c
  | .cond _ a b => match regionOf n a with
    | some c => some c
    | none => regionOf n b
  | _ => none

def calmQ (Q : Exit → Act → World → Prop) : Exit → Act → World → Prop
  | .panic x, a, w => a.defers = [] ∧ Q (.panic x) ⟨#[], []⟩ w
  | e, a, w => Q e a w

theorem calm {P : Program} {c : Code} {Q : Exit → Act → World → Prop} {a : Act} {w : World} (hq : ∀ x a w, a.defers = [] → Q (.panic x) ⟨#[], []⟩ w → Q (.panic x) a w) (h : c.wp P (calmQ Q) a w) : c.wp P Q a w :=
  Code.wp_mono (fun e a w h => by
    cases e
    all_goals first | exact h | exact hq _ _ _ h.1 h.2) h

noncomputable def regO (n : Nat) : Code := ((Tryz.f11.body.bind (regionOf n)).getD .skip)

structure RUnk (w w9 wr : World) (bx : Nat) (bs : List UInt8) (L : List ViewD) (V : Option Addr) (vn vc k : Nat) (U : Option Addr) (un uc : Nat) : Prop where
  x : BlkT wr bx 40 #[.slice V vn vc, .slice U un uc]
  unk : Own w wr 9 1 U un uc ((unkO bs (L.take k)).map strV)
  unL : un = (unkO bs (L.take k)).length
  unew : ∀ b, (Value.slice U 0 0).ownBlock = some b → w9.heap.size ≤ b
  stays : Stays (fun b => b ≠ bx) w9 wr

theorem RUnk.step {w w9 wr : World} {bx : Nat} {bs : List UInt8} {L : List ViewD} {V : Option Addr} {vn vc k : Nat} {U : Option Addr} {un uc : Nat} (h : RUnk w w9 wr bx bs L V vn vc k U un uc) (hb : w.heap.size ≤ bx) (h9 : bx < w9.heap.size) {v : ViewD} (hv : L[k]? = some v) (hneg : v.field < 0) {W0 : World} (X : Ext wr W0) {ob : Obj} {A7 : Option Addr} {c7 : Nat} {w7 : World}
    (own7 : Own w w7 9 1 A7 (un + 1) c7 ((unkO bs (L.take k)).map strV ++ [.string ⟨(spanB bs v.r.f v.r.t).toArray⟩])) (g7 : (W0.alloc ob).grownBy w7 (Value.slice U un uc).ownBlock) (m7 : Moved (W0.alloc ob) U A7) :
    RUnk w w9 (w7.setCell ⟨bx, 1, none⟩ (.slice A7 (un + 1) c7)) bx bs L V vn vc (k + 1) A7 (un + 1) c7 := by
  have hX : Ext wr (W0.alloc ob) := X.alloc ob
  have hu := h.unk.up hX
  have B7 := (h.x.up hX).beside hu (by decide) g7
  have hsz := h.stays.size
  have hsz2 := hX.size
  have hfar := own7.far B7 (by decide) hb 1 (.slice A7 (un + 1) c7)
  refine ⟨B7.set_ 1 _, ?_, ?_, fun b hb => ?_, ?_⟩
  · rw [unkO_yes hv hneg, List.map_append]
    exact hfar
  · rw [unkO_yes hv hneg, List.length_append, ← h.unL]
    rfl
  · rcases m7 with q | q
    · rw [q] at hb
      exact h.unew b hb
    · rw [q] at hb
      injection hb with hb
      omega
  · have hS0 : Stays (fun b => (Value.slice U 0 0).ownBlock ≠ some b ∧ b ≠ bx) (W0.alloc ob) (w7.setCell ⟨bx, 1, none⟩ (.slice A7 (un + 1) c7)) :=
      (Stays.grown g7 (fun b hb q => q.1 (by rw [ownBlock_any U un uc 0 0] at hb; exact hb))).set (fun q => q.2 rfl) _
    refine ⟨Nat.le_trans hsz (Nat.le_trans hsz2 hS0.size), fun b hb hlt2 => ?_⟩
    rw [hS0.block b ⟨fun q => ?_, hb⟩ (by omega), hX.block b (by omega), h.stays.block b hb hlt2]
    have := h.unew b q
    omega





set_option maxRecDepth 100000 in
set_option maxHeartbeats 4000000 in
theorem reg38 {Q0 : Exit → Act → World → Prop} {u0 u1 u3 u4 u5 u6 u8 u9 u11 u12 u13 u14 u15 u16 u17 u18 u19 u20 u21 u22 u24 u25 u26 u27 u28 u29 u30 u31 u32 u33 u34 u35 u36 u37 u38 u39 u40 u41 u42 u43 u44 u45 u46 u47 u48 u49 u50 u51 u52 u53 u54 u55 u56 u57 u58 u59 u60 u61 u62 u63 u64 u65 u66 u67 u68 u69 u70 u71 u72 u73 u74 u75 u76 u77 u78 u79 u80 u81 u82 u83 u84 u85 u86 u87 u88 u89 u90 u91 u92 u93 u94 u95 u96 u97 u98 u99 u100 u101 u102 u103 u104 u105 u106 u107 u108 u109 u110 u111 u112 u113 u114 u115 u116 u117 u118 u119 u120 u121 u122 u123 u124 u125 u126 u127 u128 u129 u130 u131 u132 u133 u134 u135 u136 u137 u138 u139 u140 u141 u142 u143 u144 u145 u146 u147 u148 u149 u150 u151 u152 u153 u154 u155 u156 u157 u158 u159 u160 u161 u162 u163 u164 u165 u166 u167 u168 u169 u170 u171 u172 u173 u174 u175 u176 u177 u178 u179 u180 u181 u182 u183 u184 u185 u186 u187 u188 u189 u190 u191 u192 u193 u194 u195 u196 u197 u198 u199 u200 u201 u202 u203 u204 u205 u206 u207 u208 u209 u210 u211 u212 u213 u214 u215 u216 u217 u218 u219 u220 : Value} {w w9 wq : World} {A : Option Addr} {n c b5 off5 ln c1 bx k : Nat} {bs : List UInt8} {L : List ViewD} {V : Option Addr} {vn vc : Nat} {U : Option Addr} {un uc : Nat} {v : ViewD}
    (Hu : Hid (RUnk w w9 wq bx bs L V vn vc k U un uc)) (hb0 : w.heap.size ≤ bx) (h9 : bx < w9.heap.size) (hv : Hid (L[k]? = some v)) (hneg : v.field < 0) (Hb : Hid (BytesAt wq A n c bs)) (hn : n ≤ 100000) (hft : v.r.f ≤ v.r.t) (htn : v.r.t ≤ n) (hk : k < ln) (hln : ln ≤ 100000) (hun : un ≤ 100000) (hb5 : b5 < wq.heap.size)
    (e2 : wq.cell? ⟨b5, off5 + k * 7 + 2, none⟩ = some (.int .i64 (v.r.f : Int))) (e4 : wq.cell? ⟨b5, off5 + k * 7 + 4, none⟩ = some (.int .i64 (v.r.t : Int)))
    (hK : ∀ (v200 v201 v202 v203 v204 v205 v206 v207 v208 v209 v210 v211 v212 v213 v214 v215 v216 v217 v218 v219 : Value) (A7 : Option Addr) (c7 : Nat) (wz : World), RUnk w w9 wz bx bs L V vn vc (k + 1) A7 (un + 1) c7 → Q0 .normal ⟨#[u0, u1, .slice A n c, u3, u4, u5, u6, .slice (some ⟨b5, off5, none⟩) ln c1, u8, u9, .pointer (some ⟨bx, 0, none⟩), u11, u12, u13, u14, u15, u16, u17, u18, u19, u20, u21, u22, .int .i64 (k : Int), u24, u25, u26, u27, u28, u29, u30, u31, u32, u33, u34, u35, u36, u37, u38, u39, u40, u41, u42, u43, u44, u45, u46, u47, u48, u49, u50, u51, u52, u53, u54, u55, u56, u57, u58, u59, u60, u61, u62, u63, u64, u65, u66, u67, u68, u69, u70, u71, u72, u73, u74, u75, u76, u77, u78, u79, u80, u81, u82, u83, u84, u85, u86, u87, u88, u89, u90, u91, u92, u93, u94, u95, u96, u97, u98, u99, u100, u101, u102, u103, u104, u105, u106, u107, u108, u109, u110, u111, u112, u113, u114, u115, u116, u117, u118, u119, u120, u121, u122, u123, u124, u125, u126, u127, u128, u129, u130, u131, u132, u133, u134, u135, u136, u137, u138, u139, u140, u141, u142, u143, u144, u145, u146, u147, u148, u149, u150, u151, u152, u153, u154, u155, u156, u157, u158, u159, u160, u161, u162, u163, u164, u165, u166, u167, u168, u169, u170, u171, u172, u173, u174, u175, u176, u177, u178, u179, u180, u181, u182, u183, u184, u185, u186, u187, u188, u189, u190, u191, u192, u193, u194, u195, u196, u197, u198, u199, v200, v201, v202, v203, v204, v205, v206, v207, v208, v209, v210, v211, v212, v213, v214, v215, v216, v217, v218, v219, u220], []⟩ wz) :
    Code.wp Tryz.prog (regO 38) (calmQ Q0) ⟨#[u0, u1, .slice A n c, u3, u4, u5, u6, .slice (some ⟨b5, off5, none⟩) ln c1, u8, u9, .pointer (some ⟨bx, 0, none⟩), u11, u12, u13, u14, u15, u16, u17, u18, u19, u20, u21, u22, .int .i64 (k : Int), u24, u25, u26, u27, u28, u29, u30, u31, u32, u33, u34, u35, u36, u37, u38, u39, u40, u41, u42, u43, u44, u45, u46, u47, u48, u49, u50, u51, u52, u53, u54, u55, u56, u57, u58, u59, u60, u61, u62, u63, u64, u65, u66, u67, u68, u69, u70, u71, u72, u73, u74, u75, u76, u77, u78, u79, u80, u81, u82, u83, u84, u85, u86, u87, u88, u89, u90, u91, u92, u93, u94, u95, u96, u97, u98, u99, u100, u101, u102, u103, u104, u105, u106, u107, u108, u109, u110, u111, u112, u113, u114, u115, u116, u117, u118, u119, u120, u121, u122, u123, u124, u125, u126, u127, u128, u129, u130, u131, u132, u133, u134, u135, u136, u137, u138, u139, u140, u141, u142, u143, u144, u145, u146, u147, u148, u149, u150, u151, u152, u153, u154, u155, u156, u157, u158, u159, u160, u161, u162, u163, u164, u165, u166, u167, u168, u169, u170, u171, u172, u173, u174, u175, u176, u177, u178, u179, u180, u181, u182, u183, u184, u185, u186, u187, u188, u189, u190, u191, u192, u193, u194, u195, u196, u197, u198, u199, u200, u201, u202, u203, u204, u205, u206, u207, u208, u209, u210, u211, u212, u213, u214, u215, u216, u217, u218, u219, u220], []⟩ wq := by
  have x1 : wq.cell? ⟨bx, 1, none⟩ = some (.slice U un uc) := Hu.out.x.cell 1
  have xf := Hu.out.x.free 1
  have xl := Hu.out.x.lt
  have hltI : (k : Int) < ln := by omega
  obtain ⟨A9, run9, hb9v⟩ := spanB_at10 Hb.out (l := v.r.f) (m := v.r.t) hft htn
  have cv : (convert 24 9 (.slice A9 (v.r.t - v.r.f) (c - v.r.f))).run Tryz.prog wq.drew = .ok (.string ⟨(spanB bs v.r.f v.r.t).toArray⟩) wq.drew := BytesAt.convert (hb9v.up (by repeat with_reducible (first | exact Ext.refl _ | refine Ext.alloc ?_ _ | refine Ext.drew ?_ | refine Ext.drewN ?_ _ | refine Ext.setCell ?_ (by first | exact Nat.le_refl _ | omega | (simp; done) | (simp; omega)) _))) 24 5 9 Tryz.underlying24 Tryz.underlying5 Tryz.underlying9
  have HK := Lib.hid hK
  clear hK hb9v
  conv => arg 2; whnf
  go_region_law (first
    | (refine step_moreW elemStr (by rfl) (.tmp 201) (.tmp 217) (by rfl) (by rfl) ((Hu.out.unk.alloc _).drew) (by rfl) ((reads_one wq (.string ⟨(spanB bs v.r.f v.r.t).toArray⟩) 9 rfl).ext (Ext.refl _).drew) (by simp [Value.oneCell']) (by omega) (by unfold maxLen; omega) ?_; intro A7 c7 w7 own7 g7 m7; have B7 := ((Hu.out.x.alloc _).drew).beside ((Hu.out.unk.alloc _).drew) (by decide) g7; have z7 : w7.cell? ⟨bx, 1, none⟩ = some (.slice U un uc) := B7.cell 1; have zf := B7.free 1; have zl := B7.lt))
  all_goals
    go_simp
    exact HK.out _ _ _ _ _ _ _ _ _ _ _ _ _ _ _ _ _ _ _ _ A7 c7 _ (Hu.out.step hb0 h9 hv.out hneg (Ext.refl wq).drew own7 g7 m7)


set_option maxRecDepth 100000 in
set_option maxHeartbeats 4000000 in
theorem reg7 {Q0 : Exit → Act → World → Prop} {u2 u3 u4 u5 u6 u7 u8 u9 u10 u13 u14 u15 u16 u17 u18 u19 u20 u21 u22 u23 u24 u25 u26 u27 u28 u29 u30 u31 u32 u33 u34 u35 u36 u37 u38 u39 u40 u41 u42 u43 u44 u45 u46 u47 u48 u49 u50 u51 u52 u53 u54 u55 u56 u57 u58 u59 u60 u61 u62 u63 u64 u65 u66 u67 u68 u69 u70 u71 u72 u73 u74 u75 u76 u77 u78 u79 u80 u81 u82 u83 u84 u85 u86 u87 u88 u89 u90 u91 u92 u93 u94 u95 u96 u97 u98 u99 u100 u101 u102 u103 u104 u105 u106 u107 u108 u109 u110 u111 u112 u113 u114 u115 u116 u117 u118 u119 u120 u121 u122 u123 u124 u125 u126 u127 u128 u129 u130 u131 u132 u133 u134 u135 u136 u137 u138 u139 u140 u141 u142 u143 u144 u145 u146 u147 u148 u149 u150 u151 u152 u153 u154 u155 u156 u157 u158 u159 u160 u161 u162 u163 u164 u165 u166 u167 u168 u169 u170 u171 u172 u173 u174 u175 u176 u177 u178 u179 u180 u181 u182 u183 u184 u185 u186 u187 u188 u189 u190 u191 u192 u193 u194 u195 u196 u197 u198 u199 u200 u201 u202 u203 u204 u205 u206 u207 u208 u209 u210 u211 u212 u213 u214 u215 u216 u217 u218 u219 u220 : Value} {wr : World} {b1 off1 sn sc m b9 off9 Mn c6 j b8 off8 Mc i : Nat} {f : FieldD}
    (hm : m < sn) (hj : j < Mn) (hi : i < Mn) (hsn : sn ≤ 1000000) (hMn : Mn ≤ 1000000) (s1 : wr.cell? ⟨b1, off1 + m * 2 + 1, none⟩ = some (.slice (some ⟨b8, off8, none⟩) Mn Mc)) (e9 : wr.cell? ⟨b9, off9 + j, none⟩ = some (.int .i64 (i : Int)))
    (g0 : wr.cell? ⟨b8, off8 + i * 6, none⟩ = some (.string f.name)) (g1 : wr.cell? ⟨b8, off8 + i * 6 + 1, none⟩ = some (.int .i64 f.number)) (g2 : wr.cell? ⟨b8, off8 + i * 6 + 2, none⟩ = some (.int .i64 f.kind)) (g3 : wr.cell? ⟨b8, off8 + i * 6 + 3, none⟩ = some (.bool f.rep)) (g4 : wr.cell? ⟨b8, off8 + i * 6 + 4, none⟩ = some (.bool f.packed)) (g5 : wr.cell? ⟨b8, off8 + i * 6 + 5, none⟩ = some (.int .i64 f.of_))
    (h1 : b1 < wr.heap.size) (h8 : b8 < wr.heap.size) (h9 : b9 < wr.heap.size)
    (hK : ∀ (v45 v46 v47 v48 v49 v50 v51 v52 v53 v54 v55 : Value) (wz : World), Ext wr wz → wz.heap.size = wr.heap.size + 1 → BlkT wz wr.heap.size 43 #[.string f.name, .int .i64 f.number, .int .i64 f.kind, .bool f.rep, .bool f.packed, .int .i64 f.of_] → Q0 .normal ⟨#[.slice (some ⟨b1, off1, none⟩) sn sc, .int .i64 (m : Int), u2, u3, u4, u5, u6, u7, u8, u9, u10, .slice (some ⟨b9, off9, none⟩) Mn c6, .int .i64 (j : Int), .pointer (some ⟨wr.heap.size, 0, none⟩), u14, u15, u16, u17, u18, u19, u20, u21, u22, u23, u24, u25, u26, u27, u28, u29, u30, u31, u32, u33, u34, u35, u36, u37, u38, u39, u40, u41, u42, u43, u44, v45, v46, v47, v48, v49, v50, v51, v52, v53, v54, v55, u56, u57, u58, u59, u60, u61, u62, u63, u64, u65, u66, u67, u68, u69, u70, u71, u72, u73, u74, u75, u76, u77, u78, u79, u80, u81, u82, u83, u84, u85, u86, u87, u88, u89, u90, u91, u92, u93, u94, u95, u96, u97, u98, u99, u100, u101, u102, u103, u104, u105, u106, u107, u108, u109, u110, u111, u112, u113, u114, u115, u116, u117, u118, u119, u120, u121, u122, u123, u124, u125, u126, u127, u128, u129, u130, u131, u132, u133, u134, u135, u136, u137, u138, u139, u140, u141, u142, u143, u144, u145, u146, u147, u148, u149, u150, u151, u152, u153, u154, u155, u156, u157, u158, u159, u160, u161, u162, u163, u164, u165, u166, u167, u168, u169, u170, u171, u172, u173, u174, u175, u176, u177, u178, u179, u180, u181, u182, u183, u184, u185, u186, u187, u188, u189, u190, u191, u192, u193, u194, u195, u196, u197, u198, u199, u200, u201, u202, u203, u204, u205, u206, u207, u208, u209, u210, u211, u212, u213, u214, u215, u216, u217, u218, u219, u220], []⟩ wz) :
    Code.wp Tryz.prog (regO 7) (calmQ Q0) ⟨#[.slice (some ⟨b1, off1, none⟩) sn sc, .int .i64 (m : Int), u2, u3, u4, u5, u6, u7, u8, u9, u10, .slice (some ⟨b9, off9, none⟩) Mn c6, .int .i64 (j : Int), u13, u14, u15, u16, u17, u18, u19, u20, u21, u22, u23, u24, u25, u26, u27, u28, u29, u30, u31, u32, u33, u34, u35, u36, u37, u38, u39, u40, u41, u42, u43, u44, u45, u46, u47, u48, u49, u50, u51, u52, u53, u54, u55, u56, u57, u58, u59, u60, u61, u62, u63, u64, u65, u66, u67, u68, u69, u70, u71, u72, u73, u74, u75, u76, u77, u78, u79, u80, u81, u82, u83, u84, u85, u86, u87, u88, u89, u90, u91, u92, u93, u94, u95, u96, u97, u98, u99, u100, u101, u102, u103, u104, u105, u106, u107, u108, u109, u110, u111, u112, u113, u114, u115, u116, u117, u118, u119, u120, u121, u122, u123, u124, u125, u126, u127, u128, u129, u130, u131, u132, u133, u134, u135, u136, u137, u138, u139, u140, u141, u142, u143, u144, u145, u146, u147, u148, u149, u150, u151, u152, u153, u154, u155, u156, u157, u158, u159, u160, u161, u162, u163, u164, u165, u166, u167, u168, u169, u170, u171, u172, u173, u174, u175, u176, u177, u178, u179, u180, u181, u182, u183, u184, u185, u186, u187, u188, u189, u190, u191, u192, u193, u194, u195, u196, u197, u198, u199, u200, u201, u202, u203, u204, u205, u206, u207, u208, u209, u210, u211, u212, u213, u214, u215, u216, u217, u218, u219, u220], []⟩ wr := by
  have hmI : (m : Int) < sn := by omega
  have hjI : (j : Int) < Mn := by omega
  have hiI : (i : Int) < Mn := by omega
  have HK := Lib.hid hK
  clear hK
  conv => arg 2; whnf
  go_region_law (fail)
  all_goals
    go_simp
    exact HK.out _ _ _ _ _ _ _ _ _ _ _ _ ((Ext.refl wr).alloc _).drew (by simp) (BlkT.new _ _ _ rfl).drew


set_option maxRecDepth 100000 in
set_option maxHeartbeats 4000000 in
theorem reg27 {Q0 : Exit → Act → World → Prop} {u1 u2 u3 u4 u5 u6 u7 u8 u9 u10 u11 u12 u15 u16 u17 u19 u20 u21 u22 u23 u24 u25 u26 u27 u28 u29 u30 u31 u32 u33 u34 u35 u36 u37 u38 u39 u40 u41 u42 u43 u44 u45 u46 u47 u48 u49 u50 u51 u52 u53 u54 u55 u56 u57 u58 u59 u60 u61 u62 u63 u64 u65 u66 u67 u68 u69 u70 u71 u72 u73 u74 u75 u76 u77 u78 u79 u80 u81 u82 u83 u84 u85 u86 u87 u88 u89 u90 u91 u92 u93 u94 u95 u96 u97 u98 u99 u100 u101 u102 u103 u104 u105 u106 u107 u108 u109 u110 u111 u112 u113 u114 u115 u116 u117 u118 u119 u120 u121 u122 u123 u124 u125 u126 u127 u128 u129 u130 u131 u132 u133 u134 u135 u136 u137 u138 u139 u140 u141 u142 u143 u144 u145 u146 u147 u148 u149 u150 u151 u152 u153 u154 u155 u156 u157 u158 u159 u160 u161 u162 u163 u164 u165 u166 u167 u168 u169 u170 u171 u172 u173 u174 u175 u176 u177 u178 u179 u180 u181 u182 u183 u184 u185 u186 u187 u188 u189 u190 u191 u192 u193 u194 u195 u196 u197 u198 u199 u200 u201 u202 u203 u204 u205 u206 u207 u208 u209 u210 u211 u212 u213 u214 u215 u216 u217 u218 u219 u220 : Value} {w1 wq : World} {b1 off1 sn sc nv cv : Nat} {A9 : Option Addr} {f : FieldD} {M0 : MsgT} {ws : List Nat} {ts : List ByteArray} {js : List UInt8} {zs : List MsgR} {W : Option Addr} {wn wc : Nat} {T : Option Addr} {tn tc : Nat} {X : Option Addr} {xn xc : Nat} {J : Option Addr} {jn jc : Nat}
    (Hin : Hid (RIn w1 wq f ws ts js zs W wn wc T tn tc X xn xc J jn jc)) (hxn : xn ≤ 1000000)
    (Hcall : Hid (∀ W, Ext wq W → Calls Tryz.prog 11 #[.slice (some ⟨b1, off1, none⟩) sn sc, .int .i64 f.of_, .slice A9 nv cv] W fun e w' => ∃ y : MsgR, e = .returned (.agg #[.slice y.a.1 y.vals.length y.a.2, .slice y.b.1 y.unk.length y.b.2]) ∧ bare y = M0 ∧ TreeAt w' y ∧ (∀ b, UsesT y b → W.heap.size ≤ b) ∧ Ext W w'))
    (hK : ∀ (v144 v145 v146 v147 v148 v149 v150 v151 v152 v153 : Value) (y : MsgR) (A6 : Option Addr) (c6 : Nat) (wz : World), bare y = M0 → RIn w1 wz f ws ts js (zs ++ [y]) W wn wc T tn tc A6 (xn + 1) c6 J jn jc → Q0 .normal ⟨#[.slice (some ⟨b1, off1, none⟩) sn sc, u1, u2, u3, u4, u5, u6, u7, u8, u9, u10, u11, u12, .pointer (some ⟨w1.heap.size, 0, none⟩), .pointer (some ⟨w1.heap.size + 1, 0, none⟩), u15, u16, u17, .slice A9 nv cv, u19, u20, u21, u22, u23, u24, u25, u26, u27, u28, u29, u30, u31, u32, u33, u34, u35, u36, u37, u38, u39, u40, u41, u42, u43, u44, u45, u46, u47, u48, u49, u50, u51, u52, u53, u54, u55, u56, u57, u58, u59, u60, u61, u62, u63, u64, u65, u66, u67, u68, u69, u70, u71, u72, u73, u74, u75, u76, u77, u78, u79, u80, u81, u82, u83, u84, u85, u86, u87, u88, u89, u90, u91, u92, u93, u94, u95, u96, u97, u98, u99, u100, u101, u102, u103, u104, u105, u106, u107, u108, u109, u110, u111, u112, u113, u114, u115, u116, u117, u118, u119, u120, u121, u122, u123, u124, u125, u126, u127, u128, u129, u130, u131, u132, u133, u134, u135, u136, u137, u138, u139, u140, u141, u142, u143, v144, v145, v146, v147, v148, v149, v150, v151, v152, v153, u154, u155, u156, u157, u158, u159, u160, u161, u162, u163, u164, u165, u166, u167, u168, u169, u170, u171, u172, u173, u174, u175, u176, u177, u178, u179, u180, u181, u182, u183, u184, u185, u186, u187, u188, u189, u190, u191, u192, u193, u194, u195, u196, u197, u198, u199, u200, u201, u202, u203, u204, u205, u206, u207, u208, u209, u210, u211, u212, u213, u214, u215, u216, u217, u218, u219, u220], []⟩ wz) :
    Code.wp Tryz.prog (regO 27) (calmQ Q0) ⟨#[.slice (some ⟨b1, off1, none⟩) sn sc, u1, u2, u3, u4, u5, u6, u7, u8, u9, u10, u11, u12, .pointer (some ⟨w1.heap.size, 0, none⟩), .pointer (some ⟨w1.heap.size + 1, 0, none⟩), u15, u16, u17, .slice A9 nv cv, u19, u20, u21, u22, u23, u24, u25, u26, u27, u28, u29, u30, u31, u32, u33, u34, u35, u36, u37, u38, u39, u40, u41, u42, u43, u44, u45, u46, u47, u48, u49, u50, u51, u52, u53, u54, u55, u56, u57, u58, u59, u60, u61, u62, u63, u64, u65, u66, u67, u68, u69, u70, u71, u72, u73, u74, u75, u76, u77, u78, u79, u80, u81, u82, u83, u84, u85, u86, u87, u88, u89, u90, u91, u92, u93, u94, u95, u96, u97, u98, u99, u100, u101, u102, u103, u104, u105, u106, u107, u108, u109, u110, u111, u112, u113, u114, u115, u116, u117, u118, u119, u120, u121, u122, u123, u124, u125, u126, u127, u128, u129, u130, u131, u132, u133, u134, u135, u136, u137, u138, u139, u140, u141, u142, u143, u144, u145, u146, u147, u148, u149, u150, u151, u152, u153, u154, u155, u156, u157, u158, u159, u160, u161, u162, u163, u164, u165, u166, u167, u168, u169, u170, u171, u172, u173, u174, u175, u176, u177, u178, u179, u180, u181, u182, u183, u184, u185, u186, u187, u188, u189, u190, u191, u192, u193, u194, u195, u196, u197, u198, u199, u200, u201, u202, u203, u204, u205, u206, u207, u208, u209, u210, u211, u212, u213, u214, u215, u216, u217, u218, u219, u220], []⟩ wq := by
  have V3 : wq.cell? ⟨w1.heap.size + 1, 3, none⟩ = some (.slice X xn xc) := Hin.out.val.cell 3
  have F5 : wq.cell? ⟨w1.heap.size, 5, none⟩ = some (.int .i64 f.of_) := Hin.out.fld.cell 5
  have f3 := Hin.out.val.free 3
  have vl := Hin.out.val.lt
  have fl := Hin.out.fld.lt
  have HK := Lib.hid hK
  clear hK
  conv => arg 2; whnf
  go_region_law (first
    | (go_simp; go_at_call 11; refine (Hcall.out _ (by repeat with_reducible (first | exact Ext.refl _ | refine Ext.alloc ?_ _ | refine Ext.drew ?_ | refine Ext.drewN ?_ _ | refine Ext.setCell ?_ (by first | exact Nat.le_refl _ | omega | (simp; done) | (simp; omega)) _))).mono ?_; rintro e w5 ⟨y, rfl, hb', hT', hU', E5⟩; have X5 : Ext wq w5 := Ext.trans (by repeat with_reducible (first | exact Ext.refl _ | refine Ext.alloc ?_ _ | refine Ext.drew ?_ | refine Ext.drewN ?_ _ | refine Ext.setCell ?_ (by first | exact Nat.le_refl _ | omega | (simp; done) | (simp; omega)) _)) E5; have B5 := Hin.out.val.up X5; have y5 : w5.cell? ⟨w1.heap.size + 1, 3, none⟩ = some (.slice X xn xc) := B5.cell 3; have y5f := B5.free 3; have y5l := B5.lt)
    | (refine step_moreW elemRM (by rfl) (.tmp 145) (.tmp 151) (by rfl) (by rfl) ((Hin.out.subs.up X5).alloc _) (by rfl) (reads_oneN w5 (treeC y) 40 rfl rfl) (by simpa using treeC_one [y]) (by omega) (by unfold maxLen; omega) ?_; intro A6 c6 w6 own6 g6 m6; have B6 := ((Hin.out.val.up X5).alloc _).beside ((Hin.out.subs.up X5).alloc _) (by decide) g6; have z6 : w6.cell? ⟨w1.heap.size + 1, 3, none⟩ = some (.slice X xn xc) := B6.cell 3; have zf := B6.free 3; have zl := B6.lt))
  all_goals
    go_simp
    exact HK.out _ _ _ _ _ _ _ _ _ _ y A6 c6 _ hb' (Hin.out.more_sub X5 hT' (fun b hb => hU' b hb) own6 g6 m6)

end Go.Proofs.YtpicpebolghcfaaGreatDoor
