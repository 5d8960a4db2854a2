/- A drawn region by an invariant: each operation once, in whatever order. No program is named. -/
import Derived.Test.YtnnphodgegcddaaGreatQcLib
import Derived.Orders
import Derived.Test.YtnnphodgegcddaaGreatQcW14w
import Derived.Test.YtnnphodgegcddaaGreatQcW14o
import Derived.RegionTactic
import Derived.Test.YtnnphodgegcddaaGreatQcW23
import Derived.Test.YtnnphodgegcddaaGreatQcW10

namespace Go.Proofs.YtnnphodgegcddaaGreat
open Go.RowKit
set_option linter.unusedVariables false

theorem ff {b : Bool} {p : Prop} (h : b = false) (k : b = true) : p := absurd (h.symm.trans k) (by decide)

section
variable {P : Program} {md : Region.Mode} {ops : Array Oper} {Q : Exit → Act → World → Prop}

theorem ready_spec {listed : Array Bool} {i : Nat} (h : i ∈ Region.ready md ops listed) : i < ops.size ∧ listed.getD i true = false ∧ ∀ o, ops[i]? = some o → o.after.all (fun e => !Region.binds md e || listed.getD e.on false) = true := by
 unfold Region.ready at h
 rw [List.mem_filter, List.mem_range] at h
 obtain ⟨h1, h2⟩ := h
 rw [Bool.and_eq_true] at h2
 refine ⟨h1, by simpa using h2.1, fun o ho => ?_⟩
 have h3 := h2.2
 rw [ho] at h3
 simpa using h3

theorem countB_set : ∀ {l : List Bool} {i : Nat}, l[i]? = some false → (l.set i true).count false + 1 = l.count false
 | [], i, h => by simp at h
 | b :: l, 0, h => by
   simp at h
   subst h
   simp
 | b :: l, i + 1, h => by
   simp at h
   have := countB_set (l := l) (i := i) h
   simp only [List.set_cons_succ, List.count_cons]
   omega

theorem wpAny_inv {I : Array Bool → Act → World → Prop} (hstep : ∀ (i : Nat) (listed : Array Bool) (a : Act) (w : World), I listed a w → i ∈ Region.ready md ops listed → wpOp P ops Q i (I (listed.setIfInBounds i true)) a w)
  (hfin : ∀ (listed : Array Bool) (a : Act) (w : World), I listed a w → Region.ready md ops listed = [] → Q .normal a w) :
  ∀ (fuel : Nat) (listed : Array Bool) (a : Act) (w : World), listed.size = ops.size → listed.toList.count false ≤ fuel → I listed a w → wpAny P md ops Q fuel listed a w := by
 intro fuel
 induction fuel with
 | zero =>
   intro listed a w hsz hc hI
   have hr : Region.ready md ops listed = [] := by
    rcases h : Region.ready md ops listed with _ | ⟨i, l⟩
    · rfl
    · obtain ⟨h1, h2, _⟩ := ready_spec (md := md) (ops := ops) (listed := listed) (i := i) (by rw [h]; simp)
      have h3 : listed.toList[i]? = some false := by
       rw [Array.getElem?_toList]
       rw [Array.getD_eq_getD_getElem?] at h2
       rcases h4 : listed[i]? with _ | b
       · rw [h4] at h2
         cases h2
       · rw [h4] at h2
         simp at h2
         rw [h2]
      have := countB_set h3
      omega
   exact ⟨hr, hfin _ _ _ hI hr⟩
 | succ fuel ih =>
   intro listed a w hsz hc hI
   refine ⟨fun hr => hfin _ _ _ hI hr, fun i hi => wpOp_mono (fun a w h => ih _ a w (by simpa using hsz) ?_ h) (hstep i listed a w hI hi)⟩
   obtain ⟨h1, h2, _⟩ := ready_spec hi
   have h3 : listed.toList[i]? = some false := by
    rw [Array.getElem?_toList]
    rw [Array.getD_eq_getD_getElem?] at h2
    rcases h4 : listed[i]? with _ | b
    · rw [h4] at h2
      cases h2
    · rw [h4] at h2
      simp at h2
      rw [h2]
   have := countB_set h3
   rw [Array.toList_setIfInBounds]
   omega

theorem wp_region_inv {I : Array Bool → Act → World → Prop} {id : Nat} {a : Act} {w : World} (hm : P.follows .mixedOrders = true)
  (hstep : ∀ (i : Nat) (listed : Array Bool) (a : Act) (w : World), I listed a w → i ∈ Region.ready .any ops listed → wpOp P ops Q i (I (listed.setIfInBounds i true)) a w)
  (hfin : ∀ (listed : Array Bool) (a : Act) (w : World), I listed a w → Region.ready .any ops listed = [] → Q .normal a w)
  (h0 : I (Array.replicate ops.size false) a w.drew) : (Code.region id ops true).wp P Q a w :=
 wp_region_any hm (wpAny_inv hstep hfin ops.size _ a _ (by simp) (by simp) h0)

theorem ready_none {listed : Array Bool} {i : Nat} {o : Oper} (hr : Region.ready md ops listed = []) (ho : ops[i]? = some o) (hd : o.after.all (fun e => !Region.binds md e || listed.getD e.on false) = true) (hi : i < listed.size) : listed.getD i true = true := by
 rcases h : listed.getD i true with _ | _
 · have hlt : i < ops.size := (Array.getElem?_eq_some_iff.1 ho).1
   have : i ∈ Region.ready md ops listed := by
    unfold Region.ready
    rw [List.mem_filter, List.mem_range, h, ho]
    exact ⟨hlt, by simpa using hd⟩
   rw [hr] at this
   cases this
 · rfl

theorem wpOp_run {i : Nat} {o : Oper} {K2 : Act → World → Prop} {a : Act} {w : World} (ho : ops[i]? = some o) (hw : Region.wanted o (yielded ops a.tmps) = true) (h : ∀ K : Act → World → Prop, (∀ a w, K2 a w → K a w) → o.wp P a w K Q) : wpOp P ops Q i K2 a w := by
 unfold wpOp
 rw [ho]
 simp only
 rw [if_pos hw]
 exact .inl (h K2 (fun _ _ h => h))
end

end Go.Proofs.YtnnphodgegcddaaGreat

/- The drawn regions of the reference's Join, as laws of their own. (Printed by gen_inv3.py.) -/




namespace Go.Proofs.YtnnphodgegcddaaGreat
open Go.RowKit Go.Shelf
set_option linter.unusedVariables false
set_option linter.unusedSimpArgs false

noncomputable def regJ (n : Nat) : Code := ((Tryz.f14.body.bind (regionOf n)).getD .skip)

structure Jreg11S where
 (b0 b1 b2 b3 b4 b5 b6 b7 b8 b9 b10 b11 b12 b13 b14 b15 b16 b17 b18 b19 b20 b21 b22 b23 b24 : Bool)
 (s55 s56 s57 s58 s59 s60 s61 s62 s63 s64 s65 s66 s67 s68 s69 s70 s71 s72 s73 s74 s75 s76 s77 s78 : Value)
 (AB0 A10 A20 AB1 A11 A21 AB2 A12 A22 : Option Addr)
 (cB0 c10 c20 cB1 c11 c21 cB2 c12 c22 : Nat)

structure Jreg11F (w0 : World) (w : World) (ka : Nat) (kc : Nat) (u : ValR) (v : ValR) (σ : Jreg11S) (W : World) : Prop where
 X : σ.b24 = false → Ext w W
 Q0 : σ.b0 = true → σ.s55 = .pointer (some ⟨ka, 0, none⟩)
 Q1 : σ.b1 = true → σ.s56 = .int .i64 v.number
 Q3 : σ.b3 = true → σ.s58 = .pointer (some ⟨kc, 1, none⟩)
 Q4 : σ.b4 = true → σ.s59 = .slice u.a.1 u.words.length u.a.2
 Q6 : σ.b6 = true → σ.s61 = .pointer (some ⟨ka, 1, none⟩)
 Q7 : σ.b7 = true → σ.s62 = .slice v.a.1 v.words.length v.a.2
 CB0 : σ.b2 = true → σ.b5 = false → σ.b24 = false → σ.s57 = .slice σ.AB0 0 σ.cB0 ∧ Own w W 112 1 σ.AB0 (0) σ.cB0 ([])
 C10 : σ.b5 = true → σ.b8 = false → σ.b24 = false → σ.s60 = .slice σ.A10 (u.words.length) σ.c10 ∧ Own w W 112 1 σ.A10 (u.words.length) σ.c10 (u.words.map uv)
 C20 : σ.b8 = true → σ.b24 = false → σ.s63 = .slice σ.A20 (u.words.length + v.words.length) σ.c20 ∧ Own w W 112 1 σ.A20 (u.words.length + v.words.length) σ.c20 (u.words.map uv ++ v.words.map uv)
 Q10 : σ.b10 = true → σ.s65 = .pointer (some ⟨kc, 2, none⟩)
 Q11 : σ.b11 = true → σ.s66 = .slice u.b.1 u.texts.length u.b.2
 Q13 : σ.b13 = true → σ.s68 = .pointer (some ⟨ka, 2, none⟩)
 Q14 : σ.b14 = true → σ.s69 = .slice v.b.1 v.texts.length v.b.2
 CB1 : σ.b9 = true → σ.b12 = false → σ.b24 = false → σ.s64 = .slice σ.AB1 0 σ.cB1 ∧ Own w W 9 1 σ.AB1 (0) σ.cB1 ([])
 C11 : σ.b12 = true → σ.b15 = false → σ.b24 = false → σ.s67 = .slice σ.A11 (u.texts.length) σ.c11 ∧ Own w W 9 1 σ.A11 (u.texts.length) σ.c11 (u.texts.map strV)
 C21 : σ.b15 = true → σ.b24 = false → σ.s70 = .slice σ.A21 (u.texts.length + v.texts.length) σ.c21 ∧ Own w W 9 1 σ.A21 (u.texts.length + v.texts.length) σ.c21 (u.texts.map strV ++ v.texts.map strV)
 Q17 : σ.b17 = true → σ.s72 = .pointer (some ⟨kc, 3, none⟩)
 Q18 : σ.b18 = true → σ.s73 = .slice u.c.1 u.subs.length u.c.2
 Q20 : σ.b20 = true → σ.s75 = .pointer (some ⟨ka, 3, none⟩)
 Q21 : σ.b21 = true → σ.s76 = .slice v.c.1 v.subs.length v.c.2
 CB2 : σ.b16 = true → σ.b19 = false → σ.b24 = false → σ.s71 = .slice σ.AB2 0 σ.cB2 ∧ Own w W 40 2 σ.AB2 (0) σ.cB2 ([])
 C12 : σ.b19 = true → σ.b22 = false → σ.b24 = false → σ.s74 = .slice σ.A12 (u.subs.length) σ.c12 ∧ Own w W 40 2 σ.A12 (u.subs.length) σ.c12 (u.subs.flatMap treeC)
 C22 : σ.b22 = true → σ.b24 = false → σ.s77 = .slice σ.A22 (u.subs.length + v.subs.length) σ.c22 ∧ Own w W 40 2 σ.A22 (u.subs.length + v.subs.length) σ.c22 (u.subs.flatMap treeC ++ v.subs.flatMap treeC)
 U : σ.b23 = true → σ.b24 = false → σ.s78 = .agg #[.int .i64 v.number, .slice σ.A20 (u.words.length + v.words.length) σ.c20, .slice σ.A21 (u.texts.length + v.texts.length) σ.c21, .slice σ.A22 (u.subs.length + v.subs.length) σ.c22]
 BL : σ.b24 = false → BlkT W ka 57 #[.int .i64 v.number, .slice v.a.1 v.words.length v.a.2, .slice v.b.1 v.texts.length v.b.2, .slice v.c.1 v.subs.length v.c.2]
 F : σ.b24 = true → Ext w0 W ∧ Stays (fun b => b ≠ ka) w W ∧ BlkT W ka 57 #[.int .i64 v.number, .slice σ.A20 (u.words.length + v.words.length) σ.c20, .slice σ.A21 (u.texts.length + v.texts.length) σ.c21, .slice σ.A22 (u.subs.length + v.subs.length) σ.c22] ∧ Own w0 W 112 1 σ.A20 (u.words.length + v.words.length) σ.c20 (u.words.map uv ++ v.words.map uv) ∧ Own w0 W 9 1 σ.A21 (u.texts.length + v.texts.length) σ.c21 (u.texts.map strV ++ v.texts.map strV) ∧ Own w0 W 40 2 σ.A22 (u.subs.length + v.subs.length) σ.c22 (u.subs.flatMap treeC ++ v.subs.flatMap treeC)
 D1 : σ.b1 = true → σ.b0 = true
 D4 : σ.b4 = true → σ.b3 = true
 D5 : σ.b5 = true → σ.b2 = true ∧ σ.b4 = true
 D7 : σ.b7 = true → σ.b6 = true
 D8 : σ.b8 = true → σ.b5 = true ∧ σ.b7 = true
 D11 : σ.b11 = true → σ.b10 = true
 D12 : σ.b12 = true → σ.b9 = true ∧ σ.b11 = true
 D14 : σ.b14 = true → σ.b13 = true
 D15 : σ.b15 = true → σ.b12 = true ∧ σ.b14 = true
 D18 : σ.b18 = true → σ.b17 = true
 D19 : σ.b19 = true → σ.b16 = true ∧ σ.b18 = true
 D21 : σ.b21 = true → σ.b20 = true
 D22 : σ.b22 = true → σ.b19 = true ∧ σ.b21 = true
 D23 : σ.b23 = true → σ.b1 = true ∧ σ.b8 = true ∧ σ.b15 = true ∧ σ.b22 = true
 D24 : σ.b24 = true → σ.b23 = true

set_option maxRecDepth 100000 in
set_option maxHeartbeats 4000000 in
theorem jreg11 {Q0 : Exit → Act → World → Prop} {u0 u1 u2 u3 u4 u5 u6 u7 u8 u9 u10 u12 u13 u15 u16 u17 u18 u19 u20 u21 u22 u23 u24 u25 u26 u27 u28 u29 u30 u31 u32 u33 u34 u35 u36 u37 u38 u39 u40 u41 u42 u43 u44 u45 u46 u47 u48 u49 u50 u51 u52 u53 u54 u55 u56 u57 u58 u59 u60 u61 u62 u63 u64 u65 u66 u67 u68 u69 u70 u71 u72 u73 u74 u75 u76 u77 u78 u79 u80 u81 u82 u83 u84 u85 u86 u87 u88 u89 u90 u91 u92 u93 u94 u95 u96 u97 u98 u99 u100 u101 u102 u103 u104 u105 u106 u107 u108 u109 : Value} {w0 : World} {w : World} {ka : Nat} {kc : Nat} {u : ValR} {v : ValR} (E0 : Ext w0 w) (hb : w0.heap.size ≤ ka) (B0 : BlkT w ka 57 #[.int .i64 v.number, .slice v.a.1 v.words.length v.a.2, .slice v.b.1 v.texts.length v.b.2, .slice v.c.1 v.subs.length v.c.2]) (hu : ValAt w u) (hv : ValAt w v) (B1 : BlkT w kc 57 #[.int .i64 u.number, .slice u.a.1 u.words.length u.a.2, .slice u.b.1 u.texts.length u.b.2, .slice u.c.1 u.subs.length u.c.2]) (lu : u.words.length ≤ 1000000000 ∧ u.texts.length ≤ 1000000000 ∧ u.subs.length ≤ 1000000000) (lv : v.words.length ≤ 1000000000 ∧ v.texts.length ≤ 1000000000 ∧ v.subs.length ≤ 1000000000)
  (hK : ∀ (s55 s56 s57 s58 s59 s60 s61 s62 s63 s64 s65 s66 s67 s68 s69 s70 s71 s72 s73 s74 s75 s76 s77 s78 : Value) (A20 A21 A22 : Option Addr) (c20 c21 c22 : Nat) (wz : World), Ext w0 wz → Stays (fun b => b ≠ ka) w wz → BlkT wz ka 57 #[.int .i64 v.number, .slice A20 (u.words.length + v.words.length) c20, .slice A21 (u.texts.length + v.texts.length) c21, .slice A22 (u.subs.length + v.subs.length) c22] → Own w0 wz 112 1 A20 (u.words.length + v.words.length) c20 (u.words.map uv ++ v.words.map uv) → Own w0 wz 9 1 A21 (u.texts.length + v.texts.length) c21 (u.texts.map strV ++ v.texts.map strV) → Own w0 wz 40 2 A22 (u.subs.length + v.subs.length) c22 (u.subs.flatMap treeC ++ v.subs.flatMap treeC) → Q0 .normal ⟨#[u0, u1, u2, u3, u4, u5, u6, u7, u8, u9, u10, .pointer (some ⟨ka, 0, none⟩), u12, u13, .pointer (some ⟨kc, 0, none⟩), u15, u16, u17, u18, u19, u20, u21, u22, u23, u24, u25, u26, u27, u28, u29, u30, u31, u32, u33, u34, u35, u36, u37, u38, u39, u40, u41, u42, u43, u44, u45, u46, u47, u48, u49, u50, u51, u52, u53, u54, s55, s56, s57, s58, s59, s60, s61, s62, s63, s64, s65, s66, s67, s68, s69, s70, s71, s72, s73, s74, s75, s76, s77, s78, u79, u80, u81, u82, u83, u84, u85, u86, u87, u88, u89, u90, u91, u92, u93, u94, u95, u96, u97, u98, u99, u100, u101, u102, u103, u104, u105, u106, u107, u108, u109], []⟩ wz) :
  Code.wp Tryz.prog (regJ 11) (calmQ Q0) ⟨#[u0, u1, u2, u3, u4, u5, u6, u7, u8, u9, u10, .pointer (some ⟨ka, 0, none⟩), u12, u13, .pointer (some ⟨kc, 0, none⟩), u15, u16, u17, u18, u19, u20, u21, u22, u23, u24, u25, u26, u27, u28, u29, u30, u31, u32, u33, u34, u35, u36, u37, u38, u39, u40, u41, u42, u43, u44, u45, u46, u47, u48, u49, u50, u51, u52, u53, u54, u55, u56, u57, u58, u59, u60, u61, u62, u63, u64, u65, u66, u67, u68, u69, u70, u71, u72, u73, u74, u75, u76, u77, u78, u79, u80, u81, u82, u83, u84, u85, u86, u87, u88, u89, u90, u91, u92, u93, u94, u95, u96, u97, u98, u99, u100, u101, u102, u103, u104, u105, u106, u107, u108, u109], []⟩ w := by
 have HK := Lib.hid hK
 clear hK
 have hbl := B0.lt
 conv => arg 2; whnf
 obtain ⟨I, hI⟩ : ∃ I : Array Bool → Act → World → Prop, ∀ l a W, I l a W ↔ (∃ σ : Jreg11S, l = #[σ.b0, σ.b1, σ.b2, σ.b3, σ.b4, σ.b5, σ.b6, σ.b7, σ.b8, σ.b9, σ.b10, σ.b11, σ.b12, σ.b13, σ.b14, σ.b15, σ.b16, σ.b17, σ.b18, σ.b19, σ.b20, σ.b21, σ.b22, σ.b23, σ.b24] ∧ a = ⟨#[u0, u1, u2, u3, u4, u5, u6, u7, u8, u9, u10, .pointer (some ⟨ka, 0, none⟩), u12, u13, .pointer (some ⟨kc, 0, none⟩), u15, u16, u17, u18, u19, u20, u21, u22, u23, u24, u25, u26, u27, u28, u29, u30, u31, u32, u33, u34, u35, u36, u37, u38, u39, u40, u41, u42, u43, u44, u45, u46, u47, u48, u49, u50, u51, u52, u53, u54, σ.s55, σ.s56, σ.s57, σ.s58, σ.s59, σ.s60, σ.s61, σ.s62, σ.s63, σ.s64, σ.s65, σ.s66, σ.s67, σ.s68, σ.s69, σ.s70, σ.s71, σ.s72, σ.s73, σ.s74, σ.s75, σ.s76, σ.s77, σ.s78, u79, u80, u81, u82, u83, u84, u85, u86, u87, u88, u89, u90, u91, u92, u93, u94, u95, u96, u97, u98, u99, u100, u101, u102, u103, u104, u105, u106, u107, u108, u109], []⟩ ∧ Jreg11F w0 w ka kc u v σ W) := ⟨_, fun _ _ _ => Iff.rfl⟩
 have HI := Lib.hid hI
 clear hI
 refine wp_region_inv (I := I) (by kernel_rfl) (fun i l a W hi hr => ?_) (fun l a W hi hr => ?_) ?_
 · obtain ⟨σ, rfl, rfl, G⟩ := (HI.out _ _ _).1 hi
   clear hi
   obtain ⟨hlt, hl, hd⟩ := ready_spec hr
   clear hr
   have hlt : i < 25 := hlt
   rcases (show i = 0 ∨ i = 1 ∨ i = 2 ∨ i = 3 ∨ i = 4 ∨ i = 5 ∨ i = 6 ∨ i = 7 ∨ i = 8 ∨ i = 9 ∨ i = 10 ∨ i = 11 ∨ i = 12 ∨ i = 13 ∨ i = 14 ∨ i = 15 ∨ i = 16 ∨ i = 17 ∨ i = 18 ∨ i = 19 ∨ i = 20 ∨ i = 21 ∨ i = 22 ∨ i = 23 ∨ i = 24 by omega) with rfl | rfl | rfl | rfl | rfl | rfl | rfl | rfl | rfl | rfl | rfl | rfl | rfl | rfl | rfl | rfl | rfl | rfl | rfl | rfl | rfl | rfl | rfl | rfl | rfl
   · have e : σ.b0 = false := hl
     have hd := hd _ rfl
     clear hl hlt
     clear hd
     have eS : σ.b24 = false := by
      rcases hs : σ.b24 with _ | _
      · rfl
      · exact ff e (G.D1 (G.D23 (G.D24 hs)).1)
     have Xw := G.X eS
     have He := Lib.hid e
     have HeS := Lib.hid eS
     have HX := Lib.hid Xw
     clear e eS Xw
     refine wpOp_run (o := ?o0) ?i0 ?w0 (fun K hK => ?_)
     case i0 => simp only [List.getElem?_toArray, List.getElem?_cons_zero, List.getElem?_cons_succ]; exact rfl
     case w0 => rfl
     have HK2 := Lib.hid hK
     clear hK
     go_simp
     (try simp only [Act.put, List.setIfInBounds_toArray, List.set_cons_zero, List.set_cons_succ])
     have e := He.out
     have eS := HeS.out
     have Xw := HX.out
     refine HK2.out _ _ ((HI.out _ _ _).2 ⟨{ σ with b0 := true, s55 := _ }, rfl, rfl, { G with D1 := (fun h => ff e (G.D1 h)), Q0 := (fun _ => rfl), F := (fun h => ff eS h) }⟩)
   · have e : σ.b1 = false := hl
     have hd := hd _ rfl
     clear hl hlt
     simp [Region.binds] at hd
     have t0 : σ.b0 = true := by simp [hd]
     clear hd
     have eS : σ.b24 = false := by
      rcases hs : σ.b24 with _ | _
      · rfl
      · exact ff e (G.D23 (G.D24 hs)).1
     have Xw := G.X eS
     have e0 := G.Q0 t0
     have g: W.cell? ⟨ka, 0, none⟩ = some (.int .i64 v.number) := Xw.of_cell (B0.cell 0)
     have He := Lib.hid e
     have HeS := Lib.hid eS
     have HX := Lib.hid Xw
     clear e eS Xw
     refine wpOp_run (o := ?o1) ?i1 ?w1 (fun K hK => ?_)
     case i1 => simp only [List.getElem?_toArray, List.getElem?_cons_zero, List.getElem?_cons_succ]; exact rfl
     case w1 => rfl
     have HK2 := Lib.hid hK
     clear hK
     go_simp
     (try simp only [Act.put, List.setIfInBounds_toArray, List.set_cons_zero, List.set_cons_succ])
     have e := He.out
     have eS := HeS.out
     have Xw := HX.out
     refine HK2.out _ _ ((HI.out _ _ _).2 ⟨{ σ with b1 := true, s56 := _, s55 := _ }, rfl, rfl, { G with D1 := (fun _ => t0), D23 := (fun h => ff e (G.D23 h).1), Q0 := (fun _ => rfl), Q1 := (fun _ => rfl), F := (fun h => ff eS h) }⟩)
   · have e : σ.b2 = false := hl
     have hd := hd _ rfl
     clear hl hlt
     clear hd
     have eS : σ.b24 = false := by
      rcases hs : σ.b24 with _ | _
      · rfl
      · exact ff e (G.D5 (G.D8 (G.D23 (G.D24 hs)).2.1).1).1
     have Xw := G.X eS
     have He := Lib.hid e
     have HeS := Lib.hid eS
     have HX := Lib.hid Xw
     clear e eS Xw
     refine wpOp_run (o := ?o2) ?i2 ?w2 (fun K hK => ?_)
     case i2 => simp only [List.getElem?_toArray, List.getElem?_cons_zero, List.getElem?_cons_succ]; exact rfl
     case w2 => rfl
     have HK2 := Lib.hid hK
     clear hK
     go_simp
     (try simp only [Act.put, List.setIfInBounds_toArray, List.set_cons_zero, List.set_cons_succ])
     have e := He.out
     have eS := HeS.out
     have Xw := HX.out
     refine HK2.out _ _ ((HI.out _ _ _).2 ⟨{ σ with b2 := true, s57 := _, AB0 := some ⟨W.heap.size, 0, none⟩, cB0 := 0 }, rfl, rfl, { G with D5 := (fun h => ff e (G.D5 h).1), X := (fun _ => Xw.alloc _), CB0 := (fun _ _ _ => ⟨rfl, Own.empty Xw _ _⟩), C10 := (fun h h2 h3 => ⟨(G.C10 h h2 h3).1, (G.C10 h h2 h3).2.alloc _⟩), C20 := (fun h h2 => ⟨(G.C20 h h2).1, (G.C20 h h2).2.alloc _⟩), CB1 := (fun h h2 h3 => ⟨(G.CB1 h h2 h3).1, (G.CB1 h h2 h3).2.alloc _⟩), C11 := (fun h h2 h3 => ⟨(G.C11 h h2 h3).1, (G.C11 h h2 h3).2.alloc _⟩), C21 := (fun h h2 => ⟨(G.C21 h h2).1, (G.C21 h h2).2.alloc _⟩), CB2 := (fun h h2 h3 => ⟨(G.CB2 h h2 h3).1, (G.CB2 h h2 h3).2.alloc _⟩), C12 := (fun h h2 h3 => ⟨(G.C12 h h2 h3).1, (G.C12 h h2 h3).2.alloc _⟩), C22 := (fun h h2 => ⟨(G.C22 h h2).1, (G.C22 h h2).2.alloc _⟩), BL := (fun h => (G.BL h).alloc _), F := (fun h => ff eS h) }⟩)
   · have e : σ.b3 = false := hl
     have hd := hd _ rfl
     clear hl hlt
     clear hd
     have eS : σ.b24 = false := by
      rcases hs : σ.b24 with _ | _
      · rfl
      · exact ff e (G.D4 (G.D5 (G.D8 (G.D23 (G.D24 hs)).2.1).1).2)
     have Xw := G.X eS
     have He := Lib.hid e
     have HeS := Lib.hid eS
     have HX := Lib.hid Xw
     clear e eS Xw
     refine wpOp_run (o := ?o3) ?i3 ?w3 (fun K hK => ?_)
     case i3 => simp only [List.getElem?_toArray, List.getElem?_cons_zero, List.getElem?_cons_succ]; exact rfl
     case w3 => rfl
     have HK2 := Lib.hid hK
     clear hK
     go_simp
     (try simp only [Act.put, List.setIfInBounds_toArray, List.set_cons_zero, List.set_cons_succ])
     have e := He.out
     have eS := HeS.out
     have Xw := HX.out
     refine HK2.out _ _ ((HI.out _ _ _).2 ⟨{ σ with b3 := true, s58 := _ }, rfl, rfl, { G with D4 := (fun h => ff e (G.D4 h)), Q3 := (fun _ => rfl), F := (fun h => ff eS h) }⟩)
   · have e : σ.b4 = false := hl
     have hd := hd _ rfl
     clear hl hlt
     simp [Region.binds] at hd
     have t3 : σ.b3 = true := by simp [hd]
     clear hd
     have eS : σ.b24 = false := by
      rcases hs : σ.b24 with _ | _
      · rfl
      · exact ff e (G.D5 (G.D8 (G.D23 (G.D24 hs)).2.1).1).2
     have Xw := G.X eS
     have e3 := G.Q3 t3
     have g: W.cell? ⟨kc, 1, none⟩ = some (.slice u.a.1 u.words.length u.a.2) := Xw.of_cell (B1.cell 1)
     have He := Lib.hid e
     have HeS := Lib.hid eS
     have HX := Lib.hid Xw
     clear e eS Xw
     refine wpOp_run (o := ?o4) ?i4 ?w4 (fun K hK => ?_)
     case i4 => simp only [List.getElem?_toArray, List.getElem?_cons_zero, List.getElem?_cons_succ]; exact rfl
     case w4 => rfl
     have HK2 := Lib.hid hK
     clear hK
     go_simp
     (try simp only [Act.put, List.setIfInBounds_toArray, List.set_cons_zero, List.set_cons_succ])
     have e := He.out
     have eS := HeS.out
     have Xw := HX.out
     refine HK2.out _ _ ((HI.out _ _ _).2 ⟨{ σ with b4 := true, s59 := _, s58 := _ }, rfl, rfl, { G with D4 := (fun _ => t3), D5 := (fun h => ff e (G.D5 h).2), Q3 := (fun _ => rfl), Q4 := (fun _ => rfl), F := (fun h => ff eS h) }⟩)
   · have e : σ.b5 = false := hl
     have hd := hd _ rfl
     clear hl hlt
     simp [Region.binds] at hd
     have t2 : σ.b2 = true := by simp [hd]
     have t4 : σ.b4 = true := by simp [hd]
     clear hd
     have eS : σ.b24 = false := by
      rcases hs : σ.b24 with _ | _
      · rfl
      · exact ff e (G.D8 (G.D23 (G.D24 hs)).2.1).1
     have Xw := G.X eS
     have el := G.Q4 t4
     obtain ⟨es, own⟩ := G.CB0 t2 e eS
     refine wpOp_step (o := ?o5) ?i5 (fun K hK => ?_)
     case i5 => simp only [List.getElem?_toArray, List.getElem?_cons_zero, List.getElem?_cons_succ]; exact rfl
     have HK2 := Lib.hid hK
     clear hK
     refine step_moreW elemU (by rfl) (.tmp 57) (.tmp 59) (by rfl) es own el (hu.own.words.ext Xw) (uv_one _) (by omega) (by unfold maxLen; omega) ?_
     intro An cn W2 on gn mn
     (try simp only [Nat.zero_add, List.nil_append] at on)
     (try simp only [Act.put, List.setIfInBounds_toArray, List.set_cons_zero, List.set_cons_succ, Nat.zero_add])
     refine HK2.out _ _ ((HI.out _ _ _).2 ⟨{ σ with b5 := true, A10 := An, c10 := cn, s60 := _ }, rfl, rfl, { G with D5 := (fun _ => ⟨t2, t4⟩), D8 := (fun h => ff e (G.D8 h).1), X := (fun _ => on.ext), CB1 := (fun h h2 h3 => ⟨(G.CB1 h h2 h3).1, (G.CB1 h h2 h3).2.beside own (by decide) (Ext.refl W) gn on.ext⟩), C11 := (fun h h2 h3 => ⟨(G.C11 h h2 h3).1, (G.C11 h h2 h3).2.beside own (by decide) (Ext.refl W) gn on.ext⟩), C21 := (fun h h2 => ⟨(G.C21 h h2).1, (G.C21 h h2).2.beside own (by decide) (Ext.refl W) gn on.ext⟩), CB2 := (fun h h2 h3 => ⟨(G.CB2 h h2 h3).1, (G.CB2 h h2 h3).2.beside own (by decide) (Ext.refl W) gn on.ext⟩), C12 := (fun h h2 h3 => ⟨(G.C12 h h2 h3).1, (G.C12 h h2 h3).2.beside own (by decide) (Ext.refl W) gn on.ext⟩), C22 := (fun h h2 => ⟨(G.C22 h h2).1, (G.C22 h h2).2.beside own (by decide) (Ext.refl W) gn on.ext⟩), CB0 := (fun _ h => by cases h), C10 := (fun _ _ _ => ⟨rfl, on⟩), C20 := (fun h => ff e (G.D8 h).1), BL := (fun h => (G.BL h).beside own (by decide) gn), F := (fun h => ff eS h) }⟩)
   · have e : σ.b6 = false := hl
     have hd := hd _ rfl
     clear hl hlt
     clear hd
     have eS : σ.b24 = false := by
      rcases hs : σ.b24 with _ | _
      · rfl
      · exact ff e (G.D7 (G.D8 (G.D23 (G.D24 hs)).2.1).2)
     have Xw := G.X eS
     have He := Lib.hid e
     have HeS := Lib.hid eS
     have HX := Lib.hid Xw
     clear e eS Xw
     refine wpOp_run (o := ?o6) ?i6 ?w6 (fun K hK => ?_)
     case i6 => simp only [List.getElem?_toArray, List.getElem?_cons_zero, List.getElem?_cons_succ]; exact rfl
     case w6 => rfl
     have HK2 := Lib.hid hK
     clear hK
     go_simp
     (try simp only [Act.put, List.setIfInBounds_toArray, List.set_cons_zero, List.set_cons_succ])
     have e := He.out
     have eS := HeS.out
     have Xw := HX.out
     refine HK2.out _ _ ((HI.out _ _ _).2 ⟨{ σ with b6 := true, s61 := _ }, rfl, rfl, { G with D7 := (fun h => ff e (G.D7 h)), Q6 := (fun _ => rfl), F := (fun h => ff eS h) }⟩)
   · have e : σ.b7 = false := hl
     have hd := hd _ rfl
     clear hl hlt
     simp [Region.binds] at hd
     have t6 : σ.b6 = true := by simp [hd]
     clear hd
     have eS : σ.b24 = false := by
      rcases hs : σ.b24 with _ | _
      · rfl
      · exact ff e (G.D8 (G.D23 (G.D24 hs)).2.1).2
     have Xw := G.X eS
     have e6 := G.Q6 t6
     have g: W.cell? ⟨ka, 1, none⟩ = some (.slice v.a.1 v.words.length v.a.2) := Xw.of_cell (B0.cell 1)
     have He := Lib.hid e
     have HeS := Lib.hid eS
     have HX := Lib.hid Xw
     clear e eS Xw
     refine wpOp_run (o := ?o7) ?i7 ?w7 (fun K hK => ?_)
     case i7 => simp only [List.getElem?_toArray, List.getElem?_cons_zero, List.getElem?_cons_succ]; exact rfl
     case w7 => rfl
     have HK2 := Lib.hid hK
     clear hK
     go_simp
     (try simp only [Act.put, List.setIfInBounds_toArray, List.set_cons_zero, List.set_cons_succ])
     have e := He.out
     have eS := HeS.out
     have Xw := HX.out
     refine HK2.out _ _ ((HI.out _ _ _).2 ⟨{ σ with b7 := true, s62 := _, s61 := _ }, rfl, rfl, { G with D7 := (fun _ => t6), D8 := (fun h => ff e (G.D8 h).2), Q6 := (fun _ => rfl), Q7 := (fun _ => rfl), F := (fun h => ff eS h) }⟩)
   · have e : σ.b8 = false := hl
     have hd := hd _ rfl
     clear hl hlt
     simp [Region.binds] at hd
     have t5 : σ.b5 = true := by simp [hd]
     have t7 : σ.b7 = true := by simp [hd]
     clear hd
     have eS : σ.b24 = false := by
      rcases hs : σ.b24 with _ | _
      · rfl
      · exact ff e (G.D23 (G.D24 hs)).2.1
     have Xw := G.X eS
     have el := G.Q7 t7
     obtain ⟨es, own⟩ := G.C10 t5 e eS
     refine wpOp_step (o := ?o8) ?i8 (fun K hK => ?_)
     case i8 => simp only [List.getElem?_toArray, List.getElem?_cons_zero, List.getElem?_cons_succ]; exact rfl
     have HK2 := Lib.hid hK
     clear hK
     refine step_moreW elemU (by rfl) (.tmp 60) (.tmp 62) (by rfl) es own el (hv.own.words.ext Xw) (uv_one _) (by omega) (by unfold maxLen; omega) ?_
     intro An cn W2 on gn mn
     (try simp only [Nat.zero_add, List.nil_append] at on)
     (try simp only [Act.put, List.setIfInBounds_toArray, List.set_cons_zero, List.set_cons_succ, Nat.zero_add])
     refine HK2.out _ _ ((HI.out _ _ _).2 ⟨{ σ with b8 := true, A20 := An, c20 := cn, s63 := _ }, rfl, rfl, { G with D8 := (fun _ => ⟨t5, t7⟩), D23 := (fun h => ff e (G.D23 h).2.1), X := (fun _ => on.ext), CB1 := (fun h h2 h3 => ⟨(G.CB1 h h2 h3).1, (G.CB1 h h2 h3).2.beside own (by decide) (Ext.refl W) gn on.ext⟩), C11 := (fun h h2 h3 => ⟨(G.C11 h h2 h3).1, (G.C11 h h2 h3).2.beside own (by decide) (Ext.refl W) gn on.ext⟩), C21 := (fun h h2 => ⟨(G.C21 h h2).1, (G.C21 h h2).2.beside own (by decide) (Ext.refl W) gn on.ext⟩), CB2 := (fun h h2 h3 => ⟨(G.CB2 h h2 h3).1, (G.CB2 h h2 h3).2.beside own (by decide) (Ext.refl W) gn on.ext⟩), C12 := (fun h h2 h3 => ⟨(G.C12 h h2 h3).1, (G.C12 h h2 h3).2.beside own (by decide) (Ext.refl W) gn on.ext⟩), C22 := (fun h h2 => ⟨(G.C22 h h2).1, (G.C22 h h2).2.beside own (by decide) (Ext.refl W) gn on.ext⟩), CB0 := (fun _ h => ff h t5), C10 := (fun _ h => by cases h), C20 := (fun _ _ => ⟨rfl, on⟩), BL := (fun h => (G.BL h).beside own (by decide) gn), U := (fun h => ff e (G.D23 h).2.1), F := (fun h => ff eS h) }⟩)
   · have e : σ.b9 = false := hl
     have hd := hd _ rfl
     clear hl hlt
     clear hd
     have eS : σ.b24 = false := by
      rcases hs : σ.b24 with _ | _
      · rfl
      · exact ff e (G.D12 (G.D15 (G.D23 (G.D24 hs)).2.2.1).1).1
     have Xw := G.X eS
     have He := Lib.hid e
     have HeS := Lib.hid eS
     have HX := Lib.hid Xw
     clear e eS Xw
     refine wpOp_run (o := ?o9) ?i9 ?w9 (fun K hK => ?_)
     case i9 => simp only [List.getElem?_toArray, List.getElem?_cons_zero, List.getElem?_cons_succ]; exact rfl
     case w9 => rfl
     have HK2 := Lib.hid hK
     clear hK
     go_simp
     (try simp only [Act.put, List.setIfInBounds_toArray, List.set_cons_zero, List.set_cons_succ])
     have e := He.out
     have eS := HeS.out
     have Xw := HX.out
     refine HK2.out _ _ ((HI.out _ _ _).2 ⟨{ σ with b9 := true, s64 := _, AB1 := some ⟨W.heap.size, 0, none⟩, cB1 := 0 }, rfl, rfl, { G with D12 := (fun h => ff e (G.D12 h).1), X := (fun _ => Xw.alloc _), CB0 := (fun h h2 h3 => ⟨(G.CB0 h h2 h3).1, (G.CB0 h h2 h3).2.alloc _⟩), C10 := (fun h h2 h3 => ⟨(G.C10 h h2 h3).1, (G.C10 h h2 h3).2.alloc _⟩), C20 := (fun h h2 => ⟨(G.C20 h h2).1, (G.C20 h h2).2.alloc _⟩), CB1 := (fun _ _ _ => ⟨rfl, Own.empty Xw _ _⟩), C11 := (fun h h2 h3 => ⟨(G.C11 h h2 h3).1, (G.C11 h h2 h3).2.alloc _⟩), C21 := (fun h h2 => ⟨(G.C21 h h2).1, (G.C21 h h2).2.alloc _⟩), CB2 := (fun h h2 h3 => ⟨(G.CB2 h h2 h3).1, (G.CB2 h h2 h3).2.alloc _⟩), C12 := (fun h h2 h3 => ⟨(G.C12 h h2 h3).1, (G.C12 h h2 h3).2.alloc _⟩), C22 := (fun h h2 => ⟨(G.C22 h h2).1, (G.C22 h h2).2.alloc _⟩), BL := (fun h => (G.BL h).alloc _), F := (fun h => ff eS h) }⟩)
   · have e : σ.b10 = false := hl
     have hd := hd _ rfl
     clear hl hlt
     clear hd
     have eS : σ.b24 = false := by
      rcases hs : σ.b24 with _ | _
      · rfl
      · exact ff e (G.D11 (G.D12 (G.D15 (G.D23 (G.D24 hs)).2.2.1).1).2)
     have Xw := G.X eS
     have He := Lib.hid e
     have HeS := Lib.hid eS
     have HX := Lib.hid Xw
     clear e eS Xw
     refine wpOp_run (o := ?o10) ?i10 ?w10 (fun K hK => ?_)
     case i10 => simp only [List.getElem?_toArray, List.getElem?_cons_zero, List.getElem?_cons_succ]; exact rfl
     case w10 => rfl
     have HK2 := Lib.hid hK
     clear hK
     go_simp
     (try simp only [Act.put, List.setIfInBounds_toArray, List.set_cons_zero, List.set_cons_succ])
     have e := He.out
     have eS := HeS.out
     have Xw := HX.out
     refine HK2.out _ _ ((HI.out _ _ _).2 ⟨{ σ with b10 := true, s65 := _ }, rfl, rfl, { G with D11 := (fun h => ff e (G.D11 h)), Q10 := (fun _ => rfl), F := (fun h => ff eS h) }⟩)
   · have e : σ.b11 = false := hl
     have hd := hd _ rfl
     clear hl hlt
     simp [Region.binds] at hd
     have t10 : σ.b10 = true := by simp [hd]
     clear hd
     have eS : σ.b24 = false := by
      rcases hs : σ.b24 with _ | _
      · rfl
      · exact ff e (G.D12 (G.D15 (G.D23 (G.D24 hs)).2.2.1).1).2
     have Xw := G.X eS
     have e10 := G.Q10 t10
     have g: W.cell? ⟨kc, 2, none⟩ = some (.slice u.b.1 u.texts.length u.b.2) := Xw.of_cell (B1.cell 2)
     have He := Lib.hid e
     have HeS := Lib.hid eS
     have HX := Lib.hid Xw
     clear e eS Xw
     refine wpOp_run (o := ?o11) ?i11 ?w11 (fun K hK => ?_)
     case i11 => simp only [List.getElem?_toArray, List.getElem?_cons_zero, List.getElem?_cons_succ]; exact rfl
     case w11 => rfl
     have HK2 := Lib.hid hK
     clear hK
     go_simp
     (try simp only [Act.put, List.setIfInBounds_toArray, List.set_cons_zero, List.set_cons_succ])
     have e := He.out
     have eS := HeS.out
     have Xw := HX.out
     refine HK2.out _ _ ((HI.out _ _ _).2 ⟨{ σ with b11 := true, s66 := _, s65 := _ }, rfl, rfl, { G with D11 := (fun _ => t10), D12 := (fun h => ff e (G.D12 h).2), Q10 := (fun _ => rfl), Q11 := (fun _ => rfl), F := (fun h => ff eS h) }⟩)
   · have e : σ.b12 = false := hl
     have hd := hd _ rfl
     clear hl hlt
     simp [Region.binds] at hd
     have t9 : σ.b9 = true := by simp [hd]
     have t11 : σ.b11 = true := by simp [hd]
     clear hd
     have eS : σ.b24 = false := by
      rcases hs : σ.b24 with _ | _
      · rfl
      · exact ff e (G.D15 (G.D23 (G.D24 hs)).2.2.1).1
     have Xw := G.X eS
     have el := G.Q11 t11
     obtain ⟨es, own⟩ := G.CB1 t9 e eS
     refine wpOp_step (o := ?o12) ?i12 (fun K hK => ?_)
     case i12 => simp only [List.getElem?_toArray, List.getElem?_cons_zero, List.getElem?_cons_succ]; exact rfl
     have HK2 := Lib.hid hK
     clear hK
     refine step_moreW elemStr (by rfl) (.tmp 64) (.tmp 66) (by rfl) es own el (hu.own.texts.at_.ext Xw) (strV_one _) (by omega) (by unfold maxLen; omega) ?_
     intro An cn W2 on gn mn
     (try simp only [Nat.zero_add, List.nil_append] at on)
     (try simp only [Act.put, List.setIfInBounds_toArray, List.set_cons_zero, List.set_cons_succ, Nat.zero_add])
     refine HK2.out _ _ ((HI.out _ _ _).2 ⟨{ σ with b12 := true, A11 := An, c11 := cn, s67 := _ }, rfl, rfl, { G with D12 := (fun _ => ⟨t9, t11⟩), D15 := (fun h => ff e (G.D15 h).1), X := (fun _ => on.ext), CB0 := (fun h h2 h3 => ⟨(G.CB0 h h2 h3).1, (G.CB0 h h2 h3).2.beside own (by decide) (Ext.refl W) gn on.ext⟩), C10 := (fun h h2 h3 => ⟨(G.C10 h h2 h3).1, (G.C10 h h2 h3).2.beside own (by decide) (Ext.refl W) gn on.ext⟩), C20 := (fun h h2 => ⟨(G.C20 h h2).1, (G.C20 h h2).2.beside own (by decide) (Ext.refl W) gn on.ext⟩), CB2 := (fun h h2 h3 => ⟨(G.CB2 h h2 h3).1, (G.CB2 h h2 h3).2.beside own (by decide) (Ext.refl W) gn on.ext⟩), C12 := (fun h h2 h3 => ⟨(G.C12 h h2 h3).1, (G.C12 h h2 h3).2.beside own (by decide) (Ext.refl W) gn on.ext⟩), C22 := (fun h h2 => ⟨(G.C22 h h2).1, (G.C22 h h2).2.beside own (by decide) (Ext.refl W) gn on.ext⟩), CB1 := (fun _ h => by cases h), C11 := (fun _ _ _ => ⟨rfl, on⟩), C21 := (fun h => ff e (G.D15 h).1), BL := (fun h => (G.BL h).beside own (by decide) gn), F := (fun h => ff eS h) }⟩)
   · have e : σ.b13 = false := hl
     have hd := hd _ rfl
     clear hl hlt
     clear hd
     have eS : σ.b24 = false := by
      rcases hs : σ.b24 with _ | _
      · rfl
      · exact ff e (G.D14 (G.D15 (G.D23 (G.D24 hs)).2.2.1).2)
     have Xw := G.X eS
     have He := Lib.hid e
     have HeS := Lib.hid eS
     have HX := Lib.hid Xw
     clear e eS Xw
     refine wpOp_run (o := ?o13) ?i13 ?w13 (fun K hK => ?_)
     case i13 => simp only [List.getElem?_toArray, List.getElem?_cons_zero, List.getElem?_cons_succ]; exact rfl
     case w13 => rfl
     have HK2 := Lib.hid hK
     clear hK
     go_simp
     (try simp only [Act.put, List.setIfInBounds_toArray, List.set_cons_zero, List.set_cons_succ])
     have e := He.out
     have eS := HeS.out
     have Xw := HX.out
     refine HK2.out _ _ ((HI.out _ _ _).2 ⟨{ σ with b13 := true, s68 := _ }, rfl, rfl, { G with D14 := (fun h => ff e (G.D14 h)), Q13 := (fun _ => rfl), F := (fun h => ff eS h) }⟩)
   · have e : σ.b14 = false := hl
     have hd := hd _ rfl
     clear hl hlt
     simp [Region.binds] at hd
     have t13 : σ.b13 = true := by simp [hd]
     clear hd
     have eS : σ.b24 = false := by
      rcases hs : σ.b24 with _ | _
      · rfl
      · exact ff e (G.D15 (G.D23 (G.D24 hs)).2.2.1).2
     have Xw := G.X eS
     have e13 := G.Q13 t13
     have g: W.cell? ⟨ka, 2, none⟩ = some (.slice v.b.1 v.texts.length v.b.2) := Xw.of_cell (B0.cell 2)
     have He := Lib.hid e
     have HeS := Lib.hid eS
     have HX := Lib.hid Xw
     clear e eS Xw
     refine wpOp_run (o := ?o14) ?i14 ?w14 (fun K hK => ?_)
     case i14 => simp only [List.getElem?_toArray, List.getElem?_cons_zero, List.getElem?_cons_succ]; exact rfl
     case w14 => rfl
     have HK2 := Lib.hid hK
     clear hK
     go_simp
     (try simp only [Act.put, List.setIfInBounds_toArray, List.set_cons_zero, List.set_cons_succ])
     have e := He.out
     have eS := HeS.out
     have Xw := HX.out
     refine HK2.out _ _ ((HI.out _ _ _).2 ⟨{ σ with b14 := true, s69 := _, s68 := _ }, rfl, rfl, { G with D14 := (fun _ => t13), D15 := (fun h => ff e (G.D15 h).2), Q13 := (fun _ => rfl), Q14 := (fun _ => rfl), F := (fun h => ff eS h) }⟩)
   · have e : σ.b15 = false := hl
     have hd := hd _ rfl
     clear hl hlt
     simp [Region.binds] at hd
     have t12 : σ.b12 = true := by simp [hd]
     have t14 : σ.b14 = true := by simp [hd]
     clear hd
     have eS : σ.b24 = false := by
      rcases hs : σ.b24 with _ | _
      · rfl
      · exact ff e (G.D23 (G.D24 hs)).2.2.1
     have Xw := G.X eS
     have el := G.Q14 t14
     obtain ⟨es, own⟩ := G.C11 t12 e eS
     refine wpOp_step (o := ?o15) ?i15 (fun K hK => ?_)
     case i15 => simp only [List.getElem?_toArray, List.getElem?_cons_zero, List.getElem?_cons_succ]; exact rfl
     have HK2 := Lib.hid hK
     clear hK
     refine step_moreW elemStr (by rfl) (.tmp 67) (.tmp 69) (by rfl) es own el (hv.own.texts.at_.ext Xw) (strV_one _) (by omega) (by unfold maxLen; omega) ?_
     intro An cn W2 on gn mn
     (try simp only [Nat.zero_add, List.nil_append] at on)
     (try simp only [Act.put, List.setIfInBounds_toArray, List.set_cons_zero, List.set_cons_succ, Nat.zero_add])
     refine HK2.out _ _ ((HI.out _ _ _).2 ⟨{ σ with b15 := true, A21 := An, c21 := cn, s70 := _ }, rfl, rfl, { G with D15 := (fun _ => ⟨t12, t14⟩), D23 := (fun h => ff e (G.D23 h).2.2.1), X := (fun _ => on.ext), CB0 := (fun h h2 h3 => ⟨(G.CB0 h h2 h3).1, (G.CB0 h h2 h3).2.beside own (by decide) (Ext.refl W) gn on.ext⟩), C10 := (fun h h2 h3 => ⟨(G.C10 h h2 h3).1, (G.C10 h h2 h3).2.beside own (by decide) (Ext.refl W) gn on.ext⟩), C20 := (fun h h2 => ⟨(G.C20 h h2).1, (G.C20 h h2).2.beside own (by decide) (Ext.refl W) gn on.ext⟩), CB2 := (fun h h2 h3 => ⟨(G.CB2 h h2 h3).1, (G.CB2 h h2 h3).2.beside own (by decide) (Ext.refl W) gn on.ext⟩), C12 := (fun h h2 h3 => ⟨(G.C12 h h2 h3).1, (G.C12 h h2 h3).2.beside own (by decide) (Ext.refl W) gn on.ext⟩), C22 := (fun h h2 => ⟨(G.C22 h h2).1, (G.C22 h h2).2.beside own (by decide) (Ext.refl W) gn on.ext⟩), CB1 := (fun _ h => ff h t12), C11 := (fun _ h => by cases h), C21 := (fun _ _ => ⟨rfl, on⟩), BL := (fun h => (G.BL h).beside own (by decide) gn), U := (fun h => ff e (G.D23 h).2.2.1), F := (fun h => ff eS h) }⟩)
   · have e : σ.b16 = false := hl
     have hd := hd _ rfl
     clear hl hlt
     clear hd
     have eS : σ.b24 = false := by
      rcases hs : σ.b24 with _ | _
      · rfl
      · exact ff e (G.D19 (G.D22 (G.D23 (G.D24 hs)).2.2.2).1).1
     have Xw := G.X eS
     have He := Lib.hid e
     have HeS := Lib.hid eS
     have HX := Lib.hid Xw
     clear e eS Xw
     refine wpOp_run (o := ?o16) ?i16 ?w16 (fun K hK => ?_)
     case i16 => simp only [List.getElem?_toArray, List.getElem?_cons_zero, List.getElem?_cons_succ]; exact rfl
     case w16 => rfl
     have HK2 := Lib.hid hK
     clear hK
     go_simp
     (try simp only [Act.put, List.setIfInBounds_toArray, List.set_cons_zero, List.set_cons_succ])
     have e := He.out
     have eS := HeS.out
     have Xw := HX.out
     refine HK2.out _ _ ((HI.out _ _ _).2 ⟨{ σ with b16 := true, s71 := _, AB2 := some ⟨W.heap.size, 0, none⟩, cB2 := 0 }, rfl, rfl, { G with D19 := (fun h => ff e (G.D19 h).1), X := (fun _ => Xw.alloc _), CB0 := (fun h h2 h3 => ⟨(G.CB0 h h2 h3).1, (G.CB0 h h2 h3).2.alloc _⟩), C10 := (fun h h2 h3 => ⟨(G.C10 h h2 h3).1, (G.C10 h h2 h3).2.alloc _⟩), C20 := (fun h h2 => ⟨(G.C20 h h2).1, (G.C20 h h2).2.alloc _⟩), CB1 := (fun h h2 h3 => ⟨(G.CB1 h h2 h3).1, (G.CB1 h h2 h3).2.alloc _⟩), C11 := (fun h h2 h3 => ⟨(G.C11 h h2 h3).1, (G.C11 h h2 h3).2.alloc _⟩), C21 := (fun h h2 => ⟨(G.C21 h h2).1, (G.C21 h h2).2.alloc _⟩), CB2 := (fun _ _ _ => ⟨rfl, Own.empty Xw _ _⟩), C12 := (fun h h2 h3 => ⟨(G.C12 h h2 h3).1, (G.C12 h h2 h3).2.alloc _⟩), C22 := (fun h h2 => ⟨(G.C22 h h2).1, (G.C22 h h2).2.alloc _⟩), BL := (fun h => (G.BL h).alloc _), F := (fun h => ff eS h) }⟩)
   · have e : σ.b17 = false := hl
     have hd := hd _ rfl
     clear hl hlt
     clear hd
     have eS : σ.b24 = false := by
      rcases hs : σ.b24 with _ | _
      · rfl
      · exact ff e (G.D18 (G.D19 (G.D22 (G.D23 (G.D24 hs)).2.2.2).1).2)
     have Xw := G.X eS
     have He := Lib.hid e
     have HeS := Lib.hid eS
     have HX := Lib.hid Xw
     clear e eS Xw
     refine wpOp_run (o := ?o17) ?i17 ?w17 (fun K hK => ?_)
     case i17 => simp only [List.getElem?_toArray, List.getElem?_cons_zero, List.getElem?_cons_succ]; exact rfl
     case w17 => rfl
     have HK2 := Lib.hid hK
     clear hK
     go_simp
     (try simp only [Act.put, List.setIfInBounds_toArray, List.set_cons_zero, List.set_cons_succ])
     have e := He.out
     have eS := HeS.out
     have Xw := HX.out
     refine HK2.out _ _ ((HI.out _ _ _).2 ⟨{ σ with b17 := true, s72 := _ }, rfl, rfl, { G with D18 := (fun h => ff e (G.D18 h)), Q17 := (fun _ => rfl), F := (fun h => ff eS h) }⟩)
   · have e : σ.b18 = false := hl
     have hd := hd _ rfl
     clear hl hlt
     simp [Region.binds] at hd
     have t17 : σ.b17 = true := by simp [hd]
     clear hd
     have eS : σ.b24 = false := by
      rcases hs : σ.b24 with _ | _
      · rfl
      · exact ff e (G.D19 (G.D22 (G.D23 (G.D24 hs)).2.2.2).1).2
     have Xw := G.X eS
     have e17 := G.Q17 t17
     have g: W.cell? ⟨kc, 3, none⟩ = some (.slice u.c.1 u.subs.length u.c.2) := Xw.of_cell (B1.cell 3)
     have He := Lib.hid e
     have HeS := Lib.hid eS
     have HX := Lib.hid Xw
     clear e eS Xw
     refine wpOp_run (o := ?o18) ?i18 ?w18 (fun K hK => ?_)
     case i18 => simp only [List.getElem?_toArray, List.getElem?_cons_zero, List.getElem?_cons_succ]; exact rfl
     case w18 => rfl
     have HK2 := Lib.hid hK
     clear hK
     go_simp
     (try simp only [Act.put, List.setIfInBounds_toArray, List.set_cons_zero, List.set_cons_succ])
     have e := He.out
     have eS := HeS.out
     have Xw := HX.out
     refine HK2.out _ _ ((HI.out _ _ _).2 ⟨{ σ with b18 := true, s73 := _, s72 := _ }, rfl, rfl, { G with D18 := (fun _ => t17), D19 := (fun h => ff e (G.D19 h).2), Q17 := (fun _ => rfl), Q18 := (fun _ => rfl), F := (fun h => ff eS h) }⟩)
   · have e : σ.b19 = false := hl
     have hd := hd _ rfl
     clear hl hlt
     simp [Region.binds] at hd
     have t16 : σ.b16 = true := by simp [hd]
     have t18 : σ.b18 = true := by simp [hd]
     clear hd
     have eS : σ.b24 = false := by
      rcases hs : σ.b24 with _ | _
      · rfl
      · exact ff e (G.D22 (G.D23 (G.D24 hs)).2.2.2).1
     have Xw := G.X eS
     have el := G.Q18 t18
     obtain ⟨es, own⟩ := G.CB2 t16 e eS
     refine wpOp_step (o := ?o19) ?i19 (fun K hK => ?_)
     case i19 => simp only [List.getElem?_toArray, List.getElem?_cons_zero, List.getElem?_cons_succ]; exact rfl
     have HK2 := Lib.hid hK
     clear hK
     refine step_moreW elemRM (by rfl) (.tmp 71) (.tmp 73) (by rfl) es own el (hu.own.subs.ext Xw) (treeC_one _) (by omega) (by unfold maxLen; omega) ?_
     intro An cn W2 on gn mn
     (try simp only [Nat.zero_add, List.nil_append] at on)
     (try simp only [Act.put, List.setIfInBounds_toArray, List.set_cons_zero, List.set_cons_succ, Nat.zero_add])
     refine HK2.out _ _ ((HI.out _ _ _).2 ⟨{ σ with b19 := true, A12 := An, c12 := cn, s74 := _ }, rfl, rfl, { G with D19 := (fun _ => ⟨t16, t18⟩), D22 := (fun h => ff e (G.D22 h).1), X := (fun _ => on.ext), CB0 := (fun h h2 h3 => ⟨(G.CB0 h h2 h3).1, (G.CB0 h h2 h3).2.beside own (by decide) (Ext.refl W) gn on.ext⟩), C10 := (fun h h2 h3 => ⟨(G.C10 h h2 h3).1, (G.C10 h h2 h3).2.beside own (by decide) (Ext.refl W) gn on.ext⟩), C20 := (fun h h2 => ⟨(G.C20 h h2).1, (G.C20 h h2).2.beside own (by decide) (Ext.refl W) gn on.ext⟩), CB1 := (fun h h2 h3 => ⟨(G.CB1 h h2 h3).1, (G.CB1 h h2 h3).2.beside own (by decide) (Ext.refl W) gn on.ext⟩), C11 := (fun h h2 h3 => ⟨(G.C11 h h2 h3).1, (G.C11 h h2 h3).2.beside own (by decide) (Ext.refl W) gn on.ext⟩), C21 := (fun h h2 => ⟨(G.C21 h h2).1, (G.C21 h h2).2.beside own (by decide) (Ext.refl W) gn on.ext⟩), CB2 := (fun _ h => by cases h), C12 := (fun _ _ _ => ⟨rfl, on⟩), C22 := (fun h => ff e (G.D22 h).1), BL := (fun h => (G.BL h).beside own (by decide) gn), F := (fun h => ff eS h) }⟩)
   · have e : σ.b20 = false := hl
     have hd := hd _ rfl
     clear hl hlt
     clear hd
     have eS : σ.b24 = false := by
      rcases hs : σ.b24 with _ | _
      · rfl
      · exact ff e (G.D21 (G.D22 (G.D23 (G.D24 hs)).2.2.2).2)
     have Xw := G.X eS
     have He := Lib.hid e
     have HeS := Lib.hid eS
     have HX := Lib.hid Xw
     clear e eS Xw
     refine wpOp_run (o := ?o20) ?i20 ?w20 (fun K hK => ?_)
     case i20 => simp only [List.getElem?_toArray, List.getElem?_cons_zero, List.getElem?_cons_succ]; exact rfl
     case w20 => rfl
     have HK2 := Lib.hid hK
     clear hK
     go_simp
     (try simp only [Act.put, List.setIfInBounds_toArray, List.set_cons_zero, List.set_cons_succ])
     have e := He.out
     have eS := HeS.out
     have Xw := HX.out
     refine HK2.out _ _ ((HI.out _ _ _).2 ⟨{ σ with b20 := true, s75 := _ }, rfl, rfl, { G with D21 := (fun h => ff e (G.D21 h)), Q20 := (fun _ => rfl), F := (fun h => ff eS h) }⟩)
   · have e : σ.b21 = false := hl
     have hd := hd _ rfl
     clear hl hlt
     simp [Region.binds] at hd
     have t20 : σ.b20 = true := by simp [hd]
     clear hd
     have eS : σ.b24 = false := by
      rcases hs : σ.b24 with _ | _
      · rfl
      · exact ff e (G.D22 (G.D23 (G.D24 hs)).2.2.2).2
     have Xw := G.X eS
     have e20 := G.Q20 t20
     have g: W.cell? ⟨ka, 3, none⟩ = some (.slice v.c.1 v.subs.length v.c.2) := Xw.of_cell (B0.cell 3)
     have He := Lib.hid e
     have HeS := Lib.hid eS
     have HX := Lib.hid Xw
     clear e eS Xw
     refine wpOp_run (o := ?o21) ?i21 ?w21 (fun K hK => ?_)
     case i21 => simp only [List.getElem?_toArray, List.getElem?_cons_zero, List.getElem?_cons_succ]; exact rfl
     case w21 => rfl
     have HK2 := Lib.hid hK
     clear hK
     go_simp
     (try simp only [Act.put, List.setIfInBounds_toArray, List.set_cons_zero, List.set_cons_succ])
     have e := He.out
     have eS := HeS.out
     have Xw := HX.out
     refine HK2.out _ _ ((HI.out _ _ _).2 ⟨{ σ with b21 := true, s76 := _, s75 := _ }, rfl, rfl, { G with D21 := (fun _ => t20), D22 := (fun h => ff e (G.D22 h).2), Q20 := (fun _ => rfl), Q21 := (fun _ => rfl), F := (fun h => ff eS h) }⟩)
   · have e : σ.b22 = false := hl
     have hd := hd _ rfl
     clear hl hlt
     simp [Region.binds] at hd
     have t19 : σ.b19 = true := by simp [hd]
     have t21 : σ.b21 = true := by simp [hd]
     clear hd
     have eS : σ.b24 = false := by
      rcases hs : σ.b24 with _ | _
      · rfl
      · exact ff e (G.D23 (G.D24 hs)).2.2.2
     have Xw := G.X eS
     have el := G.Q21 t21
     obtain ⟨es, own⟩ := G.C12 t19 e eS
     refine wpOp_step (o := ?o22) ?i22 (fun K hK => ?_)
     case i22 => simp only [List.getElem?_toArray, List.getElem?_cons_zero, List.getElem?_cons_succ]; exact rfl
     have HK2 := Lib.hid hK
     clear hK
     refine step_moreW elemRM (by rfl) (.tmp 74) (.tmp 76) (by rfl) es own el (hv.own.subs.ext Xw) (treeC_one _) (by omega) (by unfold maxLen; omega) ?_
     intro An cn W2 on gn mn
     (try simp only [Nat.zero_add, List.nil_append] at on)
     (try simp only [Act.put, List.setIfInBounds_toArray, List.set_cons_zero, List.set_cons_succ, Nat.zero_add])
     refine HK2.out _ _ ((HI.out _ _ _).2 ⟨{ σ with b22 := true, A22 := An, c22 := cn, s77 := _ }, rfl, rfl, { G with D22 := (fun _ => ⟨t19, t21⟩), D23 := (fun h => ff e (G.D23 h).2.2.2), X := (fun _ => on.ext), CB0 := (fun h h2 h3 => ⟨(G.CB0 h h2 h3).1, (G.CB0 h h2 h3).2.beside own (by decide) (Ext.refl W) gn on.ext⟩), C10 := (fun h h2 h3 => ⟨(G.C10 h h2 h3).1, (G.C10 h h2 h3).2.beside own (by decide) (Ext.refl W) gn on.ext⟩), C20 := (fun h h2 => ⟨(G.C20 h h2).1, (G.C20 h h2).2.beside own (by decide) (Ext.refl W) gn on.ext⟩), CB1 := (fun h h2 h3 => ⟨(G.CB1 h h2 h3).1, (G.CB1 h h2 h3).2.beside own (by decide) (Ext.refl W) gn on.ext⟩), C11 := (fun h h2 h3 => ⟨(G.C11 h h2 h3).1, (G.C11 h h2 h3).2.beside own (by decide) (Ext.refl W) gn on.ext⟩), C21 := (fun h h2 => ⟨(G.C21 h h2).1, (G.C21 h h2).2.beside own (by decide) (Ext.refl W) gn on.ext⟩), CB2 := (fun _ h => ff h t19), C12 := (fun _ h => by cases h), C22 := (fun _ _ => ⟨rfl, on⟩), BL := (fun h => (G.BL h).beside own (by decide) gn), U := (fun h => ff e (G.D23 h).2.2.2), F := (fun h => ff eS h) }⟩)
   · have e : σ.b23 = false := hl
     have hd := hd _ rfl
     clear hl hlt
     simp [Region.binds] at hd
     have t1 : σ.b1 = true := by simp [hd]
     have t8 : σ.b8 = true := by simp [hd]
     have t15 : σ.b15 = true := by simp [hd]
     have t22 : σ.b22 = true := by simp [hd]
     clear hd
     have eS : σ.b24 = false := by
      rcases hs : σ.b24 with _ | _
      · rfl
      · exact ff e (G.D24 hs)
     have Xw := G.X eS
     have e1 := G.Q1 t1
     obtain ⟨es0, own0⟩ := G.C20 t8 eS
     obtain ⟨es1, own1⟩ := G.C21 t15 eS
     obtain ⟨es2, own2⟩ := G.C22 t22 eS
     have He := Lib.hid e
     have HeS := Lib.hid eS
     have HX := Lib.hid Xw
     clear e eS Xw
     refine wpOp_run (o := ?o23) ?i23 ?w23 (fun K hK => ?_)
     case i23 => simp only [List.getElem?_toArray, List.getElem?_cons_zero, List.getElem?_cons_succ]; exact rfl
     case w23 => rfl
     have HK2 := Lib.hid hK
     clear hK
     go_simp
     (try simp only [Act.put, List.setIfInBounds_toArray, List.set_cons_zero, List.set_cons_succ])
     have e := He.out
     have eS := HeS.out
     have Xw := HX.out
     refine HK2.out _ _ ((HI.out _ _ _).2 ⟨{ σ with b23 := true, s78 := _, s56 := _, s63 := _, s70 := _, s77 := _ }, rfl, rfl, { G with D23 := (fun _ => ⟨t1, t8, t15, t22⟩), D24 := (fun h => ff e (G.D24 h)), Q1 := (fun _ => rfl), C20 := (fun _ _ => ⟨rfl, own0⟩), C21 := (fun _ _ => ⟨rfl, own1⟩), C22 := (fun _ _ => ⟨rfl, own2⟩), U := (fun _ _ => rfl), F := (fun h => ff eS h) }⟩)
   · have e : σ.b24 = false := hl
     have hd := hd _ rfl
     clear hl hlt
     simp [Region.binds] at hd
     have t23 : σ.b23 = true := by simp [hd]
     clear hd
     have eS : σ.b24 = false := e
     have Xw := G.X eS
     have eu := G.U t23 eS
     obtain ⟨es0, own0⟩ := G.C20 (G.D23 t23).2.1 eS
     have HO0 := Lib.hid own0
     clear own0
     clear es0
     obtain ⟨es1, own1⟩ := G.C21 (G.D23 t23).2.2.1 eS
     have HO1 := Lib.hid own1
     clear own1
     clear es1
     obtain ⟨es2, own2⟩ := G.C22 (G.D23 t23).2.2.2 eS
     have HO2 := Lib.hid own2
     clear own2
     clear es2
     have B := G.BL eS
     have g0 : W.cell? ⟨ka, 0, none⟩ = some (.int .i64 v.number) := B.cell 0
     have f0 := B.free 0
     have g1 : W.cell? ⟨ka, 1, none⟩ = some (.slice v.a.1 v.words.length v.a.2) := B.cell 1
     have f1 := B.free 1
     have g2 : W.cell? ⟨ka, 2, none⟩ = some (.slice v.b.1 v.texts.length v.b.2) := B.cell 2
     have f2 := B.free 2
     have g3 : W.cell? ⟨ka, 3, none⟩ = some (.slice v.c.1 v.subs.length v.c.2) := B.cell 3
     have f3 := B.free 3
     have lb := B.lt
     have HB := Lib.hid B
     clear B
     have He := Lib.hid e
     have HeS := Lib.hid eS
     have HX := Lib.hid Xw
     clear e eS Xw
     refine wpOp_run (o := ?o24) ?i24 ?w24 (fun K hK => ?_)
     case i24 => simp only [List.getElem?_toArray, List.getElem?_cons_zero, List.getElem?_cons_succ]; exact rfl
     case w24 => rfl
     have HK2 := Lib.hid hK
     clear hK
     go_simp
     (try simp only [Act.put, List.setIfInBounds_toArray, List.set_cons_zero, List.set_cons_succ])
     have e := He.out
     have eS := HeS.out
     have Xw := HX.out
     refine HK2.out _ _ ((HI.out _ _ _).2 ⟨{ σ with b24 := true, s78 := _ }, rfl, rfl, { G with D24 := (fun _ => t23), U := (fun _ h => by cases h), CB0 := (fun _ _ h => by cases h), C10 := (fun _ _ h => by cases h), C20 := (fun _ h => by cases h), CB1 := (fun _ _ h => by cases h), C11 := (fun _ _ h => by cases h), C21 := (fun _ h => by cases h), CB2 := (fun _ _ h => by cases h), C12 := (fun _ _ h => by cases h), C22 := (fun _ h => by cases h), X := (fun h => by cases h), BL := (fun h => by cases h), F := (fun _ => ⟨(((((E0.trans HX.out).setCell (p := ⟨ka, 0, none⟩) hb (.int .i64 v.number)).setCell (p := ⟨ka, 1, none⟩) hb (.slice σ.A20 (u.words.length + v.words.length) σ.c20)).setCell (p := ⟨ka, 2, none⟩) hb (.slice σ.A21 (u.texts.length + v.texts.length) σ.c21)).setCell (p := ⟨ka, 3, none⟩) hb (.slice σ.A22 (u.subs.length + v.subs.length) σ.c22)), (((((Stays.of_ext HX.out).set (p := ⟨ka, 0, none⟩) (fun e => e rfl) (.int .i64 v.number)).set (p := ⟨ka, 1, none⟩) (fun e => e rfl) (.slice σ.A20 (u.words.length + v.words.length) σ.c20)).set (p := ⟨ka, 2, none⟩) (fun e => e rfl) (.slice σ.A21 (u.texts.length + v.texts.length) σ.c21)).set (p := ⟨ka, 3, none⟩) (fun e => e rfl) (.slice σ.A22 (u.subs.length + v.subs.length) σ.c22)), ((((HB.out.set_ 0 (.int .i64 v.number)).set_ 1 (.slice σ.A20 (u.words.length + v.words.length) σ.c20)).set_ 2 (.slice σ.A21 (u.texts.length + v.texts.length) σ.c21)).set_ 3 (.slice σ.A22 (u.subs.length + v.subs.length) σ.c22)), (((((HO0.out.since E0).far HB.out (by decide) hb 0 (.int .i64 v.number)).far (HB.out.set_ 0 (.int .i64 v.number)) (by decide) hb 1 (.slice σ.A20 (u.words.length + v.words.length) σ.c20)).far ((HB.out.set_ 0 (.int .i64 v.number)).set_ 1 (.slice σ.A20 (u.words.length + v.words.length) σ.c20)) (by decide) hb 2 (.slice σ.A21 (u.texts.length + v.texts.length) σ.c21)).far (((HB.out.set_ 0 (.int .i64 v.number)).set_ 1 (.slice σ.A20 (u.words.length + v.words.length) σ.c20)).set_ 2 (.slice σ.A21 (u.texts.length + v.texts.length) σ.c21)) (by decide) hb 3 (.slice σ.A22 (u.subs.length + v.subs.length) σ.c22)), (((((HO1.out.since E0).far HB.out (by decide) hb 0 (.int .i64 v.number)).far (HB.out.set_ 0 (.int .i64 v.number)) (by decide) hb 1 (.slice σ.A20 (u.words.length + v.words.length) σ.c20)).far ((HB.out.set_ 0 (.int .i64 v.number)).set_ 1 (.slice σ.A20 (u.words.length + v.words.length) σ.c20)) (by decide) hb 2 (.slice σ.A21 (u.texts.length + v.texts.length) σ.c21)).far (((HB.out.set_ 0 (.int .i64 v.number)).set_ 1 (.slice σ.A20 (u.words.length + v.words.length) σ.c20)).set_ 2 (.slice σ.A21 (u.texts.length + v.texts.length) σ.c21)) (by decide) hb 3 (.slice σ.A22 (u.subs.length + v.subs.length) σ.c22)), (((((HO2.out.since E0).far HB.out (by decide) hb 0 (.int .i64 v.number)).far (HB.out.set_ 0 (.int .i64 v.number)) (by decide) hb 1 (.slice σ.A20 (u.words.length + v.words.length) σ.c20)).far ((HB.out.set_ 0 (.int .i64 v.number)).set_ 1 (.slice σ.A20 (u.words.length + v.words.length) σ.c20)) (by decide) hb 2 (.slice σ.A21 (u.texts.length + v.texts.length) σ.c21)).far (((HB.out.set_ 0 (.int .i64 v.number)).set_ 1 (.slice σ.A20 (u.words.length + v.words.length) σ.c20)).set_ 2 (.slice σ.A21 (u.texts.length + v.texts.length) σ.c21)) (by decide) hb 3 (.slice σ.A22 (u.subs.length + v.subs.length) σ.c22))⟩) }⟩)
 · obtain ⟨σ, rfl, rfl, hF⟩ := (HI.out _ _ _).1 hi
   clear hi
   have t0 : σ.b0 = true := ready_none hr (i := 0) rfl (by simp [Region.binds]) (show 0 < 25 by decide)
   have t1 : σ.b1 = true := ready_none hr (i := 1) rfl (by simp [Region.binds, t0]) (show 1 < 25 by decide)
   have t2 : σ.b2 = true := ready_none hr (i := 2) rfl (by simp [Region.binds, t0, t1]) (show 2 < 25 by decide)
   have t3 : σ.b3 = true := ready_none hr (i := 3) rfl (by simp [Region.binds, t0, t1, t2]) (show 3 < 25 by decide)
   have t4 : σ.b4 = true := ready_none hr (i := 4) rfl (by simp [Region.binds, t0, t1, t2, t3]) (show 4 < 25 by decide)
   have t5 : σ.b5 = true := ready_none hr (i := 5) rfl (by simp [Region.binds, t0, t1, t2, t3, t4]) (show 5 < 25 by decide)
   have t6 : σ.b6 = true := ready_none hr (i := 6) rfl (by simp [Region.binds, t0, t1, t2, t3, t4, t5]) (show 6 < 25 by decide)
   have t7 : σ.b7 = true := ready_none hr (i := 7) rfl (by simp [Region.binds, t0, t1, t2, t3, t4, t5, t6]) (show 7 < 25 by decide)
   have t8 : σ.b8 = true := ready_none hr (i := 8) rfl (by simp [Region.binds, t0, t1, t2, t3, t4, t5, t6, t7]) (show 8 < 25 by decide)
   have t9 : σ.b9 = true := ready_none hr (i := 9) rfl (by simp [Region.binds, t0, t1, t2, t3, t4, t5, t6, t7, t8]) (show 9 < 25 by decide)
   have t10 : σ.b10 = true := ready_none hr (i := 10) rfl (by simp [Region.binds, t0, t1, t2, t3, t4, t5, t6, t7, t8, t9]) (show 10 < 25 by decide)
   have t11 : σ.b11 = true := ready_none hr (i := 11) rfl (by simp [Region.binds, t0, t1, t2, t3, t4, t5, t6, t7, t8, t9, t10]) (show 11 < 25 by decide)
   have t12 : σ.b12 = true := ready_none hr (i := 12) rfl (by simp [Region.binds, t0, t1, t2, t3, t4, t5, t6, t7, t8, t9, t10, t11]) (show 12 < 25 by decide)
   have t13 : σ.b13 = true := ready_none hr (i := 13) rfl (by simp [Region.binds, t0, t1, t2, t3, t4, t5, t6, t7, t8, t9, t10, t11, t12]) (show 13 < 25 by decide)
   have t14 : σ.b14 = true := ready_none hr (i := 14) rfl (by simp [Region.binds, t0, t1, t2, t3, t4, t5, t6, t7, t8, t9, t10, t11, t12, t13]) (show 14 < 25 by decide)
   have t15 : σ.b15 = true := ready_none hr (i := 15) rfl (by simp [Region.binds, t0, t1, t2, t3, t4, t5, t6, t7, t8, t9, t10, t11, t12, t13, t14]) (show 15 < 25 by decide)
   have t16 : σ.b16 = true := ready_none hr (i := 16) rfl (by simp [Region.binds, t0, t1, t2, t3, t4, t5, t6, t7, t8, t9, t10, t11, t12, t13, t14, t15]) (show 16 < 25 by decide)
   have t17 : σ.b17 = true := ready_none hr (i := 17) rfl (by simp [Region.binds, t0, t1, t2, t3, t4, t5, t6, t7, t8, t9, t10, t11, t12, t13, t14, t15, t16]) (show 17 < 25 by decide)
   have t18 : σ.b18 = true := ready_none hr (i := 18) rfl (by simp [Region.binds, t0, t1, t2, t3, t4, t5, t6, t7, t8, t9, t10, t11, t12, t13, t14, t15, t16, t17]) (show 18 < 25 by decide)
   have t19 : σ.b19 = true := ready_none hr (i := 19) rfl (by simp [Region.binds, t0, t1, t2, t3, t4, t5, t6, t7, t8, t9, t10, t11, t12, t13, t14, t15, t16, t17, t18]) (show 19 < 25 by decide)
   have t20 : σ.b20 = true := ready_none hr (i := 20) rfl (by simp [Region.binds, t0, t1, t2, t3, t4, t5, t6, t7, t8, t9, t10, t11, t12, t13, t14, t15, t16, t17, t18, t19]) (show 20 < 25 by decide)
   have t21 : σ.b21 = true := ready_none hr (i := 21) rfl (by simp [Region.binds, t0, t1, t2, t3, t4, t5, t6, t7, t8, t9, t10, t11, t12, t13, t14, t15, t16, t17, t18, t19, t20]) (show 21 < 25 by decide)
   have t22 : σ.b22 = true := ready_none hr (i := 22) rfl (by simp [Region.binds, t0, t1, t2, t3, t4, t5, t6, t7, t8, t9, t10, t11, t12, t13, t14, t15, t16, t17, t18, t19, t20, t21]) (show 22 < 25 by decide)
   have t23 : σ.b23 = true := ready_none hr (i := 23) rfl (by simp [Region.binds, t0, t1, t2, t3, t4, t5, t6, t7, t8, t9, t10, t11, t12, t13, t14, t15, t16, t17, t18, t19, t20, t21, t22]) (show 23 < 25 by decide)
   have t24 : σ.b24 = true := ready_none hr (i := 24) rfl (by simp [Region.binds, t0, t1, t2, t3, t4, t5, t6, t7, t8, t9, t10, t11, t12, t13, t14, t15, t16, t17, t18, t19, t20, t21, t22, t23]) (show 24 < 25 by decide)
   obtain ⟨x0, st, bl, o0, o1, o2⟩ := hF.F t24
   exact HK.out _ _ _ _ _ _ _ _ _ _ _ _ _ _ _ _ _ _ _ _ _ _ _ _ _ _ _ _ _ _  W x0 st bl  o0 o1 o2
 · refine (HI.out _ _ _).2 ⟨⟨false, false, false, false, false, false, false, false, false, false, false, false, false, false, false, false, false, false, false, false, false, false, false, false, false, _, _, _, _, _, _, _, _, _, _, _, _, _, _, _, _, _, _, _, _, _, _, _, _, none, none, none, none, none, none, none, none, none, 0, 0, 0, 0, 0, 0, 0, 0, 0⟩, rfl, rfl, ?_⟩
   constructor
   all_goals dsimp only
   all_goals first | exact fun _ => B0.drew | exact fun _ => (Ext.refl w).drew | (intro h; cases h; done)

end Go.Proofs.YtnnphodgegcddaaGreat

/- The drawn regions of the reference's Join, as laws of their own. (Printed by gen_inv3.py.) -/



namespace Go.Proofs.YtnnphodgegcddaaGreat
open Go.RowKit Go.Shelf
set_option linter.unusedVariables false
set_option linter.unusedSimpArgs false

structure Jreg15S where
 (b0 b1 b2 b3 b4 b5 b6 b7 b8 : Bool)
 (s101 s102 s103 s104 s105 s106 s107 s108 : Value)
 (AB0 A10 A20 : Option Addr)
 (cB0 c10 c20 : Nat)

structure Jreg15F (w0 : World) (w : World) (ka : Nat) (kx : Nat) (ky : Nat) (x : MsgR) (y : MsgR) (z : MsgR) (σ : Jreg15S) (W : World) : Prop where
 X : σ.b8 = false → Ext w W
 Q1 : σ.b1 = true → σ.s102 = .pointer (some ⟨kx, 1, none⟩)
 Q2 : σ.b2 = true → σ.s103 = .slice x.b.1 x.unk.length x.b.2
 Q4 : σ.b4 = true → σ.s105 = .pointer (some ⟨ky, 1, none⟩)
 Q5 : σ.b5 = true → σ.s106 = .slice y.b.1 y.unk.length y.b.2
 CB0 : σ.b0 = true → σ.b3 = false → σ.b8 = false → σ.s101 = .slice σ.AB0 0 σ.cB0 ∧ Own w W 9 1 σ.AB0 (0) σ.cB0 ([])
 C10 : σ.b3 = true → σ.b6 = false → σ.b8 = false → σ.s104 = .slice σ.A10 (x.unk.length) σ.c10 ∧ Own w W 9 1 σ.A10 (x.unk.length) σ.c10 (x.unk.map strV)
 C20 : σ.b6 = true → σ.b8 = false → σ.s107 = .slice σ.A20 (x.unk.length + y.unk.length) σ.c20 ∧ Own w W 9 1 σ.A20 (x.unk.length + y.unk.length) σ.c20 (x.unk.map strV ++ y.unk.map strV)
 Q7 : σ.b7 = true → σ.s108 = .pointer (some ⟨ka, 1, none⟩)
 BL : σ.b8 = false → BlkT W ka 40 #[.slice z.a.1 z.vals.length z.a.2, .slice z.b.1 z.unk.length z.b.2]
 F : σ.b8 = true → Ext w0 W ∧ Stays (fun b => b ≠ ka) w W ∧ BlkT W ka 40 #[.slice z.a.1 z.vals.length z.a.2, .slice σ.A20 (x.unk.length + y.unk.length) σ.c20] ∧ Own w0 W 9 1 σ.A20 (x.unk.length + y.unk.length) σ.c20 (x.unk.map strV ++ y.unk.map strV)
 D2 : σ.b2 = true → σ.b1 = true
 D3 : σ.b3 = true → σ.b0 = true ∧ σ.b2 = true
 D5 : σ.b5 = true → σ.b4 = true
 D6 : σ.b6 = true → σ.b3 = true ∧ σ.b5 = true
 D8 : σ.b8 = true → σ.b6 = true ∧ σ.b7 = true

set_option maxRecDepth 100000 in
set_option maxHeartbeats 4000000 in
theorem jreg15 {Q0 : Exit → Act → World → Prop} {u0 u1 u2 u3 u4 u5 u8 u10 u11 u12 u13 u14 u15 u16 u17 u18 u19 u20 u21 u22 u23 u24 u25 u26 u27 u28 u29 u30 u31 u32 u33 u34 u35 u36 u37 u38 u39 u40 u41 u42 u43 u44 u45 u46 u47 u48 u49 u50 u51 u52 u53 u54 u55 u56 u57 u58 u59 u60 u61 u62 u63 u64 u65 u66 u67 u68 u69 u70 u71 u72 u73 u74 u75 u76 u77 u78 u79 u80 u81 u82 u83 u84 u85 u86 u87 u88 u89 u90 u91 u92 u93 u94 u95 u96 u97 u98 u99 u100 u101 u102 u103 u104 u105 u106 u107 u108 u109 : Value} {w0 : World} {w : World} {ka : Nat} {kx : Nat} {ky : Nat} {x : MsgR} {y : MsgR} {z : MsgR} (E0 : Ext w0 w) (hb : w0.heap.size ≤ ka) (B0 : BlkT w ka 40 #[.slice z.a.1 z.vals.length z.a.2, .slice z.b.1 z.unk.length z.b.2]) (hx : TextsAt w x.b x.unk) (hy : TextsAt w y.b y.unk) (X1 : w.cell? ⟨kx, 1, none⟩ = some (.slice x.b.1 x.unk.length x.b.2)) (Y1 : w.cell? ⟨ky, 1, none⟩ = some (.slice y.b.1 y.unk.length y.b.2)) (lx : x.unk.length ≤ 1000000000) (ly : y.unk.length ≤ 1000000000)
  (hK : ∀ (s101 s102 s103 s104 s105 s106 s107 s108 : Value) (A20 : Option Addr) (c20 : Nat) (wz : World), Ext w0 wz → Stays (fun b => b ≠ ka) w wz → BlkT wz ka 40 #[.slice z.a.1 z.vals.length z.a.2, .slice A20 (x.unk.length + y.unk.length) c20] → Own w0 wz 9 1 A20 (x.unk.length + y.unk.length) c20 (x.unk.map strV ++ y.unk.map strV) → Q0 .normal ⟨#[u0, u1, u2, u3, u4, u5, .pointer (some ⟨kx, 0, none⟩), .pointer (some ⟨ky, 0, none⟩), u8, .pointer (some ⟨ka, 0, none⟩), u10, u11, u12, u13, u14, u15, u16, u17, u18, u19, u20, u21, u22, u23, u24, u25, u26, u27, u28, u29, u30, u31, u32, u33, u34, u35, u36, u37, u38, u39, u40, u41, u42, u43, u44, u45, u46, u47, u48, u49, u50, u51, u52, u53, u54, u55, u56, u57, u58, u59, u60, u61, u62, u63, u64, u65, u66, u67, u68, u69, u70, u71, u72, u73, u74, u75, u76, u77, u78, u79, u80, u81, u82, u83, u84, u85, u86, u87, u88, u89, u90, u91, u92, u93, u94, u95, u96, u97, u98, u99, u100, s101, s102, s103, s104, s105, s106, s107, s108, u109], []⟩ wz) :
  Code.wp Tryz.prog (regJ 15) (calmQ Q0) ⟨#[u0, u1, u2, u3, u4, u5, .pointer (some ⟨kx, 0, none⟩), .pointer (some ⟨ky, 0, none⟩), u8, .pointer (some ⟨ka, 0, none⟩), u10, u11, u12, u13, u14, u15, u16, u17, u18, u19, u20, u21, u22, u23, u24, u25, u26, u27, u28, u29, u30, u31, u32, u33, u34, u35, u36, u37, u38, u39, u40, u41, u42, u43, u44, u45, u46, u47, u48, u49, u50, u51, u52, u53, u54, u55, u56, u57, u58, u59, u60, u61, u62, u63, u64, u65, u66, u67, u68, u69, u70, u71, u72, u73, u74, u75, u76, u77, u78, u79, u80, u81, u82, u83, u84, u85, u86, u87, u88, u89, u90, u91, u92, u93, u94, u95, u96, u97, u98, u99, u100, u101, u102, u103, u104, u105, u106, u107, u108, u109], []⟩ w := by
 have HK := Lib.hid hK
 clear hK
 have hbl := B0.lt
 conv => arg 2; whnf
 obtain ⟨I, hI⟩ : ∃ I : Array Bool → Act → World → Prop, ∀ l a W, I l a W ↔ (∃ σ : Jreg15S, l = #[σ.b0, σ.b1, σ.b2, σ.b3, σ.b4, σ.b5, σ.b6, σ.b7, σ.b8] ∧ a = ⟨#[u0, u1, u2, u3, u4, u5, .pointer (some ⟨kx, 0, none⟩), .pointer (some ⟨ky, 0, none⟩), u8, .pointer (some ⟨ka, 0, none⟩), u10, u11, u12, u13, u14, u15, u16, u17, u18, u19, u20, u21, u22, u23, u24, u25, u26, u27, u28, u29, u30, u31, u32, u33, u34, u35, u36, u37, u38, u39, u40, u41, u42, u43, u44, u45, u46, u47, u48, u49, u50, u51, u52, u53, u54, u55, u56, u57, u58, u59, u60, u61, u62, u63, u64, u65, u66, u67, u68, u69, u70, u71, u72, u73, u74, u75, u76, u77, u78, u79, u80, u81, u82, u83, u84, u85, u86, u87, u88, u89, u90, u91, u92, u93, u94, u95, u96, u97, u98, u99, u100, σ.s101, σ.s102, σ.s103, σ.s104, σ.s105, σ.s106, σ.s107, σ.s108, u109], []⟩ ∧ Jreg15F w0 w ka kx ky x y z σ W) := ⟨_, fun _ _ _ => Iff.rfl⟩
 have HI := Lib.hid hI
 clear hI
 refine wp_region_inv (I := I) (by kernel_rfl) (fun i l a W hi hr => ?_) (fun l a W hi hr => ?_) ?_
 · obtain ⟨σ, rfl, rfl, G⟩ := (HI.out _ _ _).1 hi
   clear hi
   obtain ⟨hlt, hl, hd⟩ := ready_spec hr
   clear hr
   have hlt : i < 9 := hlt
   rcases (show i = 0 ∨ i = 1 ∨ i = 2 ∨ i = 3 ∨ i = 4 ∨ i = 5 ∨ i = 6 ∨ i = 7 ∨ i = 8 by omega) with rfl | rfl | rfl | rfl | rfl | rfl | rfl | rfl | rfl
   · have e : σ.b0 = false := hl
     have hd := hd _ rfl
     clear hl hlt
     clear hd
     have eS : σ.b8 = false := by
      rcases hs : σ.b8 with _ | _
      · rfl
      · exact ff e (G.D3 (G.D6 (G.D8 hs).1).1).1
     have Xw := G.X eS
     have He := Lib.hid e
     have HeS := Lib.hid eS
     have HX := Lib.hid Xw
     clear e eS Xw
     refine wpOp_run (o := ?o0) ?i0 ?w0 (fun K hK => ?_)
     case i0 => simp only [List.getElem?_toArray, List.getElem?_cons_zero, List.getElem?_cons_succ]; exact rfl
     case w0 => rfl
     have HK2 := Lib.hid hK
     clear hK
     go_simp
     (try simp only [Act.put, List.setIfInBounds_toArray, List.set_cons_zero, List.set_cons_succ])
     have e := He.out
     have eS := HeS.out
     have Xw := HX.out
     refine HK2.out _ _ ((HI.out _ _ _).2 ⟨{ σ with b0 := true, s101 := _, AB0 := some ⟨W.heap.size, 0, none⟩, cB0 := 0 }, rfl, rfl, { G with D3 := (fun h => ff e (G.D3 h).1), X := (fun _ => Xw.alloc _), CB0 := (fun _ _ _ => ⟨rfl, Own.empty Xw _ _⟩), C10 := (fun h h2 h3 => ⟨(G.C10 h h2 h3).1, (G.C10 h h2 h3).2.alloc _⟩), C20 := (fun h h2 => ⟨(G.C20 h h2).1, (G.C20 h h2).2.alloc _⟩), BL := (fun h => (G.BL h).alloc _), F := (fun h => ff eS h) }⟩)
   · have e : σ.b1 = false := hl
     have hd := hd _ rfl
     clear hl hlt
     clear hd
     have eS : σ.b8 = false := by
      rcases hs : σ.b8 with _ | _
      · rfl
      · exact ff e (G.D2 (G.D3 (G.D6 (G.D8 hs).1).1).2)
     have Xw := G.X eS
     have He := Lib.hid e
     have HeS := Lib.hid eS
     have HX := Lib.hid Xw
     clear e eS Xw
     refine wpOp_run (o := ?o1) ?i1 ?w1 (fun K hK => ?_)
     case i1 => simp only [List.getElem?_toArray, List.getElem?_cons_zero, List.getElem?_cons_succ]; exact rfl
     case w1 => rfl
     have HK2 := Lib.hid hK
     clear hK
     go_simp
     (try simp only [Act.put, List.setIfInBounds_toArray, List.set_cons_zero, List.set_cons_succ])
     have e := He.out
     have eS := HeS.out
     have Xw := HX.out
     refine HK2.out _ _ ((HI.out _ _ _).2 ⟨{ σ with b1 := true, s102 := _ }, rfl, rfl, { G with D2 := (fun h => ff e (G.D2 h)), Q1 := (fun _ => rfl), F := (fun h => ff eS h) }⟩)
   · have e : σ.b2 = false := hl
     have hd := hd _ rfl
     clear hl hlt
     simp [Region.binds] at hd
     have t1 : σ.b1 = true := by simp [hd]
     clear hd
     have eS : σ.b8 = false := by
      rcases hs : σ.b8 with _ | _
      · rfl
      · exact ff e (G.D3 (G.D6 (G.D8 hs).1).1).2
     have Xw := G.X eS
     have e1 := G.Q1 t1
     have g: W.cell? ⟨kx, 1, none⟩ = some (.slice x.b.1 x.unk.length x.b.2) := Xw.of_cell X1
     have He := Lib.hid e
     have HeS := Lib.hid eS
     have HX := Lib.hid Xw
     clear e eS Xw
     refine wpOp_run (o := ?o2) ?i2 ?w2 (fun K hK => ?_)
     case i2 => simp only [List.getElem?_toArray, List.getElem?_cons_zero, List.getElem?_cons_succ]; exact rfl
     case w2 => rfl
     have HK2 := Lib.hid hK
     clear hK
     go_simp
     (try simp only [Act.put, List.setIfInBounds_toArray, List.set_cons_zero, List.set_cons_succ])
     have e := He.out
     have eS := HeS.out
     have Xw := HX.out
     refine HK2.out _ _ ((HI.out _ _ _).2 ⟨{ σ with b2 := true, s103 := _, s102 := _ }, rfl, rfl, { G with D2 := (fun _ => t1), D3 := (fun h => ff e (G.D3 h).2), Q1 := (fun _ => rfl), Q2 := (fun _ => rfl), F := (fun h => ff eS h) }⟩)
   · have e : σ.b3 = false := hl
     have hd := hd _ rfl
     clear hl hlt
     simp [Region.binds] at hd
     have t0 : σ.b0 = true := by simp [hd]
     have t2 : σ.b2 = true := by simp [hd]
     clear hd
     have eS : σ.b8 = false := by
      rcases hs : σ.b8 with _ | _
      · rfl
      · exact ff e (G.D6 (G.D8 hs).1).1
     have Xw := G.X eS
     have el := G.Q2 t2
     obtain ⟨es, own⟩ := G.CB0 t0 e eS
     refine wpOp_step (o := ?o3) ?i3 (fun K hK => ?_)
     case i3 => simp only [List.getElem?_toArray, List.getElem?_cons_zero, List.getElem?_cons_succ]; exact rfl
     have HK2 := Lib.hid hK
     clear hK
     refine step_moreW elemStr (by rfl) (.tmp 101) (.tmp 103) (by rfl) es own el (hx.at_.ext Xw) (strV_one _) (by omega) (by unfold maxLen; omega) ?_
     intro An cn W2 on gn mn
     (try simp only [Nat.zero_add, List.nil_append] at on)
     (try simp only [Act.put, List.setIfInBounds_toArray, List.set_cons_zero, List.set_cons_succ, Nat.zero_add])
     refine HK2.out _ _ ((HI.out _ _ _).2 ⟨{ σ with b3 := true, A10 := An, c10 := cn, s104 := _ }, rfl, rfl, { G with D3 := (fun _ => ⟨t0, t2⟩), D6 := (fun h => ff e (G.D6 h).1), X := (fun _ => on.ext), CB0 := (fun _ h => by cases h), C10 := (fun _ _ _ => ⟨rfl, on⟩), C20 := (fun h => ff e (G.D6 h).1), BL := (fun h => (G.BL h).beside own (by decide) gn), F := (fun h => ff eS h) }⟩)
   · have e : σ.b4 = false := hl
     have hd := hd _ rfl
     clear hl hlt
     clear hd
     have eS : σ.b8 = false := by
      rcases hs : σ.b8 with _ | _
      · rfl
      · exact ff e (G.D5 (G.D6 (G.D8 hs).1).2)
     have Xw := G.X eS
     have He := Lib.hid e
     have HeS := Lib.hid eS
     have HX := Lib.hid Xw
     clear e eS Xw
     refine wpOp_run (o := ?o4) ?i4 ?w4 (fun K hK => ?_)
     case i4 => simp only [List.getElem?_toArray, List.getElem?_cons_zero, List.getElem?_cons_succ]; exact rfl
     case w4 => rfl
     have HK2 := Lib.hid hK
     clear hK
     go_simp
     (try simp only [Act.put, List.setIfInBounds_toArray, List.set_cons_zero, List.set_cons_succ])
     have e := He.out
     have eS := HeS.out
     have Xw := HX.out
     refine HK2.out _ _ ((HI.out _ _ _).2 ⟨{ σ with b4 := true, s105 := _ }, rfl, rfl, { G with D5 := (fun h => ff e (G.D5 h)), Q4 := (fun _ => rfl), F := (fun h => ff eS h) }⟩)
   · have e : σ.b5 = false := hl
     have hd := hd _ rfl
     clear hl hlt
     simp [Region.binds] at hd
     have t4 : σ.b4 = true := by simp [hd]
     clear hd
     have eS : σ.b8 = false := by
      rcases hs : σ.b8 with _ | _
      · rfl
      · exact ff e (G.D6 (G.D8 hs).1).2
     have Xw := G.X eS
     have e4 := G.Q4 t4
     have g: W.cell? ⟨ky, 1, none⟩ = some (.slice y.b.1 y.unk.length y.b.2) := Xw.of_cell Y1
     have He := Lib.hid e
     have HeS := Lib.hid eS
     have HX := Lib.hid Xw
     clear e eS Xw
     refine wpOp_run (o := ?o5) ?i5 ?w5 (fun K hK => ?_)
     case i5 => simp only [List.getElem?_toArray, List.getElem?_cons_zero, List.getElem?_cons_succ]; exact rfl
     case w5 => rfl
     have HK2 := Lib.hid hK
     clear hK
     go_simp
     (try simp only [Act.put, List.setIfInBounds_toArray, List.set_cons_zero, List.set_cons_succ])
     have e := He.out
     have eS := HeS.out
     have Xw := HX.out
     refine HK2.out _ _ ((HI.out _ _ _).2 ⟨{ σ with b5 := true, s106 := _, s105 := _ }, rfl, rfl, { G with D5 := (fun _ => t4), D6 := (fun h => ff e (G.D6 h).2), Q4 := (fun _ => rfl), Q5 := (fun _ => rfl), F := (fun h => ff eS h) }⟩)
   · have e : σ.b6 = false := hl
     have hd := hd _ rfl
     clear hl hlt
     simp [Region.binds] at hd
     have t3 : σ.b3 = true := by simp [hd]
     have t5 : σ.b5 = true := by simp [hd]
     clear hd
     have eS : σ.b8 = false := by
      rcases hs : σ.b8 with _ | _
      · rfl
      · exact ff e (G.D8 hs).1
     have Xw := G.X eS
     have el := G.Q5 t5
     obtain ⟨es, own⟩ := G.C10 t3 e eS
     refine wpOp_step (o := ?o6) ?i6 (fun K hK => ?_)
     case i6 => simp only [List.getElem?_toArray, List.getElem?_cons_zero, List.getElem?_cons_succ]; exact rfl
     have HK2 := Lib.hid hK
     clear hK
     refine step_moreW elemStr (by rfl) (.tmp 104) (.tmp 106) (by rfl) es own el (hy.at_.ext Xw) (strV_one _) (by omega) (by unfold maxLen; omega) ?_
     intro An cn W2 on gn mn
     (try simp only [Nat.zero_add, List.nil_append] at on)
     (try simp only [Act.put, List.setIfInBounds_toArray, List.set_cons_zero, List.set_cons_succ, Nat.zero_add])
     refine HK2.out _ _ ((HI.out _ _ _).2 ⟨{ σ with b6 := true, A20 := An, c20 := cn, s107 := _ }, rfl, rfl, { G with D6 := (fun _ => ⟨t3, t5⟩), D8 := (fun h => ff e (G.D8 h).1), X := (fun _ => on.ext), CB0 := (fun _ h => ff h t3), C10 := (fun _ h => by cases h), C20 := (fun _ _ => ⟨rfl, on⟩), BL := (fun h => (G.BL h).beside own (by decide) gn), F := (fun h => ff eS h) }⟩)
   · have e : σ.b7 = false := hl
     have hd := hd _ rfl
     clear hl hlt
     clear hd
     have eS : σ.b8 = false := by
      rcases hs : σ.b8 with _ | _
      · rfl
      · exact ff e (G.D8 hs).2
     have Xw := G.X eS
     have He := Lib.hid e
     have HeS := Lib.hid eS
     have HX := Lib.hid Xw
     clear e eS Xw
     refine wpOp_run (o := ?o7) ?i7 ?w7 (fun K hK => ?_)
     case i7 => simp only [List.getElem?_toArray, List.getElem?_cons_zero, List.getElem?_cons_succ]; exact rfl
     case w7 => rfl
     have HK2 := Lib.hid hK
     clear hK
     go_simp
     (try simp only [Act.put, List.setIfInBounds_toArray, List.set_cons_zero, List.set_cons_succ])
     have e := He.out
     have eS := HeS.out
     have Xw := HX.out
     refine HK2.out _ _ ((HI.out _ _ _).2 ⟨{ σ with b7 := true, s108 := _ }, rfl, rfl, { G with D8 := (fun h => ff e (G.D8 h).2), Q7 := (fun _ => rfl), F := (fun h => ff eS h) }⟩)
   · have e : σ.b8 = false := hl
     have hd := hd _ rfl
     clear hl hlt
     simp [Region.binds] at hd
     have t6 : σ.b6 = true := by simp [hd]
     have t7 : σ.b7 = true := by simp [hd]
     clear hd
     have eS : σ.b8 = false := e
     have Xw := G.X eS
     have e7 := G.Q7 t7
     obtain ⟨es0, own0⟩ := G.C20 t6 eS
     have HO0 := Lib.hid own0
     clear own0
     have B := G.BL eS
     have g0 : W.cell? ⟨ka, 0, none⟩ = some (.slice z.a.1 z.vals.length z.a.2) := B.cell 0
     have f0 := B.free 0
     have g1 : W.cell? ⟨ka, 1, none⟩ = some (.slice z.b.1 z.unk.length z.b.2) := B.cell 1
     have f1 := B.free 1
     have lb := B.lt
     have HB := Lib.hid B
     clear B
     have He := Lib.hid e
     have HeS := Lib.hid eS
     have HX := Lib.hid Xw
     clear e eS Xw
     refine wpOp_run (o := ?o8) ?i8 ?w8 (fun K hK => ?_)
     case i8 => simp only [List.getElem?_toArray, List.getElem?_cons_zero, List.getElem?_cons_succ]; exact rfl
     case w8 => rfl
     have HK2 := Lib.hid hK
     clear hK
     go_simp
     (try simp only [Act.put, List.setIfInBounds_toArray, List.set_cons_zero, List.set_cons_succ])
     have e := He.out
     have eS := HeS.out
     have Xw := HX.out
     refine HK2.out _ _ ((HI.out _ _ _).2 ⟨{ σ with b8 := true, s108 := _, s107 := _ }, rfl, rfl, { G with D8 := (fun _ => ⟨t6, t7⟩), Q7 := (fun _ => rfl), CB0 := (fun _ _ h => by cases h), C10 := (fun _ _ h => by cases h), C20 := (fun _ h => by cases h), X := (fun h => by cases h), BL := (fun h => by cases h), F := (fun _ => ⟨((E0.trans HX.out).setCell (p := ⟨ka, 1, none⟩) hb (.slice σ.A20 (x.unk.length + y.unk.length) σ.c20)), ((Stays.of_ext HX.out).set (p := ⟨ka, 1, none⟩) (fun e => e rfl) (.slice σ.A20 (x.unk.length + y.unk.length) σ.c20)), (HB.out.set_ 1 (.slice σ.A20 (x.unk.length + y.unk.length) σ.c20)), ((HO0.out.since E0).far HB.out (by decide) hb 1 (.slice σ.A20 (x.unk.length + y.unk.length) σ.c20))⟩) }⟩)
 · obtain ⟨σ, rfl, rfl, hF⟩ := (HI.out _ _ _).1 hi
   clear hi
   have t0 : σ.b0 = true := ready_none hr (i := 0) rfl (by simp [Region.binds]) (show 0 < 9 by decide)
   have t1 : σ.b1 = true := ready_none hr (i := 1) rfl (by simp [Region.binds, t0]) (show 1 < 9 by decide)
   have t2 : σ.b2 = true := ready_none hr (i := 2) rfl (by simp [Region.binds, t0, t1]) (show 2 < 9 by decide)
   have t3 : σ.b3 = true := ready_none hr (i := 3) rfl (by simp [Region.binds, t0, t1, t2]) (show 3 < 9 by decide)
   have t4 : σ.b4 = true := ready_none hr (i := 4) rfl (by simp [Region.binds, t0, t1, t2, t3]) (show 4 < 9 by decide)
   have t5 : σ.b5 = true := ready_none hr (i := 5) rfl (by simp [Region.binds, t0, t1, t2, t3, t4]) (show 5 < 9 by decide)
   have t6 : σ.b6 = true := ready_none hr (i := 6) rfl (by simp [Region.binds, t0, t1, t2, t3, t4, t5]) (show 6 < 9 by decide)
   have t7 : σ.b7 = true := ready_none hr (i := 7) rfl (by simp [Region.binds, t0, t1, t2, t3, t4, t5, t6]) (show 7 < 9 by decide)
   have t8 : σ.b8 = true := ready_none hr (i := 8) rfl (by simp [Region.binds, t0, t1, t2, t3, t4, t5, t6, t7]) (show 8 < 9 by decide)
   obtain ⟨x0, st, bl, o0⟩ := hF.F t8
   exact HK.out _ _ _ _ _ _ _ _ _ _  W x0 st bl  o0
 · refine (HI.out _ _ _).2 ⟨⟨false, false, false, false, false, false, false, false, false, _, _, _, _, _, _, _, _, none, none, none, 0, 0, 0⟩, rfl, rfl, ?_⟩
   constructor
   all_goals dsimp only
   all_goals first | exact fun _ => B0.drew | exact fun _ => (Ext.refl w).drew | (intro h; cases h; done)

structure Jreg13S where
 (b0 b1 b2 b3 b4 b5 b6 b7 b8 b9 b10 b11 b12 b13 b14 b15 b16 : Bool)
 (s82 s83 s84 s85 s86 s87 s88 s89 s90 s91 s92 s93 s94 s95 s96 s97 : Value)
 (z : MsgR)
 (kr : Nat)

structure Jreg13F (w0 : World) (w : World) (ka : Nat) (kb : Nat) (kc : Nat) (bu : Nat) (ou : Nat) (bv_ : Nat) (ov : Nat) (A : Option Addr) (n : Nat) (c : Nat) (fo : Int) (u : ValR) (v : ValR) (x : MsgR) (y : MsgR) (PJ : MsgR → Prop) (σ : Jreg13S) (W : World) : Prop where
 X : σ.b16 = false → Ext w W
 Q0 : σ.b0 = true → σ.s82 = .pointer (some ⟨ka, 0, none⟩)
 Q1 : σ.b1 = true → σ.s83 = .int .i64 v.number
 Q2 : σ.b2 = true → σ.s84 = .slice A n c
 Q3 : σ.b3 = true → σ.s85 = .pointer (some ⟨kb, 5, none⟩)
 Q4 : σ.b4 = true → σ.s86 = .int .i64 fo
 Q5 : σ.b5 = true → σ.s87 = .pointer (some ⟨kc, 3, none⟩)
 Q6 : σ.b6 = true → σ.s88 = .slice (some ⟨bu, ou, none⟩) u.subs.length u.c.2
 Q7 : σ.b7 = true → σ.s89 = .pointer (some ⟨bu, ou, none⟩)
 Q8 : σ.b8 = true → σ.s90 = .agg #[.slice x.a.1 x.vals.length x.a.2, .slice x.b.1 x.unk.length x.b.2]
 Q9 : σ.b9 = true → σ.s91 = .pointer (some ⟨ka, 3, none⟩)
 Q10 : σ.b10 = true → σ.s92 = .slice (some ⟨bv_, ov, none⟩) v.subs.length v.c.2
 Q11 : σ.b11 = true → σ.s93 = .pointer (some ⟨bv_, ov, none⟩)
 Q12 : σ.b12 = true → σ.s94 = .agg #[.slice y.a.1 y.vals.length y.a.2, .slice y.b.1 y.unk.length y.b.2]
 CJ : σ.b13 = true → σ.b16 = false → σ.s95 = .agg #[.slice σ.z.a.1 σ.z.vals.length σ.z.a.2, .slice σ.z.b.1 σ.z.unk.length σ.z.b.2] ∧ PJ σ.z ∧ TreeAt W σ.z ∧ (∀ b, UsesT σ.z b → b ≠ ka ∧ (b < w0.heap.size ∨ w.heap.size ≤ b))
 RJ : σ.b14 = true → σ.b16 = false → σ.s96 = .slice (some ⟨σ.kr, 0, none⟩) 1 1 ∧ Reads W (some ⟨σ.kr, 0, none⟩) 1 1 2 (treeC σ.z) ∧ w.heap.size ≤ σ.kr
 UJ : σ.b15 = true → σ.b16 = false → σ.s97 = .agg #[.int .i64 v.number, .slice none 0 0, .slice none 0 0, .slice (some ⟨σ.kr, 0, none⟩) 1 1]
 BL : σ.b16 = false → BlkT W ka 57 #[.int .i64 v.number, .slice v.a.1 v.words.length v.a.2, .slice v.b.1 v.texts.length v.b.2, .slice (some ⟨bv_, ov, none⟩) v.subs.length v.c.2]
 F : σ.b16 = true → Ext w0 W ∧ Stays (fun b => b ≠ ka) w W ∧ BlkT W ka 57 #[.int .i64 v.number, .slice none 0 0, .slice none 0 0, .slice (some ⟨σ.kr, 0, none⟩) 1 1] ∧ PJ σ.z ∧ TreeAt W σ.z ∧ (∀ b, UsesT σ.z b → b ≠ ka ∧ (b < w0.heap.size ∨ w.heap.size ≤ b)) ∧ Reads W (some ⟨σ.kr, 0, none⟩) 1 1 2 (treeC σ.z) ∧ w.heap.size ≤ σ.kr
 D1 : σ.b1 = true → σ.b0 = true
 D4 : σ.b4 = true → σ.b3 = true
 D6 : σ.b6 = true → σ.b5 = true
 D7 : σ.b7 = true → σ.b6 = true
 D8 : σ.b8 = true → σ.b7 = true
 D10 : σ.b10 = true → σ.b9 = true
 D11 : σ.b11 = true → σ.b10 = true
 D12 : σ.b12 = true → σ.b11 = true
 D13 : σ.b13 = true → σ.b2 = true ∧ σ.b4 = true ∧ σ.b8 = true ∧ σ.b12 = true
 D14 : σ.b14 = true → σ.b13 = true
 D15 : σ.b15 = true → σ.b1 = true ∧ σ.b14 = true
 D16 : σ.b16 = true → σ.b15 = true

set_option maxRecDepth 100000 in
set_option maxHeartbeats 4000000 in
theorem jreg13 {Q0 : Exit → Act → World → Prop} {u1 u2 u3 u4 u5 u6 u7 u8 u9 u10 u13 u15 u16 u17 u18 u19 u20 u21 u22 u23 u24 u25 u26 u27 u28 u29 u30 u31 u32 u33 u34 u35 u36 u37 u38 u39 u40 u41 u42 u43 u44 u45 u46 u47 u48 u49 u50 u51 u52 u53 u54 u55 u56 u57 u58 u59 u60 u61 u62 u63 u64 u65 u66 u67 u68 u69 u70 u71 u72 u73 u74 u75 u76 u77 u78 u79 u80 u81 u82 u83 u84 u85 u86 u87 u88 u89 u90 u91 u92 u93 u94 u95 u96 u97 u98 u99 u100 u101 u102 u103 u104 u105 u106 u107 u108 u109 : Value} {w0 : World} {w : World} {ka : Nat} {kb : Nat} {kc : Nat} {bu : Nat} {ou : Nat} {bv_ : Nat} {ov : Nat} {A : Option Addr} {n : Nat} {c : Nat} {fo : Int} {u : ValR} {v : ValR} {x : MsgR} {y : MsgR} {PJ : MsgR → Prop} (E0 : Ext w0 w) (hb : w0.heap.size ≤ ka) (B0 : BlkT w ka 57 #[.int .i64 v.number, .slice v.a.1 v.words.length v.a.2, .slice v.b.1 v.texts.length v.b.2, .slice (some ⟨bv_, ov, none⟩) v.subs.length v.c.2]) (F5 : w.cell? ⟨kb, 5, none⟩ = some (.int .i64 fo)) (U3 : w.cell? ⟨kc, 3, none⟩ = some (.slice (some ⟨bu, ou, none⟩) u.subs.length u.c.2)) (x0 : w.cell? ⟨bu, ou, none⟩ = some (.slice x.a.1 x.vals.length x.a.2)) (x1 : w.cell? ⟨bu, ou + 1, none⟩ = some (.slice x.b.1 x.unk.length x.b.2)) (y0 : w.cell? ⟨bv_, ov, none⟩ = some (.slice y.a.1 y.vals.length y.a.2)) (y1 : w.cell? ⟨bv_, ov + 1, none⟩ = some (.slice y.b.1 y.unk.length y.b.2)) (su : 0 < u.subs.length) (sv : 0 < v.subs.length)
  (H : Hid (∀ W, Ext w W → Calls Tryz.prog 14 #[.slice A n c, .int .i64 fo, .agg #[.slice x.a.1 x.vals.length x.a.2, .slice x.b.1 x.unk.length x.b.2], .agg #[.slice y.a.1 y.vals.length y.a.2, .slice y.b.1 y.unk.length y.b.2]] W fun e W' => ∃ q, e = .returned (treeV q) ∧ PJ q ∧ TreeAt W' q ∧ (∀ b, UsesT q b → b ≠ ka ∧ (b < w0.heap.size ∨ W.heap.size ≤ b)) ∧ Ext W W'))
  (hK : ∀ (s82 s83 s84 s85 s86 s87 s88 s89 s90 s91 s92 s93 s94 s95 s96 s97 : Value) (z : MsgR) (kr : Nat) (wz : World), Ext w0 wz → Stays (fun b => b ≠ ka) w wz → BlkT wz ka 57 #[.int .i64 v.number, .slice none 0 0, .slice none 0 0, .slice (some ⟨kr, 0, none⟩) 1 1] → PJ z → TreeAt wz z → (∀ b, UsesT z b → b ≠ ka ∧ (b < w0.heap.size ∨ w.heap.size ≤ b)) → Reads wz (some ⟨kr, 0, none⟩) 1 1 2 (treeC z) → w.heap.size ≤ kr → Q0 .normal ⟨#[.slice A n c, u1, u2, u3, u4, u5, u6, u7, u8, u9, u10, .pointer (some ⟨ka, 0, none⟩), .pointer (some ⟨kb, 0, none⟩), u13, .pointer (some ⟨kc, 0, none⟩), u15, u16, u17, u18, u19, u20, u21, u22, u23, u24, u25, u26, u27, u28, u29, u30, u31, u32, u33, u34, u35, u36, u37, u38, u39, u40, u41, u42, u43, u44, u45, u46, u47, u48, u49, u50, u51, u52, u53, u54, u55, u56, u57, u58, u59, u60, u61, u62, u63, u64, u65, u66, u67, u68, u69, u70, u71, u72, u73, u74, u75, u76, u77, u78, u79, u80, u81, s82, s83, s84, s85, s86, s87, s88, s89, s90, s91, s92, s93, s94, s95, s96, s97, u98, u99, u100, u101, u102, u103, u104, u105, u106, u107, u108, u109], []⟩ wz) :
  Code.wp Tryz.prog (regJ 13) (calmQ Q0) ⟨#[.slice A n c, u1, u2, u3, u4, u5, u6, u7, u8, u9, u10, .pointer (some ⟨ka, 0, none⟩), .pointer (some ⟨kb, 0, none⟩), u13, .pointer (some ⟨kc, 0, none⟩), u15, u16, u17, u18, u19, u20, u21, u22, u23, u24, u25, u26, u27, u28, u29, u30, u31, u32, u33, u34, u35, u36, u37, u38, u39, u40, u41, u42, u43, u44, u45, u46, u47, u48, u49, u50, u51, u52, u53, u54, u55, u56, u57, u58, u59, u60, u61, u62, u63, u64, u65, u66, u67, u68, u69, u70, u71, u72, u73, u74, u75, u76, u77, u78, u79, u80, u81, u82, u83, u84, u85, u86, u87, u88, u89, u90, u91, u92, u93, u94, u95, u96, u97, u98, u99, u100, u101, u102, u103, u104, u105, u106, u107, u108, u109], []⟩ w := by
 have HK := Lib.hid hK
 clear hK
 have hbl := B0.lt
 conv => arg 2; whnf
 obtain ⟨I, hI⟩ : ∃ I : Array Bool → Act → World → Prop, ∀ l a W, I l a W ↔ (∃ σ : Jreg13S, l = #[σ.b0, σ.b1, σ.b2, σ.b3, σ.b4, σ.b5, σ.b6, σ.b7, σ.b8, σ.b9, σ.b10, σ.b11, σ.b12, σ.b13, σ.b14, σ.b15, σ.b16] ∧ a = ⟨#[.slice A n c, u1, u2, u3, u4, u5, u6, u7, u8, u9, u10, .pointer (some ⟨ka, 0, none⟩), .pointer (some ⟨kb, 0, none⟩), u13, .pointer (some ⟨kc, 0, none⟩), u15, u16, u17, u18, u19, u20, u21, u22, u23, u24, u25, u26, u27, u28, u29, u30, u31, u32, u33, u34, u35, u36, u37, u38, u39, u40, u41, u42, u43, u44, u45, u46, u47, u48, u49, u50, u51, u52, u53, u54, u55, u56, u57, u58, u59, u60, u61, u62, u63, u64, u65, u66, u67, u68, u69, u70, u71, u72, u73, u74, u75, u76, u77, u78, u79, u80, u81, σ.s82, σ.s83, σ.s84, σ.s85, σ.s86, σ.s87, σ.s88, σ.s89, σ.s90, σ.s91, σ.s92, σ.s93, σ.s94, σ.s95, σ.s96, σ.s97, u98, u99, u100, u101, u102, u103, u104, u105, u106, u107, u108, u109], []⟩ ∧ Jreg13F w0 w ka kb kc bu ou bv_ ov A n c fo u v x y PJ σ W) := ⟨_, fun _ _ _ => Iff.rfl⟩
 have HI := Lib.hid hI
 clear hI
 refine wp_region_inv (I := I) (by kernel_rfl) (fun i l a W hi hr => ?_) (fun l a W hi hr => ?_) ?_
 · obtain ⟨σ, rfl, rfl, G⟩ := (HI.out _ _ _).1 hi
   clear hi
   obtain ⟨hlt, hl, hd⟩ := ready_spec hr
   clear hr
   have hlt : i < 17 := hlt
   rcases (show i = 0 ∨ i = 1 ∨ i = 2 ∨ i = 3 ∨ i = 4 ∨ i = 5 ∨ i = 6 ∨ i = 7 ∨ i = 8 ∨ i = 9 ∨ i = 10 ∨ i = 11 ∨ i = 12 ∨ i = 13 ∨ i = 14 ∨ i = 15 ∨ i = 16 by omega) with rfl | rfl | rfl | rfl | rfl | rfl | rfl | rfl | rfl | rfl | rfl | rfl | rfl | rfl | rfl | rfl | rfl
   · have e : σ.b0 = false := hl
     have hd := hd _ rfl
     clear hl hlt
     clear hd
     have eS : σ.b16 = false := by
      rcases hs : σ.b16 with _ | _
      · rfl
      · exact ff e (G.D1 (G.D15 (G.D16 hs)).1)
     have Xw := G.X eS
     have He := Lib.hid e
     have HeS := Lib.hid eS
     have HX := Lib.hid Xw
     clear e eS Xw
     refine wpOp_run (o := ?o0) ?i0 ?w0 (fun K hK => ?_)
     case i0 => simp only [List.getElem?_toArray, List.getElem?_cons_zero, List.getElem?_cons_succ]; exact rfl
     case w0 => rfl
     have HK2 := Lib.hid hK
     clear hK
     go_simp
     (try simp only [Act.put, List.setIfInBounds_toArray, List.set_cons_zero, List.set_cons_succ])
     have e := He.out
     have eS := HeS.out
     have Xw := HX.out
     refine HK2.out _ _ ((HI.out _ _ _).2 ⟨{ σ with b0 := true, s82 := _ }, rfl, rfl, { G with D1 := (fun h => ff e (G.D1 h)), Q0 := (fun _ => rfl), F := (fun h => ff eS h) }⟩)
   · have e : σ.b1 = false := hl
     have hd := hd _ rfl
     clear hl hlt
     simp [Region.binds] at hd
     have t0 : σ.b0 = true := by simp [hd]
     clear hd
     have eS : σ.b16 = false := by
      rcases hs : σ.b16 with _ | _
      · rfl
      · exact ff e (G.D15 (G.D16 hs)).1
     have Xw := G.X eS
     have e0 := G.Q0 t0
     have g: W.cell? ⟨ka, 0, none⟩ = some (.int .i64 v.number) := Xw.of_cell (B0.cell 0)
     have He := Lib.hid e
     have HeS := Lib.hid eS
     have HX := Lib.hid Xw
     clear e eS Xw
     refine wpOp_run (o := ?o1) ?i1 ?w1 (fun K hK => ?_)
     case i1 => simp only [List.getElem?_toArray, List.getElem?_cons_zero, List.getElem?_cons_succ]; exact rfl
     case w1 => rfl
     have HK2 := Lib.hid hK
     clear hK
     go_simp
     (try simp only [Act.put, List.setIfInBounds_toArray, List.set_cons_zero, List.set_cons_succ])
     have e := He.out
     have eS := HeS.out
     have Xw := HX.out
     refine HK2.out _ _ ((HI.out _ _ _).2 ⟨{ σ with b1 := true, s83 := _, s82 := _ }, rfl, rfl, { G with D1 := (fun _ => t0), D15 := (fun h => ff e (G.D15 h).1), Q0 := (fun _ => rfl), Q1 := (fun _ => rfl), F := (fun h => ff eS h) }⟩)
   · have e : σ.b2 = false := hl
     have hd := hd _ rfl
     clear hl hlt
     clear hd
     have eS : σ.b16 = false := by
      rcases hs : σ.b16 with _ | _
      · rfl
      · exact ff e (G.D13 (G.D14 (G.D15 (G.D16 hs)).2)).1
     have Xw := G.X eS
     have He := Lib.hid e
     have HeS := Lib.hid eS
     have HX := Lib.hid Xw
     clear e eS Xw
     refine wpOp_run (o := ?o2) ?i2 ?w2 (fun K hK => ?_)
     case i2 => simp only [List.getElem?_toArray, List.getElem?_cons_zero, List.getElem?_cons_succ]; exact rfl
     case w2 => rfl
     have HK2 := Lib.hid hK
     clear hK
     go_simp
     (try simp only [Act.put, List.setIfInBounds_toArray, List.set_cons_zero, List.set_cons_succ])
     have e := He.out
     have eS := HeS.out
     have Xw := HX.out
     refine HK2.out _ _ ((HI.out _ _ _).2 ⟨{ σ with b2 := true, s84 := _ }, rfl, rfl, { G with D13 := (fun h => ff e (G.D13 h).1), Q2 := (fun _ => rfl), F := (fun h => ff eS h) }⟩)
   · have e : σ.b3 = false := hl
     have hd := hd _ rfl
     clear hl hlt
     clear hd
     have eS : σ.b16 = false := by
      rcases hs : σ.b16 with _ | _
      · rfl
      · exact ff e (G.D4 (G.D13 (G.D14 (G.D15 (G.D16 hs)).2)).2.1)
     have Xw := G.X eS
     have He := Lib.hid e
     have HeS := Lib.hid eS
     have HX := Lib.hid Xw
     clear e eS Xw
     refine wpOp_run (o := ?o3) ?i3 ?w3 (fun K hK => ?_)
     case i3 => simp only [List.getElem?_toArray, List.getElem?_cons_zero, List.getElem?_cons_succ]; exact rfl
     case w3 => rfl
     have HK2 := Lib.hid hK
     clear hK
     go_simp
     (try simp only [Act.put, List.setIfInBounds_toArray, List.set_cons_zero, List.set_cons_succ])
     have e := He.out
     have eS := HeS.out
     have Xw := HX.out
     refine HK2.out _ _ ((HI.out _ _ _).2 ⟨{ σ with b3 := true, s85 := _ }, rfl, rfl, { G with D4 := (fun h => ff e (G.D4 h)), Q3 := (fun _ => rfl), F := (fun h => ff eS h) }⟩)
   · have e : σ.b4 = false := hl
     have hd := hd _ rfl
     clear hl hlt
     simp [Region.binds] at hd
     have t3 : σ.b3 = true := by simp [hd]
     clear hd
     have eS : σ.b16 = false := by
      rcases hs : σ.b16 with _ | _
      · rfl
      · exact ff e (G.D13 (G.D14 (G.D15 (G.D16 hs)).2)).2.1
     have Xw := G.X eS
     have e3 := G.Q3 t3
     have g: W.cell? ⟨kb, 5, none⟩ = some (.int .i64 fo) := Xw.of_cell F5
     have He := Lib.hid e
     have HeS := Lib.hid eS
     have HX := Lib.hid Xw
     clear e eS Xw
     refine wpOp_run (o := ?o4) ?i4 ?w4 (fun K hK => ?_)
     case i4 => simp only [List.getElem?_toArray, List.getElem?_cons_zero, List.getElem?_cons_succ]; exact rfl
     case w4 => rfl
     have HK2 := Lib.hid hK
     clear hK
     go_simp
     (try simp only [Act.put, List.setIfInBounds_toArray, List.set_cons_zero, List.set_cons_succ])
     have e := He.out
     have eS := HeS.out
     have Xw := HX.out
     refine HK2.out _ _ ((HI.out _ _ _).2 ⟨{ σ with b4 := true, s86 := _, s85 := _ }, rfl, rfl, { G with D4 := (fun _ => t3), D13 := (fun h => ff e (G.D13 h).2.1), Q3 := (fun _ => rfl), Q4 := (fun _ => rfl), F := (fun h => ff eS h) }⟩)
   · have e : σ.b5 = false := hl
     have hd := hd _ rfl
     clear hl hlt
     clear hd
     have eS : σ.b16 = false := by
      rcases hs : σ.b16 with _ | _
      · rfl
      · exact ff e (G.D6 (G.D7 (G.D8 (G.D13 (G.D14 (G.D15 (G.D16 hs)).2)).2.2.1)))
     have Xw := G.X eS
     have He := Lib.hid e
     have HeS := Lib.hid eS
     have HX := Lib.hid Xw
     clear e eS Xw
     refine wpOp_run (o := ?o5) ?i5 ?w5 (fun K hK => ?_)
     case i5 => simp only [List.getElem?_toArray, List.getElem?_cons_zero, List.getElem?_cons_succ]; exact rfl
     case w5 => rfl
     have HK2 := Lib.hid hK
     clear hK
     go_simp
     (try simp only [Act.put, List.setIfInBounds_toArray, List.set_cons_zero, List.set_cons_succ])
     have e := He.out
     have eS := HeS.out
     have Xw := HX.out
     refine HK2.out _ _ ((HI.out _ _ _).2 ⟨{ σ with b5 := true, s87 := _ }, rfl, rfl, { G with D6 := (fun h => ff e (G.D6 h)), Q5 := (fun _ => rfl), F := (fun h => ff eS h) }⟩)
   · have e : σ.b6 = false := hl
     have hd := hd _ rfl
     clear hl hlt
     simp [Region.binds] at hd
     have t5 : σ.b5 = true := by simp [hd]
     clear hd
     have eS : σ.b16 = false := by
      rcases hs : σ.b16 with _ | _
      · rfl
      · exact ff e (G.D7 (G.D8 (G.D13 (G.D14 (G.D15 (G.D16 hs)).2)).2.2.1))
     have Xw := G.X eS
     have e5 := G.Q5 t5
     have g: W.cell? ⟨kc, 3, none⟩ = some (.slice (some ⟨bu, ou, none⟩) u.subs.length u.c.2) := Xw.of_cell U3
     have He := Lib.hid e
     have HeS := Lib.hid eS
     have HX := Lib.hid Xw
     clear e eS Xw
     refine wpOp_run (o := ?o6) ?i6 ?w6 (fun K hK => ?_)
     case i6 => simp only [List.getElem?_toArray, List.getElem?_cons_zero, List.getElem?_cons_succ]; exact rfl
     case w6 => rfl
     have HK2 := Lib.hid hK
     clear hK
     go_simp
     (try simp only [Act.put, List.setIfInBounds_toArray, List.set_cons_zero, List.set_cons_succ])
     have e := He.out
     have eS := HeS.out
     have Xw := HX.out
     refine HK2.out _ _ ((HI.out _ _ _).2 ⟨{ σ with b6 := true, s88 := _, s87 := _ }, rfl, rfl, { G with D6 := (fun _ => t5), D7 := (fun h => ff e (G.D7 h)), Q5 := (fun _ => rfl), Q6 := (fun _ => rfl), F := (fun h => ff eS h) }⟩)
   · have e : σ.b7 = false := hl
     have hd := hd _ rfl
     clear hl hlt
     simp [Region.binds] at hd
     have t6 : σ.b6 = true := by simp [hd]
     clear hd
     have eS : σ.b16 = false := by
      rcases hs : σ.b16 with _ | _
      · rfl
      · exact ff e (G.D8 (G.D13 (G.D14 (G.D15 (G.D16 hs)).2)).2.2.1)
     have Xw := G.X eS
     have e6 := G.Q6 t6
     have gI : (0 : Int) < u.subs.length := by omega
     have He := Lib.hid e
     have HeS := Lib.hid eS
     have HX := Lib.hid Xw
     clear e eS Xw
     refine wpOp_run (o := ?o7) ?i7 ?w7 (fun K hK => ?_)
     case i7 => simp only [List.getElem?_toArray, List.getElem?_cons_zero, List.getElem?_cons_succ]; exact rfl
     case w7 => rfl
     have HK2 := Lib.hid hK
     clear hK
     go_simp
     (try simp only [Act.put, List.setIfInBounds_toArray, List.set_cons_zero, List.set_cons_succ])
     have e := He.out
     have eS := HeS.out
     have Xw := HX.out
     refine HK2.out _ _ ((HI.out _ _ _).2 ⟨{ σ with b7 := true, s89 := _, s88 := _ }, rfl, rfl, { G with D7 := (fun _ => t6), D8 := (fun h => ff e (G.D8 h)), Q6 := (fun _ => rfl), Q7 := (fun _ => rfl), F := (fun h => ff eS h) }⟩)
   · have e : σ.b8 = false := hl
     have hd := hd _ rfl
     clear hl hlt
     simp [Region.binds] at hd
     have t7 : σ.b7 = true := by simp [hd]
     clear hd
     have eS : σ.b16 = false := by
      rcases hs : σ.b16 with _ | _
      · rfl
      · exact ff e (G.D13 (G.D14 (G.D15 (G.D16 hs)).2)).2.2.1
     have Xw := G.X eS
     have e7 := G.Q7 t7
     have gI : W.cell? ⟨bu, ou, none⟩ = some (.slice x.a.1 x.vals.length x.a.2) := Xw.of_cell x0
     have gI2 : W.cell? ⟨bu, ou + 1, none⟩ = some (.slice x.b.1 x.unk.length x.b.2) := Xw.of_cell x1
     have He := Lib.hid e
     have HeS := Lib.hid eS
     have HX := Lib.hid Xw
     clear e eS Xw
     refine wpOp_run (o := ?o8) ?i8 ?w8 (fun K hK => ?_)
     case i8 => simp only [List.getElem?_toArray, List.getElem?_cons_zero, List.getElem?_cons_succ]; exact rfl
     case w8 => rfl
     have HK2 := Lib.hid hK
     clear hK
     go_simp
     (try simp only [Act.put, List.setIfInBounds_toArray, List.set_cons_zero, List.set_cons_succ])
     have e := He.out
     have eS := HeS.out
     have Xw := HX.out
     refine HK2.out _ _ ((HI.out _ _ _).2 ⟨{ σ with b8 := true, s90 := _, s89 := _ }, rfl, rfl, { G with D8 := (fun _ => t7), D13 := (fun h => ff e (G.D13 h).2.2.1), Q7 := (fun _ => rfl), Q8 := (fun _ => rfl), F := (fun h => ff eS h) }⟩)
   · have e : σ.b9 = false := hl
     have hd := hd _ rfl
     clear hl hlt
     clear hd
     have eS : σ.b16 = false := by
      rcases hs : σ.b16 with _ | _
      · rfl
      · exact ff e (G.D10 (G.D11 (G.D12 (G.D13 (G.D14 (G.D15 (G.D16 hs)).2)).2.2.2)))
     have Xw := G.X eS
     have He := Lib.hid e
     have HeS := Lib.hid eS
     have HX := Lib.hid Xw
     clear e eS Xw
     refine wpOp_run (o := ?o9) ?i9 ?w9 (fun K hK => ?_)
     case i9 => simp only [List.getElem?_toArray, List.getElem?_cons_zero, List.getElem?_cons_succ]; exact rfl
     case w9 => rfl
     have HK2 := Lib.hid hK
     clear hK
     go_simp
     (try simp only [Act.put, List.setIfInBounds_toArray, List.set_cons_zero, List.set_cons_succ])
     have e := He.out
     have eS := HeS.out
     have Xw := HX.out
     refine HK2.out _ _ ((HI.out _ _ _).2 ⟨{ σ with b9 := true, s91 := _ }, rfl, rfl, { G with D10 := (fun h => ff e (G.D10 h)), Q9 := (fun _ => rfl), F := (fun h => ff eS h) }⟩)
   · have e : σ.b10 = false := hl
     have hd := hd _ rfl
     clear hl hlt
     simp [Region.binds] at hd
     have t9 : σ.b9 = true := by simp [hd]
     clear hd
     have eS : σ.b16 = false := by
      rcases hs : σ.b16 with _ | _
      · rfl
      · exact ff e (G.D11 (G.D12 (G.D13 (G.D14 (G.D15 (G.D16 hs)).2)).2.2.2))
     have Xw := G.X eS
     have e9 := G.Q9 t9
     have g: W.cell? ⟨ka, 3, none⟩ = some (.slice (some ⟨bv_, ov, none⟩) v.subs.length v.c.2) := Xw.of_cell (B0.cell 3)
     have He := Lib.hid e
     have HeS := Lib.hid eS
     have HX := Lib.hid Xw
     clear e eS Xw
     refine wpOp_run (o := ?o10) ?i10 ?w10 (fun K hK => ?_)
     case i10 => simp only [List.getElem?_toArray, List.getElem?_cons_zero, List.getElem?_cons_succ]; exact rfl
     case w10 => rfl
     have HK2 := Lib.hid hK
     clear hK
     go_simp
     (try simp only [Act.put, List.setIfInBounds_toArray, List.set_cons_zero, List.set_cons_succ])
     have e := He.out
     have eS := HeS.out
     have Xw := HX.out
     refine HK2.out _ _ ((HI.out _ _ _).2 ⟨{ σ with b10 := true, s92 := _, s91 := _ }, rfl, rfl, { G with D10 := (fun _ => t9), D11 := (fun h => ff e (G.D11 h)), Q9 := (fun _ => rfl), Q10 := (fun _ => rfl), F := (fun h => ff eS h) }⟩)
   · have e : σ.b11 = false := hl
     have hd := hd _ rfl
     clear hl hlt
     simp [Region.binds] at hd
     have t10 : σ.b10 = true := by simp [hd]
     clear hd
     have eS : σ.b16 = false := by
      rcases hs : σ.b16 with _ | _
      · rfl
      · exact ff e (G.D12 (G.D13 (G.D14 (G.D15 (G.D16 hs)).2)).2.2.2)
     have Xw := G.X eS
     have e10 := G.Q10 t10
     have gI : (0 : Int) < v.subs.length := by omega
     have He := Lib.hid e
     have HeS := Lib.hid eS
     have HX := Lib.hid Xw
     clear e eS Xw
     refine wpOp_run (o := ?o11) ?i11 ?w11 (fun K hK => ?_)
     case i11 => simp only [List.getElem?_toArray, List.getElem?_cons_zero, List.getElem?_cons_succ]; exact rfl
     case w11 => rfl
     have HK2 := Lib.hid hK
     clear hK
     go_simp
     (try simp only [Act.put, List.setIfInBounds_toArray, List.set_cons_zero, List.set_cons_succ])
     have e := He.out
     have eS := HeS.out
     have Xw := HX.out
     refine HK2.out _ _ ((HI.out _ _ _).2 ⟨{ σ with b11 := true, s93 := _, s92 := _ }, rfl, rfl, { G with D11 := (fun _ => t10), D12 := (fun h => ff e (G.D12 h)), Q10 := (fun _ => rfl), Q11 := (fun _ => rfl), F := (fun h => ff eS h) }⟩)
   · have e : σ.b12 = false := hl
     have hd := hd _ rfl
     clear hl hlt
     simp [Region.binds] at hd
     have t11 : σ.b11 = true := by simp [hd]
     clear hd
     have eS : σ.b16 = false := by
      rcases hs : σ.b16 with _ | _
      · rfl
      · exact ff e (G.D13 (G.D14 (G.D15 (G.D16 hs)).2)).2.2.2
     have Xw := G.X eS
     have e11 := G.Q11 t11
     have gI : W.cell? ⟨bv_, ov, none⟩ = some (.slice y.a.1 y.vals.length y.a.2) := Xw.of_cell y0
     have gI2 : W.cell? ⟨bv_, ov + 1, none⟩ = some (.slice y.b.1 y.unk.length y.b.2) := Xw.of_cell y1
     have He := Lib.hid e
     have HeS := Lib.hid eS
     have HX := Lib.hid Xw
     clear e eS Xw
     refine wpOp_run (o := ?o12) ?i12 ?w12 (fun K hK => ?_)
     case i12 => simp only [List.getElem?_toArray, List.getElem?_cons_zero, List.getElem?_cons_succ]; exact rfl
     case w12 => rfl
     have HK2 := Lib.hid hK
     clear hK
     go_simp
     (try simp only [Act.put, List.setIfInBounds_toArray, List.set_cons_zero, List.set_cons_succ])
     have e := He.out
     have eS := HeS.out
     have Xw := HX.out
     refine HK2.out _ _ ((HI.out _ _ _).2 ⟨{ σ with b12 := true, s94 := _, s93 := _ }, rfl, rfl, { G with D12 := (fun _ => t11), D13 := (fun h => ff e (G.D13 h).2.2.2), Q11 := (fun _ => rfl), Q12 := (fun _ => rfl), F := (fun h => ff eS h) }⟩)
   · have e : σ.b13 = false := hl
     have hd := hd _ rfl
     clear hl hlt
     simp [Region.binds] at hd
     have t2 : σ.b2 = true := by simp [hd]
     have t4 : σ.b4 = true := by simp [hd]
     have t8 : σ.b8 = true := by simp [hd]
     have t12 : σ.b12 = true := by simp [hd]
     clear hd
     have eS : σ.b16 = false := by
      rcases hs : σ.b16 with _ | _
      · rfl
      · exact ff e (G.D14 (G.D15 (G.D16 hs)).2)
     have Xw := G.X eS
     have e2 := G.Q2 t2
     have e4 := G.Q4 t4
     have e8 := G.Q8 t8
     have e12 := G.Q12 t12
     have He := Lib.hid e
     have HeS := Lib.hid eS
     have HX := Lib.hid Xw
     clear e eS Xw
     refine wpOp_run (o := ?o13) ?i13 ?w13 (fun K hK => ?_)
     case i13 => simp only [List.getElem?_toArray, List.getElem?_cons_zero, List.getElem?_cons_succ]; exact rfl
     case w13 => rfl
     have HK2 := Lib.hid hK
     clear hK
     go_simp
     (try simp only [Act.put, List.setIfInBounds_toArray, List.set_cons_zero, List.set_cons_succ])
     go_at_call 14
     refine (H.out _ HX.out).mono ?_
     rintro e W2 ⟨q, rfl, q1, q2, q3, q4⟩
     (try dsimp only)
     (try simp only [Act.put, List.setIfInBounds_toArray, List.set_cons_zero, List.set_cons_succ])
     have e := He.out
     have eS := HeS.out
     have Xw := HX.out
     refine HK2.out _ _ ((HI.out _ _ _).2 ⟨{ σ with b13 := true, s95 := _, s84 := _, s86 := _, s90 := _, s94 := _, z := q }, rfl, rfl, { G with D13 := (fun _ => ⟨t2, t4, t8, t12⟩), D14 := (fun h => ff e (G.D14 h)), X := (fun _ => Xw.trans q4), Q2 := (fun _ => rfl), Q4 := (fun _ => rfl), Q8 := (fun _ => rfl), Q12 := (fun _ => rfl), CJ := (fun _ _ => ⟨rfl, q1, q2, fun b hb => ⟨(q3 b hb).1, (q3 b hb).2.imp id (fun h => Nat.le_trans Xw.size h)⟩⟩), RJ := (fun h => ff e (G.D14 h)), BL := (fun h => (G.BL h).up q4), F := (fun h => ff eS h) }⟩)
   · have e : σ.b14 = false := hl
     have hd := hd _ rfl
     clear hl hlt
     simp [Region.binds] at hd
     have t13 : σ.b13 = true := by simp [hd]
     clear hd
     have eS : σ.b16 = false := by
      rcases hs : σ.b16 with _ | _
      · rfl
      · exact ff e (G.D15 (G.D16 hs)).2
     have Xw := G.X eS
     obtain ⟨es, ep, et, eu⟩ := G.CJ t13 eS
     have He := Lib.hid e
     have HeS := Lib.hid eS
     have HX := Lib.hid Xw
     clear e eS Xw
     refine wpOp_run (o := ?o14) ?i14 ?w14 (fun K hK => ?_)
     case i14 => simp only [List.getElem?_toArray, List.getElem?_cons_zero, List.getElem?_cons_succ]; exact rfl
     case w14 => rfl
     have HK2 := Lib.hid hK
     clear hK
     go_simp
     (try simp only [Act.put, List.setIfInBounds_toArray, List.set_cons_zero, List.set_cons_succ])
     have e := He.out
     have eS := HeS.out
     have Xw := HX.out
     refine HK2.out _ _ ((HI.out _ _ _).2 ⟨{ σ with b14 := true, s96 := _, s95 := _, kr := W.heap.size }, rfl, rfl, { G with D14 := (fun _ => t13), D15 := (fun h => ff e (G.D15 h).2), X := (fun _ => Xw.alloc _), CJ := (fun _ _ => ⟨rfl, ep, et.up ((Ext.refl W).alloc _), eu⟩), RJ := (fun _ _ => ⟨rfl, reads_oneN W (treeC σ.z) 40 rfl rfl, Xw.size⟩), UJ := (fun h => ff e (G.D15 h).2), BL := (fun h => (G.BL h).alloc _), F := (fun h => ff eS h) }⟩)
   · have e : σ.b15 = false := hl
     have hd := hd _ rfl
     clear hl hlt
     simp [Region.binds] at hd
     have t1 : σ.b1 = true := by simp [hd]
     have t14 : σ.b14 = true := by simp [hd]
     clear hd
     have eS : σ.b16 = false := by
      rcases hs : σ.b16 with _ | _
      · rfl
      · exact ff e (G.D16 hs)
     have Xw := G.X eS
     have e1 := G.Q1 t1
     obtain ⟨es, er, ek⟩ := G.RJ t14 eS
     have He := Lib.hid e
     have HeS := Lib.hid eS
     have HX := Lib.hid Xw
     clear e eS Xw
     refine wpOp_run (o := ?o15) ?i15 ?w15 (fun K hK => ?_)
     case i15 => simp only [List.getElem?_toArray, List.getElem?_cons_zero, List.getElem?_cons_succ]; exact rfl
     case w15 => rfl
     have HK2 := Lib.hid hK
     clear hK
     go_simp
     (try simp only [Act.put, List.setIfInBounds_toArray, List.set_cons_zero, List.set_cons_succ])
     have e := He.out
     have eS := HeS.out
     have Xw := HX.out
     refine HK2.out _ _ ((HI.out _ _ _).2 ⟨{ σ with b15 := true, s97 := _, s83 := _, s96 := _ }, rfl, rfl, { G with D15 := (fun _ => ⟨t1, t14⟩), D16 := (fun h => ff e (G.D16 h)), Q1 := (fun _ => rfl), RJ := (fun _ _ => ⟨rfl, er, ek⟩), UJ := (fun _ _ => rfl), F := (fun h => ff eS h) }⟩)
   · have e : σ.b16 = false := hl
     have hd := hd _ rfl
     clear hl hlt
     simp [Region.binds] at hd
     have t15 : σ.b15 = true := by simp [hd]
     clear hd
     have eS : σ.b16 = false := e
     have Xw := G.X eS
     have B := G.BL eS
     have g0 : W.cell? ⟨ka, 0, none⟩ = some (.int .i64 v.number) := B.cell 0
     have f0 := B.free 0
     have g1 : W.cell? ⟨ka, 1, none⟩ = some (.slice v.a.1 v.words.length v.a.2) := B.cell 1
     have f1 := B.free 1
     have g2 : W.cell? ⟨ka, 2, none⟩ = some (.slice v.b.1 v.texts.length v.b.2) := B.cell 2
     have f2 := B.free 2
     have g3 : W.cell? ⟨ka, 3, none⟩ = some (.slice (some ⟨bv_, ov, none⟩) v.subs.length v.c.2) := B.cell 3
     have f3 := B.free 3
     have lb := B.lt
     have HB := Lib.hid B
     clear B
     have ej := G.UJ t15 eS
     obtain ⟨-, ep, et, eu⟩ := G.CJ (G.D14 (G.D15 t15).2) eS
     obtain ⟨-, er, ek⟩ := G.RJ (G.D15 t15).2 eS
     have He := Lib.hid e
     have HeS := Lib.hid eS
     have HX := Lib.hid Xw
     clear e eS Xw
     refine wpOp_run (o := ?o16) ?i16 ?w16 (fun K hK => ?_)
     case i16 => simp only [List.getElem?_toArray, List.getElem?_cons_zero, List.getElem?_cons_succ]; exact rfl
     case w16 => rfl
     have HK2 := Lib.hid hK
     clear hK
     go_simp
     (try simp only [Act.put, List.setIfInBounds_toArray, List.set_cons_zero, List.set_cons_succ])
     have e := He.out
     have eS := HeS.out
     have Xw := HX.out
     refine HK2.out _ _ ((HI.out _ _ _).2 ⟨{ σ with b16 := true, s97 := _ }, rfl, rfl, { G with D16 := (fun _ => t15), CJ := (fun _ h => by cases h), RJ := (fun _ h => by cases h), UJ := (fun _ h => by cases h), X := (fun h => by cases h), BL := (fun h => by cases h), F := (fun _ => ⟨(((((E0.trans HX.out).setCell (p := ⟨ka, 0, none⟩) hb (.int .i64 v.number)).setCell (p := ⟨ka, 1, none⟩) hb (.slice none 0 0)).setCell (p := ⟨ka, 2, none⟩) hb (.slice none 0 0)).setCell (p := ⟨ka, 3, none⟩) hb (.slice (some ⟨σ.kr, 0, none⟩) 1 1)), (((((Stays.of_ext HX.out).set (p := ⟨ka, 0, none⟩) (fun e => e rfl) (.int .i64 v.number)).set (p := ⟨ka, 1, none⟩) (fun e => e rfl) (.slice none 0 0)).set (p := ⟨ka, 2, none⟩) (fun e => e rfl) (.slice none 0 0)).set (p := ⟨ka, 3, none⟩) (fun e => e rfl) (.slice (some ⟨σ.kr, 0, none⟩) 1 1)), ((((HB.out.set_ 0 (.int .i64 v.number)).set_ 1 (.slice none 0 0)).set_ 2 (.slice none 0 0)).set_ 3 (.slice (some ⟨σ.kr, 0, none⟩) 1 1)), ep, et.stays (((((Stays.refl (fun b => b ≠ ka) W).set (p := ⟨ka, 0, none⟩) (fun e => e rfl) (.int .i64 v.number)).set (p := ⟨ka, 1, none⟩) (fun e => e rfl) (.slice none 0 0)).set (p := ⟨ka, 2, none⟩) (fun e => e rfl) (.slice none 0 0)).set (p := ⟨ka, 3, none⟩) (fun e => e rfl) (.slice (some ⟨σ.kr, 0, none⟩) 1 1)) (fun b hb => (eu b hb).1), eu, er.stays (((((Stays.refl (fun b => b ≠ ka) W).set (p := ⟨ka, 0, none⟩) (fun e => e rfl) (.int .i64 v.number)).set (p := ⟨ka, 1, none⟩) (fun e => e rfl) (.slice none 0 0)).set (p := ⟨ka, 2, none⟩) (fun e => e rfl) (.slice none 0 0)).set (p := ⟨ka, 3, none⟩) (fun e => e rfl) (.slice (some ⟨σ.kr, 0, none⟩) 1 1)) (fun b hb => (by obtain ⟨_, p, hp, rfl⟩ := hb; cases hp; show σ.kr ≠ ka; omega)), ek⟩) }⟩)
 · obtain ⟨σ, rfl, rfl, hF⟩ := (HI.out _ _ _).1 hi
   clear hi
   have t0 : σ.b0 = true := ready_none hr (i := 0) rfl (by simp [Region.binds]) (show 0 < 17 by decide)
   have t1 : σ.b1 = true := ready_none hr (i := 1) rfl (by simp [Region.binds, t0]) (show 1 < 17 by decide)
   have t2 : σ.b2 = true := ready_none hr (i := 2) rfl (by simp [Region.binds, t0, t1]) (show 2 < 17 by decide)
   have t3 : σ.b3 = true := ready_none hr (i := 3) rfl (by simp [Region.binds, t0, t1, t2]) (show 3 < 17 by decide)
   have t4 : σ.b4 = true := ready_none hr (i := 4) rfl (by simp [Region.binds, t0, t1, t2, t3]) (show 4 < 17 by decide)
   have t5 : σ.b5 = true := ready_none hr (i := 5) rfl (by simp [Region.binds, t0, t1, t2, t3, t4]) (show 5 < 17 by decide)
   have t6 : σ.b6 = true := ready_none hr (i := 6) rfl (by simp [Region.binds, t0, t1, t2, t3, t4, t5]) (show 6 < 17 by decide)
   have t7 : σ.b7 = true := ready_none hr (i := 7) rfl (by simp [Region.binds, t0, t1, t2, t3, t4, t5, t6]) (show 7 < 17 by decide)
   have t8 : σ.b8 = true := ready_none hr (i := 8) rfl (by simp [Region.binds, t0, t1, t2, t3, t4, t5, t6, t7]) (show 8 < 17 by decide)
   have t9 : σ.b9 = true := ready_none hr (i := 9) rfl (by simp [Region.binds, t0, t1, t2, t3, t4, t5, t6, t7, t8]) (show 9 < 17 by decide)
   have t10 : σ.b10 = true := ready_none hr (i := 10) rfl (by simp [Region.binds, t0, t1, t2, t3, t4, t5, t6, t7, t8, t9]) (show 10 < 17 by decide)
   have t11 : σ.b11 = true := ready_none hr (i := 11) rfl (by simp [Region.binds, t0, t1, t2, t3, t4, t5, t6, t7, t8, t9, t10]) (show 11 < 17 by decide)
   have t12 : σ.b12 = true := ready_none hr (i := 12) rfl (by simp [Region.binds, t0, t1, t2, t3, t4, t5, t6, t7, t8, t9, t10, t11]) (show 12 < 17 by decide)
   have t13 : σ.b13 = true := ready_none hr (i := 13) rfl (by simp [Region.binds, t0, t1, t2, t3, t4, t5, t6, t7, t8, t9, t10, t11, t12]) (show 13 < 17 by decide)
   have t14 : σ.b14 = true := ready_none hr (i := 14) rfl (by simp [Region.binds, t0, t1, t2, t3, t4, t5, t6, t7, t8, t9, t10, t11, t12, t13]) (show 14 < 17 by decide)
   have t15 : σ.b15 = true := ready_none hr (i := 15) rfl (by simp [Region.binds, t0, t1, t2, t3, t4, t5, t6, t7, t8, t9, t10, t11, t12, t13, t14]) (show 15 < 17 by decide)
   have t16 : σ.b16 = true := ready_none hr (i := 16) rfl (by simp [Region.binds, t0, t1, t2, t3, t4, t5, t6, t7, t8, t9, t10, t11, t12, t13, t14, t15]) (show 16 < 17 by decide)
   obtain ⟨x0, st, bl, y0, y1, y2, y3, y4⟩ := hF.F t16
   exact HK.out _ _ _ _ _ _ _ _ _ _ _ _ _ _ _ _   _ _ W x0 st bl y0 y1 y2 y3 y4 
 · refine (HI.out _ _ _).2 ⟨⟨false, false, false, false, false, false, false, false, false, false, false, false, false, false, false, false, false, _, _, _, _, _, _, _, _, _, _, _, _, _, _, _, _, (.mk (none, 0) (none, 0) [] []), 0⟩, rfl, rfl, ?_⟩
   constructor
   all_goals dsimp only
   all_goals first | exact fun _ => B0.drew | exact fun _ => (Ext.refl w).drew | (intro h; cases h; done)

end Go.Proofs.YtnnphodgegcddaaGreat

/- A drawn region of the reference's Join as a law of its own. (Printed by gen_jreg6.py.) -/



namespace Go.Proofs.YtnnphodgegcddaaGreat
open Go.RowKit Go.Shelf
set_option linter.unusedVariables false
set_option linter.unusedSimpArgs false

set_option maxRecDepth 100000 in
set_option maxHeartbeats 4000000 in
theorem jreg6 {Q0 : Exit → Act → World → Prop} {u2 u3 u4 u5 u6 u7 u8 u9 u10 u12 u13 u14 u15 u16 u17 u18 u19 u20 u21 u22 u23 u24 u25 u26 u27 u28 u29 u30 u31 u32 u33 u34 u35 u36 u37 u38 u39 u40 u41 u42 u43 u44 u45 u46 u47 u48 u49 u50 u51 u52 u53 u54 u55 u56 u57 u58 u59 u60 u61 u62 u63 u64 u65 u66 u67 u68 u69 u70 u71 u72 u73 u74 u75 u76 u77 u78 u79 u80 u81 u82 u83 u84 u85 u86 u87 u88 u89 u90 u91 u92 u93 u94 u95 u96 u97 u98 u99 u100 u101 u102 u103 u104 u105 u106 u107 u108 u109 : Value} {w : World} {b1 off1 n c m b8 off8 Mn Mc i ka : Nat} {nm : ByteArray} {num : Int} {f : FieldD} (hm : m < n) (hi : i < Mn)
  (s0 : w.cell? ⟨b1, off1 + m * 2, none⟩ = some (.string nm)) (s1 : w.cell? ⟨b1, off1 + m * 2 + 1, none⟩ = some (.slice (some ⟨b8, off8, none⟩) Mn Mc)) (g0 : w.cell? ⟨b8, off8 + i * 6, none⟩ = some (.string f.name)) (g1 : w.cell? ⟨b8, off8 + i * 6 + 1, none⟩ = some (.int .i64 f.number)) (g2 : w.cell? ⟨b8, off8 + i * 6 + 2, none⟩ = some (.int .i64 f.kind)) (g3 : w.cell? ⟨b8, off8 + i * 6 + 3, none⟩ = some (.bool f.rep)) (g4 : w.cell? ⟨b8, off8 + i * 6 + 4, none⟩ = some (.bool f.packed)) (g5 : w.cell? ⟨b8, off8 + i * 6 + 5, none⟩ = some (.int .i64 f.of_)) (e0 : w.cell? ⟨ka, 0, none⟩ = some (.int .i64 num))
  (l1 : b1 < w.heap.size) (l8 : b8 < w.heap.size) (lk : ka < w.heap.size)
  (Hf : Hid (∀ W, Ext w W → Calls Tryz.prog 49 #[.agg #[.string nm, .slice (some ⟨b8, off8, none⟩) Mn Mc], .int .i64 num] W fun e W' => e = .returned (.int .i64 (i : Int)) ∧ Ext W W'))
  (hK : ∀ (v28 v29 v30 v31 v32 v33 v34 v35 v36 v37 v38 v39 v40 v41 : Value) (kb : Nat) (wz : World), Ext w wz → w.heap.size ≤ kb → BlkT wz kb 48 #[.string f.name, .int .i64 f.number, .int .i64 f.kind, .bool f.rep, .bool f.packed, .int .i64 f.of_] → Q0 .normal ⟨#[.slice (some ⟨b1, off1, none⟩) n c, .int .i64 (m : Int), u2, u3, u4, u5, u6, u7, u8, u9, u10, .pointer (some ⟨ka, 0, none⟩), .pointer (some ⟨kb, 0, none⟩), u13, u14, u15, u16, u17, u18, u19, u20, u21, u22, u23, u24, u25, u26, u27, v28, v29, v30, v31, v32, v33, v34, v35, v36, v37, v38, v39, v40, v41, u42, u43, u44, u45, u46, u47, u48, u49, u50, u51, u52, u53, u54, u55, u56, u57, u58, u59, u60, u61, u62, u63, u64, u65, u66, u67, u68, u69, u70, u71, u72, u73, u74, u75, u76, u77, u78, u79, u80, u81, u82, u83, u84, u85, u86, u87, u88, u89, u90, u91, u92, u93, u94, u95, u96, u97, u98, u99, u100, u101, u102, u103, u104, u105, u106, u107, u108, u109], []⟩ wz) :
  Code.wp Tryz.prog (regJ 6) (calmQ Q0) ⟨#[.slice (some ⟨b1, off1, none⟩) n c, .int .i64 (m : Int), u2, u3, u4, u5, u6, u7, u8, u9, u10, .pointer (some ⟨ka, 0, none⟩), u12, u13, u14, u15, u16, u17, u18, u19, u20, u21, u22, u23, u24, u25, u26, u27, u28, u29, u30, u31, u32, u33, u34, u35, u36, u37, u38, u39, u40, u41, u42, u43, u44, u45, u46, u47, u48, u49, u50, u51, u52, u53, u54, u55, u56, u57, u58, u59, u60, u61, u62, u63, u64, u65, u66, u67, u68, u69, u70, u71, u72, u73, u74, u75, u76, u77, u78, u79, u80, u81, u82, u83, u84, u85, u86, u87, u88, u89, u90, u91, u92, u93, u94, u95, u96, u97, u98, u99, u100, u101, u102, u103, u104, u105, u106, u107, u108, u109], []⟩ w := by
 have HK := Lib.hid hK
 clear hK
 have mI : (m : Int) < n := by omega
 have iI : (i : Int) < Mn := by omega
 have iN : decide ((i : Int) < 0) = false := by rw [decide_eq_false_iff_not]; omega
 conv => arg 2; whnf
 have Q4 : Ext w w := Ext.refl w
 go_region_held3 (fun W => Ext w W ∧ ∀ b o, b < w.heap.size → W.cell? ⟨b, o, none⟩ = w.cell? ⟨b, o, none⟩) ((refine Ext.keep ?_; repeat with_reducible (first | assumption | exact Ext.refl _ | refine Ext.alloc ?_ _ | refine Ext.drew ?_ | refine Ext.drewN ?_ _ | refine Ext.setCell ?_ (by first | omega | (simp <;> omega)) _))) (first
  | (go_split_ands; go_at_call 49; refine (Hf.out _ (by with_reducible assumption)).mono ?_; rintro e w5 ⟨rfl, E5⟩; have q5 : Ext w w5 := Ext.trans (by with_reducible assumption) E5; have q5s := q5.size; (try (have B5 := (BlkT.new w 48 #[.string ⟨#[]⟩, .int .i64 0, .int .i64 0, .bool false, .bool false, .int .i64 0] rfl).up (Ext.drew_of E5); have g21 : ∀ i, w5.cell? ⟨w.heap.size, i, none⟩ = (#[.string ⟨#[]⟩, .int .i64 0, .int .i64 0, .bool false, .bool false, .int .i64 0] : Array Value)[i]? := B5.cell; have g22 : ∀ i, w5.frozen? ⟨w.heap.size, i, none⟩ = false := B5.free; have g23 := B5.lt))))
 all_goals go_simp
 · exact HK.out _ _ _ _ _ _ _ _ _ _ _ _ _ _ _ _ (q5.alloc _) q5s (BlkT.new _ _ _ rfl)
 · exact HK.out _ _ _ _ _ _ _ _ _ _ _ _ _ _ _ _ ((((((q5.setCell (p := ⟨w.heap.size, 0, none⟩) (Nat.le_refl _) _).setCell (p := ⟨w.heap.size, 1, none⟩) (Nat.le_refl _) _).setCell (p := ⟨w.heap.size, 2, none⟩) (Nat.le_refl _) _).setCell (p := ⟨w.heap.size, 3, none⟩) (Nat.le_refl _) _).setCell (p := ⟨w.heap.size, 4, none⟩) (Nat.le_refl _) _).setCell (p := ⟨w.heap.size, 5, none⟩) (Nat.le_refl _) _) (Nat.le_refl _) ((((((B5.set_ 0 _).set_ 1 _).set_ 2 _).set_ 3 _).set_ 4 _).set_ 5 _)

end Go.Proofs.YtnnphodgegcddaaGreat
