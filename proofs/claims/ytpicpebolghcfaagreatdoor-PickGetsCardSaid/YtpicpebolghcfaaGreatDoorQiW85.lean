/- Layer 22: region 10 of the reference's Pieces. -/
import Derived.Test.YtpicpebolghcfaaGreatDoorQiW83

namespace Go.Proofs.YtpicpebolghcfaaGreatDoor
open Go.RowKit Go.Shelf
set_option linter.unusedVariables false
set_option linter.unusedSimpArgs false

def store6 (w : World) (b : Nat) (f : FieldD) : World :=
  (((((w.setCell ⟨b, 0, none⟩ (.string f.name)).setCell ⟨b, 1, none⟩ (.int .i64 f.number)).setCell ⟨b, 2, none⟩ (.int .i64 f.kind)).setCell ⟨b, 3, none⟩ (.bool f.rep)).setCell ⟨b, 4, none⟩ (.bool f.packed)).setCell ⟨b, 5, none⟩ (.int .i64 f.of_)

theorem store6_ext {w0 w : World} {b : Nat} {f : FieldD} (h : Ext w0 w) (hb : w0.heap.size ≤ b) : Ext w0 (store6 w b f) := by
  unfold store6
  exact (((((h.setCell (p := ⟨b, 0, none⟩) hb _).setCell (p := ⟨b, 1, none⟩) hb _).setCell (p := ⟨b, 2, none⟩) hb _).setCell (p := ⟨b, 3, none⟩) hb _).setCell (p := ⟨b, 4, none⟩) hb _).setCell (p := ⟨b, 5, none⟩) hb _

theorem store6_blk {w : World} {b : Nat} {t : TypeId} {f : FieldD} (h : BlkT w b t #[.string ⟨#[]⟩, .int .i64 0, .int .i64 0, .bool false, .bool false, .int .i64 0]) : BlkT (store6 w b f) b t #[.string f.name, .int .i64 f.number, .int .i64 f.kind, .bool f.rep, .bool f.packed, .int .i64 f.of_] := by
  unfold store6
  have := (((((h.set_ 0 (.string f.name)).set_ 1 (.int .i64 f.number)).set_ 2 (.int .i64 f.kind)).set_ 3 (.bool f.rep)).set_ 4 (.bool f.packed)).set_ 5 (.int .i64 f.of_)
  simpa using this

noncomputable def regPc (n : Nat) : Code := ((Tryz.f19.body.bind (regionOfP n)).getD .skip)

structure Preg10S where
  (b0 b1 b2 b3 b4 b5 b6 b7 b8 b9 b10 b11 b12 b13 b14 b15 b16 : Bool)
  (s16 s76 s77 s78 s79 s80 s81 s82 s83 s84 s85 s86 s87 s88 s89 s90 : Value)
  (ka : Nat)

structure Preg10F (w : World) (sb : Nat) (so : Nat) (n : Nat) (c : Nat) (wb : Nat) (wo : Nat) (k : Nat) (kc : Nat) (fb : Nat) (fo : Nat) (Mk : Nat) (Mc : Nat) (m : Nat) (j : Nat) (Mn : ByteArray) (x : Int) (fname : ByteArray) (fnum : Int) (fkind : Int) (frep : Bool) (fpk : Bool) (fof : Int) (σ : Preg10S) (W : World) : Prop where
  X : Ext w W
  Q0 : σ.b0 = true → σ.s76 = .slice (some ⟨sb, so, none⟩) n c
  Q1 : σ.b1 = true → σ.s77 = .int .i64 (m : Int)
  Q2 : σ.b2 = true → σ.s78 = .pointer (some ⟨sb, so + m * 2, none⟩)
  Q3 : σ.b3 = true → σ.s79 = .pointer (some ⟨sb, so + m * 2 + 1, none⟩)
  Q4 : σ.b4 = true → σ.s80 = .slice (some ⟨fb, fo, none⟩) Mk Mc
  Q5 : σ.b5 = true → σ.s81 = .slice (some ⟨sb, so, none⟩) n c
  Q6 : σ.b6 = true → σ.s82 = .int .i64 (m : Int)
  Q7 : σ.b7 = true → σ.s83 = .pointer (some ⟨sb, so + m * 2, none⟩)
  Q8 : σ.b8 = true → σ.s84 = .agg #[.string Mn, .slice (some ⟨fb, fo, none⟩) Mk Mc]
  Q9 : σ.b9 = true → σ.s85 = .slice (some ⟨wb, wo, none⟩) k kc
  Q10 : σ.b10 = true → σ.s86 = .pointer (some ⟨wb, wo, none⟩)
  Q11 : σ.b11 = true → σ.s87 = .int .i64 x
  Q12 : σ.b12 = true → σ.s88 = .int .i64 (j : Nat)
  Q13 : σ.b13 = true → σ.s89 = .pointer (some ⟨fb, fo + j * 6, none⟩)
  Q14 : σ.b14 = true → σ.s90 = .agg #[.string fname, .int .i64 fnum, .int .i64 fkind, .bool frep, .bool fpk, .int .i64 fof]
  L15 : σ.b15 = true → σ.s16 = .pointer (some ⟨σ.ka, 0, none⟩) ∧ w.heap.size ≤ σ.ka ∧ (σ.b16 = false → BlkT W σ.ka 43 #[.string ⟨#[]⟩, .int .i64 0, .int .i64 0, .bool false, .bool false, .int .i64 0])
  F16 : σ.b16 = true → BlkT W σ.ka 43 #[.string fname, .int .i64 fnum, .int .i64 fkind, .bool frep, .bool fpk, .int .i64 fof]
  D2 : σ.b2 = true → σ.b0 = true ∧ σ.b1 = true
  D3 : σ.b3 = true → σ.b2 = true
  D4 : σ.b4 = true → σ.b3 = true
  D7 : σ.b7 = true → σ.b5 = true ∧ σ.b6 = true
  D8 : σ.b8 = true → σ.b7 = true
  D10 : σ.b10 = true → σ.b9 = true
  D11 : σ.b11 = true → σ.b10 = true
  D12 : σ.b12 = true → σ.b8 = true ∧ σ.b11 = true
  D13 : σ.b13 = true → σ.b4 = true ∧ σ.b12 = true
  D14 : σ.b14 = true → σ.b13 = true
  D16 : σ.b16 = true → σ.b14 = true ∧ σ.b15 = true

set_option maxRecDepth 100000 in
set_option maxHeartbeats 4000000 in
theorem preg10 {Q0 : Exit → Act → World → Prop} {u2 u4 u5 u6 u7 u8 u9 u10 u11 u12 u13 u14 u15 u16 u17 u18 u19 u20 u21 u22 u23 u24 u25 u26 u27 u28 u29 u30 u31 u32 u33 u34 u35 u36 u37 u38 u39 u40 u41 u42 u43 u44 u45 u46 u47 u48 u49 u50 u51 u52 u53 u54 u55 u56 u57 u58 u59 u60 u61 u62 u63 u64 u65 u66 u67 u68 u69 u70 u71 u72 u73 u74 u75 u76 u77 u78 u79 u80 u81 u82 u83 u84 u85 u86 u87 u88 u89 u90 u91 u92 u93 u94 u95 u96 u97 u98 u99 u100 u101 u102 u103 u104 : Value} {w : World} {sb : Nat} {so : Nat} {n : Nat} {c : Nat} {wb : Nat} {wo : Nat} {k : Nat} {kc : Nat} {fb : Nat} {fo : Nat} {Mk : Nat} {Mc : Nat} {m : Nat} {j : Nat} {Mn : ByteArray} {x : Int} {fname : ByteArray} {fnum : Int} {fkind : Int} {frep : Bool} {fpk : Bool} {fof : Int} (hmi : (m : Int) < n) (hki : (0 : Int) < k) (hk0 : 0 < k) (hji : (j : Int) < Mk) (z0 : w.cell? ⟨sb, so + m * 2, none⟩ = some (.string Mn)) (z1 : w.cell? ⟨sb, so + m * 2 + 1, none⟩ = some (.slice (some ⟨fb, fo, none⟩) Mk Mc)) (zw : w.cell? ⟨wb, wo, none⟩ = some (.int .i64 x))
    (y0 : w.cell? ⟨fb, fo + j * 6, none⟩ = some (.string fname)) (y1 : w.cell? ⟨fb, fo + j * 6 + 1, none⟩ = some (.int .i64 fnum)) (y2 : w.cell? ⟨fb, fo + j * 6 + 2, none⟩ = some (.int .i64 fkind)) (y3 : w.cell? ⟨fb, fo + j * 6 + 3, none⟩ = some (.bool frep)) (y4 : w.cell? ⟨fb, fo + j * 6 + 4, none⟩ = some (.bool fpk)) (y5 : w.cell? ⟨fb, fo + j * 6 + 5, none⟩ = some (.int .i64 fof))
    (hby : ∀ W : World, Ext w W → Calls Tryz.prog 42 #[.agg #[.string Mn, .slice (some ⟨fb, fo, none⟩) Mk Mc], .int .i64 x] W fun e w' => e = .returned (.int .i64 (j : Nat)) ∧ Ext W w')
    (hK : ∀ (s16 s76 s77 s78 s79 s80 s81 s82 s83 s84 s85 s86 s87 s88 s89 s90 : Value) (ka : Nat) (wz : World), s16 = .pointer (some ⟨ka, 0, none⟩) → w.heap.size ≤ ka → BlkT wz ka 43 #[.string fname, .int .i64 fnum, .int .i64 fkind, .bool frep, .bool fpk, .int .i64 fof] → Ext w wz → Q0 .normal ⟨#[.slice (some ⟨sb, so, none⟩) n c, .int .i64 (m : Int), u2, .slice (some ⟨wb, wo, none⟩) k kc, u4, u5, u6, u7, u8, u9, u10, u11, u12, u13, u14, u15, s16, u17, u18, u19, u20, u21, u22, u23, u24, u25, u26, u27, u28, u29, u30, u31, u32, u33, u34, u35, u36, u37, u38, u39, u40, u41, u42, u43, u44, u45, u46, u47, u48, u49, u50, u51, u52, u53, u54, u55, u56, u57, u58, u59, u60, u61, u62, u63, u64, u65, u66, u67, u68, u69, u70, u71, u72, u73, u74, u75, s76, s77, s78, s79, s80, s81, s82, s83, s84, s85, s86, s87, s88, s89, s90, u91, u92, u93, u94, u95, u96, u97, u98, u99, u100, u101, u102, u103, u104], []⟩ wz) :
    Code.wp Tryz.prog (regPc 10) (calmQP Q0) ⟨#[.slice (some ⟨sb, so, none⟩) n c, .int .i64 (m : Int), u2, .slice (some ⟨wb, wo, none⟩) k kc, u4, u5, u6, u7, u8, u9, u10, u11, u12, u13, u14, u15, u16, u17, u18, u19, u20, u21, u22, u23, u24, u25, u26, u27, u28, u29, u30, u31, u32, u33, u34, u35, u36, u37, u38, u39, u40, u41, u42, u43, u44, u45, u46, u47, u48, u49, u50, u51, u52, u53, u54, u55, u56, u57, u58, u59, u60, u61, u62, u63, u64, u65, u66, u67, u68, u69, u70, u71, u72, u73, u74, u75, u76, u77, u78, u79, u80, u81, u82, u83, u84, u85, u86, u87, u88, u89, u90, u91, u92, u93, u94, u95, u96, u97, u98, u99, u100, u101, u102, u103, u104], []⟩ w := by
  have HK := Lib.hid hK
  clear hK
  conv => arg 2; whnf
  obtain ⟨I, hI⟩ : ∃ I : Array Bool → Act → World → Prop, ∀ l a W, I l a W ↔ (∃ σ : Preg10S, l = #[σ.b0, σ.b1, σ.b2, σ.b3, σ.b4, σ.b5, σ.b6, σ.b7, σ.b8, σ.b9, σ.b10, σ.b11, σ.b12, σ.b13, σ.b14, σ.b15, σ.b16] ∧ a = ⟨#[.slice (some ⟨sb, so, none⟩) n c, .int .i64 (m : Int), u2, .slice (some ⟨wb, wo, none⟩) k kc, u4, u5, u6, u7, u8, u9, u10, u11, u12, u13, u14, u15, σ.s16, u17, u18, u19, u20, u21, u22, u23, u24, u25, u26, u27, u28, u29, u30, u31, u32, u33, u34, u35, u36, u37, u38, u39, u40, u41, u42, u43, u44, u45, u46, u47, u48, u49, u50, u51, u52, u53, u54, u55, u56, u57, u58, u59, u60, u61, u62, u63, u64, u65, u66, u67, u68, u69, u70, u71, u72, u73, u74, u75, σ.s76, σ.s77, σ.s78, σ.s79, σ.s80, σ.s81, σ.s82, σ.s83, σ.s84, σ.s85, σ.s86, σ.s87, σ.s88, σ.s89, σ.s90, u91, u92, u93, u94, u95, u96, u97, u98, u99, u100, u101, u102, u103, u104], []⟩ ∧ Preg10F w sb so n c wb wo k kc fb fo Mk Mc m j Mn x fname fnum fkind frep fpk fof σ W) := ⟨_, fun _ _ _ => Iff.rfl⟩
  have HI := Lib.hid hI
  clear hI
  refine wp_region_inv (I := I) (by kernel_rfl) (fun i l a W hi hr => ?_) (fun l a W hi hr => ?_) ?_
  · obtain ⟨σ, rfl, rfl, G⟩ := (HI.out _ _ _).1 hi
    clear hi
    obtain ⟨hlt, hl, hd⟩ := ready_spec hr
    clear hr
    have hlt : i < 17 := hlt
    rcases (show i = 0 ∨ i = 1 ∨ i = 2 ∨ i = 3 ∨ i = 4 ∨ i = 5 ∨ i = 6 ∨ i = 7 ∨ i = 8 ∨ i = 9 ∨ i = 10 ∨ i = 11 ∨ i = 12 ∨ i = 13 ∨ i = 14 ∨ i = 15 ∨ i = 16 by omega) with rfl | rfl | rfl | rfl | rfl | rfl | rfl | rfl | rfl | rfl | rfl | rfl | rfl | rfl | rfl | rfl | rfl
    · have e : σ.b0 = false := hl
      clear hl hlt hd
      have He := Lib.hid e
      clear e
      refine wpOp_run rfl rfl (fun K hK => ?_)
      have HK2 := Lib.hid hK
      clear hK
      go_simp
      have e := He.out
      refine HK2.out _ _ ((HI.out _ _ _).2 ⟨{ σ with b0 := true, s76 := _ }, rfl, rfl, { G with D2 := (fun h => ff e (G.D2 h).1), Q0 := (fun _ => rfl) }⟩)
    · have e : σ.b1 = false := hl
      clear hl hlt hd
      have He := Lib.hid e
      clear e
      refine wpOp_run rfl rfl (fun K hK => ?_)
      have HK2 := Lib.hid hK
      clear hK
      go_simp
      have e := He.out
      refine HK2.out _ _ ((HI.out _ _ _).2 ⟨{ σ with b1 := true, s77 := _ }, rfl, rfl, { G with D2 := (fun h => ff e (G.D2 h).2), Q1 := (fun _ => rfl) }⟩)
    · have e : σ.b2 = false := hl
      have hd := hd _ rfl
      clear hl hlt
      simp [Region.binds] at hd
      have t0 : σ.b0 = true := (by simp [hd])
      have t1 : σ.b1 = true := (by simp [hd])
      clear hd
      have er0 := G.Q0 t0
      have er1 := G.Q1 t1
      have He := Lib.hid e
      clear e
      refine wpOp_run rfl rfl (fun K hK => ?_)
      have HK2 := Lib.hid hK
      clear hK
      go_simp
      have e := He.out
      refine HK2.out _ _ ((HI.out _ _ _).2 ⟨{ σ with b2 := true, s78 := _, s76 := _, s77 := _ }, rfl, rfl, { G with D2 := (fun _ => ⟨t0, t1⟩), D3 := (fun h => ff e (G.D3 h)), Q0 := (fun _ => rfl), Q1 := (fun _ => rfl), Q2 := (fun _ => rfl) }⟩)
    · have e : σ.b3 = false := hl
      have hd := hd _ rfl
      clear hl hlt
      simp [Region.binds] at hd
      have t2 : σ.b2 = true := (by simp [hd])
      clear hd
      have er2 := G.Q2 t2
      have He := Lib.hid e
      clear e
      refine wpOp_run rfl rfl (fun K hK => ?_)
      have HK2 := Lib.hid hK
      clear hK
      go_simp
      have e := He.out
      refine HK2.out _ _ ((HI.out _ _ _).2 ⟨{ σ with b3 := true, s79 := _, s78 := _ }, rfl, rfl, { G with D3 := (fun _ => t2), D4 := (fun h => ff e (G.D4 h)), Q2 := (fun _ => rfl), Q3 := (fun _ => rfl) }⟩)
    · have e : σ.b4 = false := hl
      have hd := hd _ rfl
      clear hl hlt
      simp [Region.binds] at hd
      have t3 : σ.b3 = true := (by simp [hd])
      clear hd
      have er3 := G.Q3 t3
      have g0 : W.cell? ⟨sb, so + m * 2 + 1, none⟩ = some (.slice (some ⟨fb, fo, none⟩) Mk Mc) := G.X.of_cell z1
      have gl0 := World.block_lt_of_cell? W _ g0
      have He := Lib.hid e
      clear e
      refine wpOp_run rfl rfl (fun K hK => ?_)
      have HK2 := Lib.hid hK
      clear hK
      go_simp
      have e := He.out
      refine HK2.out _ _ ((HI.out _ _ _).2 ⟨{ σ with b4 := true, s80 := _, s79 := _ }, rfl, rfl, { G with D4 := (fun _ => t3), D13 := (fun h => ff e (G.D13 h).1), Q3 := (fun _ => rfl), Q4 := (fun _ => rfl) }⟩)
    · have e : σ.b5 = false := hl
      clear hl hlt hd
      have He := Lib.hid e
      clear e
      refine wpOp_run rfl rfl (fun K hK => ?_)
      have HK2 := Lib.hid hK
      clear hK
      go_simp
      have e := He.out
      refine HK2.out _ _ ((HI.out _ _ _).2 ⟨{ σ with b5 := true, s81 := _ }, rfl, rfl, { G with D7 := (fun h => ff e (G.D7 h).1), Q5 := (fun _ => rfl) }⟩)
    · have e : σ.b6 = false := hl
      clear hl hlt hd
      have He := Lib.hid e
      clear e
      refine wpOp_run rfl rfl (fun K hK => ?_)
      have HK2 := Lib.hid hK
      clear hK
      go_simp
      have e := He.out
      refine HK2.out _ _ ((HI.out _ _ _).2 ⟨{ σ with b6 := true, s82 := _ }, rfl, rfl, { G with D7 := (fun h => ff e (G.D7 h).2), Q6 := (fun _ => rfl) }⟩)
    · have e : σ.b7 = false := hl
      have hd := hd _ rfl
      clear hl hlt
      simp [Region.binds] at hd
      have t5 : σ.b5 = true := (by simp [hd])
      have t6 : σ.b6 = true := (by simp [hd])
      clear hd
      have er5 := G.Q5 t5
      have er6 := G.Q6 t6
      have He := Lib.hid e
      clear e
      refine wpOp_run rfl rfl (fun K hK => ?_)
      have HK2 := Lib.hid hK
      clear hK
      go_simp
      have e := He.out
      refine HK2.out _ _ ((HI.out _ _ _).2 ⟨{ σ with b7 := true, s83 := _, s81 := _, s82 := _ }, rfl, rfl, { G with D7 := (fun _ => ⟨t5, t6⟩), D8 := (fun h => ff e (G.D8 h)), Q5 := (fun _ => rfl), Q6 := (fun _ => rfl), Q7 := (fun _ => rfl) }⟩)
    · have e : σ.b8 = false := hl
      have hd := hd _ rfl
      clear hl hlt
      simp [Region.binds] at hd
      have t7 : σ.b7 = true := (by simp [hd])
      clear hd
      have er7 := G.Q7 t7
      have g0 : W.cell? ⟨sb, so + m * 2, none⟩ = some (.string Mn) := G.X.of_cell z0
      have gl0 := World.block_lt_of_cell? W _ g0
      have g1 : W.cell? ⟨sb, so + m * 2 + 1, none⟩ = some (.slice (some ⟨fb, fo, none⟩) Mk Mc) := G.X.of_cell z1
      have gl1 := World.block_lt_of_cell? W _ g1
      have He := Lib.hid e
      clear e
      refine wpOp_run rfl rfl (fun K hK => ?_)
      have HK2 := Lib.hid hK
      clear hK
      go_simp
      have e := He.out
      refine HK2.out _ _ ((HI.out _ _ _).2 ⟨{ σ with b8 := true, s84 := _, s83 := _ }, rfl, rfl, { G with D8 := (fun _ => t7), D12 := (fun h => ff e (G.D12 h).1), Q7 := (fun _ => rfl), Q8 := (fun _ => rfl) }⟩)
    · have e : σ.b9 = false := hl
      clear hl hlt hd
      have He := Lib.hid e
      clear e
      refine wpOp_run rfl rfl (fun K hK => ?_)
      have HK2 := Lib.hid hK
      clear hK
      go_simp
      have e := He.out
      refine HK2.out _ _ ((HI.out _ _ _).2 ⟨{ σ with b9 := true, s85 := _ }, rfl, rfl, { G with D10 := (fun h => ff e (G.D10 h)), Q9 := (fun _ => rfl) }⟩)
    · have e : σ.b10 = false := hl
      have hd := hd _ rfl
      clear hl hlt
      simp [Region.binds] at hd
      have t9 : σ.b9 = true := (by simp [hd])
      clear hd
      have er9 := G.Q9 t9
      have He := Lib.hid e
      clear e
      refine wpOp_run rfl rfl (fun K hK => ?_)
      have HK2 := Lib.hid hK
      clear hK
      go_simp
      have e := He.out
      refine HK2.out _ _ ((HI.out _ _ _).2 ⟨{ σ with b10 := true, s86 := _, s85 := _ }, rfl, rfl, { G with D10 := (fun _ => t9), D11 := (fun h => ff e (G.D11 h)), Q9 := (fun _ => rfl), Q10 := (fun _ => rfl) }⟩)
    · have e : σ.b11 = false := hl
      have hd := hd _ rfl
      clear hl hlt
      simp [Region.binds] at hd
      have t10 : σ.b10 = true := (by simp [hd])
      clear hd
      have er10 := G.Q10 t10
      have g0 : W.cell? ⟨wb, wo, none⟩ = some (.int .i64 x) := G.X.of_cell zw
      have gl0 := World.block_lt_of_cell? W _ g0
      have He := Lib.hid e
      clear e
      refine wpOp_run rfl rfl (fun K hK => ?_)
      have HK2 := Lib.hid hK
      clear hK
      go_simp
      have e := He.out
      refine HK2.out _ _ ((HI.out _ _ _).2 ⟨{ σ with b11 := true, s87 := _, s86 := _ }, rfl, rfl, { G with D11 := (fun _ => t10), D12 := (fun h => ff e (G.D12 h).2), Q10 := (fun _ => rfl), Q11 := (fun _ => rfl) }⟩)
    · have e : σ.b12 = false := hl
      have hd := hd _ rfl
      clear hl hlt
      simp [Region.binds] at hd
      have t8 : σ.b8 = true := (by simp [hd])
      have t11 : σ.b11 = true := (by simp [hd])
      clear hd
      have er8 := G.Q8 t8
      have er11 := G.Q11 t11
      have HX := Lib.hid G.X
      have He := Lib.hid e
      clear e
      refine wpOp_run rfl rfl (fun K hK => ?_)
      have HK2 := Lib.hid hK
      clear hK
      go_simp
      go_at_call 42
      refine (hby W HX.out).mono ?_
      rintro e1 W2 ⟨rfl, E2⟩
      (try dsimp only)
      (try simp only [Act.put, List.setIfInBounds_toArray, List.set_cons_zero, List.set_cons_succ])
      have e := He.out
      refine HK2.out _ _ ((HI.out _ _ _).2 ⟨{ σ with b12 := true, s88 := _, s84 := _, s87 := _ }, rfl, rfl, { G with D12 := (fun _ => ⟨t8, t11⟩), D13 := (fun h => ff e (G.D13 h).2), Q8 := (fun _ => rfl), Q11 := (fun _ => rfl), Q12 := (fun _ => rfl), X := (HX.out.trans E2), L15 := (fun h => ⟨(G.L15 h).1, (G.L15 h).2.1, fun h2 => ((G.L15 h).2.2 h2).up E2⟩), F16 := (fun h => ff e (G.D13 (G.D14 (G.D16 h).1)).2) }⟩)
    · have e : σ.b13 = false := hl
      have hd := hd _ rfl
      clear hl hlt
      simp [Region.binds] at hd
      have t4 : σ.b4 = true := (by simp [hd])
      have t12 : σ.b12 = true := (by simp [hd])
      clear hd
      have er4 := G.Q4 t4
      have er12 := G.Q12 t12
      have He := Lib.hid e
      clear e
      refine wpOp_run rfl rfl (fun K hK => ?_)
      have HK2 := Lib.hid hK
      clear hK
      go_simp
      have e := He.out
      refine HK2.out _ _ ((HI.out _ _ _).2 ⟨{ σ with b13 := true, s89 := _, s80 := _, s88 := _ }, rfl, rfl, { G with D13 := (fun _ => ⟨t4, t12⟩), D14 := (fun h => ff e (G.D14 h)), Q4 := (fun _ => rfl), Q12 := (fun _ => rfl), Q13 := (fun _ => rfl) }⟩)
    · have e : σ.b14 = false := hl
      have hd := hd _ rfl
      clear hl hlt
      simp [Region.binds] at hd
      have t13 : σ.b13 = true := (by simp [hd])
      clear hd
      have er13 := G.Q13 t13
      have g0 : W.cell? ⟨fb, fo + j * 6, none⟩ = some (.string fname) := G.X.of_cell y0
      have gl0 := World.block_lt_of_cell? W _ g0
      have g1 : W.cell? ⟨fb, fo + j * 6 + 1, none⟩ = some (.int .i64 fnum) := G.X.of_cell y1
      have gl1 := World.block_lt_of_cell? W _ g1
      have g2 : W.cell? ⟨fb, fo + j * 6 + 2, none⟩ = some (.int .i64 fkind) := G.X.of_cell y2
      have gl2 := World.block_lt_of_cell? W _ g2
      have g3 : W.cell? ⟨fb, fo + j * 6 + 3, none⟩ = some (.bool frep) := G.X.of_cell y3
      have gl3 := World.block_lt_of_cell? W _ g3
      have g4 : W.cell? ⟨fb, fo + j * 6 + 4, none⟩ = some (.bool fpk) := G.X.of_cell y4
      have gl4 := World.block_lt_of_cell? W _ g4
      have g5 : W.cell? ⟨fb, fo + j * 6 + 5, none⟩ = some (.int .i64 fof) := G.X.of_cell y5
      have gl5 := World.block_lt_of_cell? W _ g5
      have He := Lib.hid e
      clear e
      refine wpOp_run rfl rfl (fun K hK => ?_)
      have HK2 := Lib.hid hK
      clear hK
      go_simp
      have e := He.out
      refine HK2.out _ _ ((HI.out _ _ _).2 ⟨{ σ with b14 := true, s90 := _, s89 := _ }, rfl, rfl, { G with D14 := (fun _ => t13), D16 := (fun h => ff e (G.D16 h).1), Q13 := (fun _ => rfl), Q14 := (fun _ => rfl) }⟩)
    · have e : σ.b15 = false := hl
      clear hl hlt hd
      have HX := Lib.hid G.X
      have He := Lib.hid e
      clear e
      refine wpOp_run rfl rfl (fun K hK => ?_)
      have HK2 := Lib.hid hK
      clear hK
      go_simp
      have e := He.out
      refine HK2.out _ _ ((HI.out _ _ _).2 ⟨{ σ with b15 := true, s16 := _, ka := W.heap.size }, rfl, rfl, { G with D16 := (fun h => ff e (G.D16 h).2), X := (HX.out.alloc _), L15 := (fun _ => ⟨rfl, HX.out.size, fun _ => BlkT.new W _ _ rfl⟩), F16 := (fun h => ff e (G.D16 h).2) }⟩)
    · have e : σ.b16 = false := hl
      have hd := hd _ rfl
      clear hl hlt
      simp [Region.binds] at hd
      have t14 : σ.b14 = true := (by simp [hd])
      have t15 : σ.b15 = true := (by simp [hd])
      clear hd
      obtain ⟨ep, eb, eB⟩ := G.L15 t15
      have HB := Lib.hid (eB e)
      have HX := Lib.hid G.X
      have HE := Lib.hid eb
      have lb := HB.out.lt
      have er14 := G.Q14 t14
      have h0 : W.cell? ⟨σ.ka, 0, none⟩ = some (.string ⟨#[]⟩) := HB.out.cell 0
      have f0 := HB.out.free 0
      have h1 : W.cell? ⟨σ.ka, 1, none⟩ = some (.int .i64 0) := HB.out.cell 1
      have f1 := HB.out.free 1
      have h2 : W.cell? ⟨σ.ka, 2, none⟩ = some (.int .i64 0) := HB.out.cell 2
      have f2 := HB.out.free 2
      have h3 : W.cell? ⟨σ.ka, 3, none⟩ = some (.bool false) := HB.out.cell 3
      have f3 := HB.out.free 3
      have h4 : W.cell? ⟨σ.ka, 4, none⟩ = some (.bool false) := HB.out.cell 4
      have f4 := HB.out.free 4
      have h5 : W.cell? ⟨σ.ka, 5, none⟩ = some (.int .i64 0) := HB.out.cell 5
      have f5 := HB.out.free 5
      clear eB eb
      have He := Lib.hid e
      clear e
      refine wpOp_run rfl rfl (fun K hK => ?_)
      have HK2 := Lib.hid hK
      clear hK
      go_simp
      have e := He.out
      refine HK2.out _ _ ((HI.out _ _ _).2 ⟨{ σ with b16 := true, s16 := _, s90 := _ }, rfl, rfl, { G with D16 := (fun _ => ⟨t14, t15⟩), Q14 := (fun _ => rfl), X := (store6_ext (f := ⟨fname, fnum, fkind, frep, fpk, fof⟩) HX.out HE.out), L15 := (fun _ => ⟨rfl, HE.out, fun h => by cases h⟩), F16 := (fun _ => store6_blk (f := ⟨fname, fnum, fkind, frep, fpk, fof⟩) HB.out) }⟩)
  · obtain ⟨σ, rfl, rfl, G⟩ := (HI.out _ _ _).1 hi
    clear hi
    have t0 : σ.b0 = true := ready_none hr (i := 0) rfl (by simp [Region.binds]) (show 0 < 17 by decide)
    have t1 : σ.b1 = true := ready_none hr (i := 1) rfl (by simp [Region.binds, t0]) (show 1 < 17 by decide)
    have t2 : σ.b2 = true := ready_none hr (i := 2) rfl (by simp [Region.binds, t0, t1]) (show 2 < 17 by decide)
    have t3 : σ.b3 = true := ready_none hr (i := 3) rfl (by simp [Region.binds, t0, t1, t2]) (show 3 < 17 by decide)
    have t4 : σ.b4 = true := ready_none hr (i := 4) rfl (by simp [Region.binds, t0, t1, t2, t3]) (show 4 < 17 by decide)
    have t5 : σ.b5 = true := ready_none hr (i := 5) rfl (by simp [Region.binds, t0, t1, t2, t3, t4]) (show 5 < 17 by decide)
    have t6 : σ.b6 = true := ready_none hr (i := 6) rfl (by simp [Region.binds, t0, t1, t2, t3, t4, t5]) (show 6 < 17 by decide)
    have t7 : σ.b7 = true := ready_none hr (i := 7) rfl (by simp [Region.binds, t0, t1, t2, t3, t4, t5, t6]) (show 7 < 17 by decide)
    have t8 : σ.b8 = true := ready_none hr (i := 8) rfl (by simp [Region.binds, t0, t1, t2, t3, t4, t5, t6, t7]) (show 8 < 17 by decide)
    have t9 : σ.b9 = true := ready_none hr (i := 9) rfl (by simp [Region.binds, t0, t1, t2, t3, t4, t5, t6, t7, t8]) (show 9 < 17 by decide)
    have t10 : σ.b10 = true := ready_none hr (i := 10) rfl (by simp [Region.binds, t0, t1, t2, t3, t4, t5, t6, t7, t8, t9]) (show 10 < 17 by decide)
    have t11 : σ.b11 = true := ready_none hr (i := 11) rfl (by simp [Region.binds, t0, t1, t2, t3, t4, t5, t6, t7, t8, t9, t10]) (show 11 < 17 by decide)
    have t12 : σ.b12 = true := ready_none hr (i := 12) rfl (by simp [Region.binds, t0, t1, t2, t3, t4, t5, t6, t7, t8, t9, t10, t11]) (show 12 < 17 by decide)
    have t13 : σ.b13 = true := ready_none hr (i := 13) rfl (by simp [Region.binds, t0, t1, t2, t3, t4, t5, t6, t7, t8, t9, t10, t11, t12]) (show 13 < 17 by decide)
    have t14 : σ.b14 = true := ready_none hr (i := 14) rfl (by simp [Region.binds, t0, t1, t2, t3, t4, t5, t6, t7, t8, t9, t10, t11, t12, t13]) (show 14 < 17 by decide)
    have t15 : σ.b15 = true := ready_none hr (i := 15) rfl (by simp [Region.binds, t0, t1, t2, t3, t4, t5, t6, t7, t8, t9, t10, t11, t12, t13, t14]) (show 15 < 17 by decide)
    have t16 : σ.b16 = true := ready_none hr (i := 16) rfl (by simp [Region.binds, t0, t1, t2, t3, t4, t5, t6, t7, t8, t9, t10, t11, t12, t13, t14, t15]) (show 16 < 17 by decide)
    obtain ⟨p1, p2, _⟩ := G.L15 t15
    exact HK.out _ _ _ _ _ _ _ _ _ _ _ _ _ _ _ _ σ.ka W p1 p2 (G.F16 t16) G.X
  · refine (HI.out _ _ _).2 ⟨⟨false, false, false, false, false, false, false, false, false, false, false, false, false, false, false, false, false, _, _, _, _, _, _, _, _, _, _, _, _, _, _, _, _, 0⟩, rfl, rfl, ?_⟩
    constructor
    all_goals (try dsimp only)
    all_goals first | exact (Ext.refl w).drew | exact fun _ => (Ext.refl w).drew | (intro h; cases h; done)

end Go.Proofs.YtpicpebolghcfaaGreatDoor

/- Layer 22: region 13 of the reference's Pieces. -/

namespace Go.Proofs.YtpicpebolghcfaaGreatDoor
open Go.RowKit Go.Shelf
set_option linter.unusedVariables false
set_option linter.unusedSimpArgs false

def PiecesPost (g : FieldD) (ps : List (List UInt8)) (w : World) (e : Ending) (w' : World) : Prop :=
  ∃ (l : List BRow) (A : Option Addr) (n c : Nat), e = .returned (.tuple #[.slice A n c, fieldV g]) ∧ BRowsAt w' A n c l ∧ bytesR l = ps ∧ Ext w w' ∧ InS (fun q => w.heap.size ≤ q) A

structure Preg13S where
  (b0 b1 b2 b3 b4 b5 b6 b7 b8 b9 b10 : Bool)
  (s8 s96 s97 s98 s99 s100 s101 s102 s103 s104 : Value)
  (A6 : Option Addr)
  (n6 : Nat)
  (c6 : Nat)
  (l6 : List BRow)

structure Preg13F (w : World) (sb : Nat) (so : Nat) (n : Nat) (c : Nat) (wb : Nat) (wo : Nat) (k : Nat) (kc : Nat) (rb : Nat) (ka : Nat) (n4 : Nat) (c4 : Nat) (A4 : Option Addr) (cutA : Option Addr) (fof : Int) (gn : ByteArray) (gnum : Int) (gkind : Int) (grep : Bool) (gpk : Bool) (gof : Int) (ps : List (List UInt8)) (σ : Preg13S) (W : World) : Prop where
  X : σ.b10 = false → Ext w W
  Q0 : σ.b0 = true → σ.s96 = .slice (some ⟨sb, so, none⟩) n c
  Q1 : σ.b1 = true → σ.s97 = .pointer (some ⟨ka, 5, none⟩)
  Q2 : σ.b2 = true → σ.s98 = .int .i64 fof
  Q3 : σ.b3 = true → σ.s99 = .slice A4 n4 c4
  Q4 : σ.b4 = true → σ.s100 = .slice (some ⟨wb, wo, none⟩) k kc
  Q5 : σ.b5 = true → σ.s101 = .slice cutA (k - 1) (kc - 1)
  Q7 : σ.b7 = true → σ.s103 = .slice σ.A6 σ.n6 σ.c6
  Q8 : σ.b8 = true → σ.s104 = .agg #[.string gn, .int .i64 gnum, .int .i64 gkind, .bool grep, .bool gpk, .int .i64 gof]
  Q6 : σ.b6 = true → σ.s102 = .tuple #[.slice σ.A6 σ.n6 σ.c6, .agg #[.string gn, .int .i64 gnum, .int .i64 gkind, .bool grep, .bool gpk, .int .i64 gof]]
  Q9 : σ.b9 = true → σ.s8 = .slice σ.A6 σ.n6 σ.c6
  F6 : σ.b6 = true → σ.b10 = false → BRowsAt W σ.A6 σ.n6 σ.c6 σ.l6 ∧ bytesR σ.l6 = ps ∧ InS (fun q => w.heap.size ≤ q) σ.A6
  F10 : σ.b10 = true → ∃ W6, W = store6 W6 rb ⟨gn, gnum, gkind, grep, gpk, gof⟩ ∧ Ext w W6 ∧ BRowsAt W6 σ.A6 σ.n6 σ.c6 σ.l6 ∧ bytesR σ.l6 = ps ∧ InS (fun q => w.heap.size ≤ q) σ.A6
  D2 : σ.b2 = true → σ.b1 = true
  D5 : σ.b5 = true → σ.b4 = true
  D6 : σ.b6 = true → σ.b0 = true ∧ σ.b2 = true ∧ σ.b3 = true ∧ σ.b5 = true
  D7 : σ.b7 = true → σ.b6 = true
  D8 : σ.b8 = true → σ.b6 = true
  D9 : σ.b9 = true → σ.b7 = true
  D10 : σ.b10 = true → σ.b8 = true ∧ σ.b9 = true

set_option maxRecDepth 100000 in
set_option maxHeartbeats 4000000 in
theorem preg13 {Q0 : Exit → Act → World → Prop} {u1 u2 u4 u5 u6 u7 u8 u10 u11 u12 u13 u15 u17 u18 u19 u20 u21 u22 u23 u24 u25 u26 u27 u28 u29 u30 u31 u32 u33 u34 u35 u36 u37 u38 u39 u40 u41 u42 u43 u44 u45 u46 u47 u48 u49 u50 u51 u52 u53 u54 u55 u56 u57 u58 u59 u60 u61 u62 u63 u64 u65 u66 u67 u68 u69 u70 u71 u72 u73 u74 u75 u76 u77 u78 u79 u80 u81 u82 u83 u84 u85 u86 u87 u88 u89 u90 u91 u92 u93 u94 u95 u96 u97 u98 u99 u100 u101 u102 u103 u104 : Value} {w : World} {sb : Nat} {so : Nat} {n : Nat} {c : Nat} {wb : Nat} {wo : Nat} {k : Nat} {kc : Nat} {rb : Nat} {ka : Nat} {n4 : Nat} {c4 : Nat} {A4 : Option Addr} {cutA : Option Addr} {fof : Int} {gn : ByteArray} {gnum : Int} {gkind : Int} {grep : Bool} {gpk : Bool} {gof : Int} {ps : List (List UInt8)} (hz : w.cell? ⟨ka, 5, none⟩ = some (.int .i64 fof)) (BR : BlkT w rb 43 #[.string ⟨#[]⟩, .int .i64 0, .int .i64 0, .bool false, .bool false, .int .i64 0])
    (hrec : ∀ W : World, Ext w W → Calls Tryz.prog 19 #[.slice (some ⟨sb, so, none⟩) n c, .int .i64 fof, .slice A4 n4 c4, .slice cutA (k - 1) (kc - 1)] W (PiecesPost ⟨gn, gnum, gkind, grep, gpk, gof⟩ ps W))
    (hcut : ∀ W : World, (Instr.slice 34 (.slice (some ⟨wb, wo, none⟩) k kc) (some (.int .i64 1)) none none).run Tryz.prog W = .ok (.slice cutA (k - 1) (kc - 1)) W)
    (hK : ∀ (s8 s96 s97 s98 s99 s100 s101 s102 s103 s104 : Value) (A6 : Option Addr) (n6 c6 : Nat) (l6 : List BRow) (W6 wz : World), s8 = .slice A6 n6 c6 → wz = store6 W6 rb ⟨gn, gnum, gkind, grep, gpk, gof⟩ → Ext w W6 → BRowsAt W6 A6 n6 c6 l6 → bytesR l6 = ps → InS (fun q => w.heap.size ≤ q) A6 → Q0 .normal ⟨#[.slice (some ⟨sb, so, none⟩) n c, u1, u2, .slice (some ⟨wb, wo, none⟩) k kc, u4, u5, u6, u7, s8, .pointer (some ⟨rb, 0, none⟩), u10, u11, u12, u13, .slice A4 n4 c4, u15, .pointer (some ⟨ka, 0, none⟩), u17, u18, u19, u20, u21, u22, u23, u24, u25, u26, u27, u28, u29, u30, u31, u32, u33, u34, u35, u36, u37, u38, u39, u40, u41, u42, u43, u44, u45, u46, u47, u48, u49, u50, u51, u52, u53, u54, u55, u56, u57, u58, u59, u60, u61, u62, u63, u64, u65, u66, u67, u68, u69, u70, u71, u72, u73, u74, u75, u76, u77, u78, u79, u80, u81, u82, u83, u84, u85, u86, u87, u88, u89, u90, u91, u92, u93, u94, u95, s96, s97, s98, s99, s100, s101, s102, s103, s104], []⟩ wz) :
    Code.wp Tryz.prog (regPc 13) (calmQP Q0) ⟨#[.slice (some ⟨sb, so, none⟩) n c, u1, u2, .slice (some ⟨wb, wo, none⟩) k kc, u4, u5, u6, u7, u8, .pointer (some ⟨rb, 0, none⟩), u10, u11, u12, u13, .slice A4 n4 c4, u15, .pointer (some ⟨ka, 0, none⟩), u17, u18, u19, u20, u21, u22, u23, u24, u25, u26, u27, u28, u29, u30, u31, u32, u33, u34, u35, u36, u37, u38, u39, u40, u41, u42, u43, u44, u45, u46, u47, u48, u49, u50, u51, u52, u53, u54, u55, u56, u57, u58, u59, u60, u61, u62, u63, u64, u65, u66, u67, u68, u69, u70, u71, u72, u73, u74, u75, u76, u77, u78, u79, u80, u81, u82, u83, u84, u85, u86, u87, u88, u89, u90, u91, u92, u93, u94, u95, u96, u97, u98, u99, u100, u101, u102, u103, u104], []⟩ w := by
  have HK := Lib.hid hK
  clear hK
  conv => arg 2; whnf
  obtain ⟨I, hI⟩ : ∃ I : Array Bool → Act → World → Prop, ∀ l a W, I l a W ↔ (∃ σ : Preg13S, l = #[σ.b0, σ.b1, σ.b2, σ.b3, σ.b4, σ.b5, σ.b6, σ.b7, σ.b8, σ.b9, σ.b10] ∧ a = ⟨#[.slice (some ⟨sb, so, none⟩) n c, u1, u2, .slice (some ⟨wb, wo, none⟩) k kc, u4, u5, u6, u7, σ.s8, .pointer (some ⟨rb, 0, none⟩), u10, u11, u12, u13, .slice A4 n4 c4, u15, .pointer (some ⟨ka, 0, none⟩), u17, u18, u19, u20, u21, u22, u23, u24, u25, u26, u27, u28, u29, u30, u31, u32, u33, u34, u35, u36, u37, u38, u39, u40, u41, u42, u43, u44, u45, u46, u47, u48, u49, u50, u51, u52, u53, u54, u55, u56, u57, u58, u59, u60, u61, u62, u63, u64, u65, u66, u67, u68, u69, u70, u71, u72, u73, u74, u75, u76, u77, u78, u79, u80, u81, u82, u83, u84, u85, u86, u87, u88, u89, u90, u91, u92, u93, u94, u95, σ.s96, σ.s97, σ.s98, σ.s99, σ.s100, σ.s101, σ.s102, σ.s103, σ.s104], []⟩ ∧ Preg13F w sb so n c wb wo k kc rb ka n4 c4 A4 cutA fof gn gnum gkind grep gpk gof ps σ W) := ⟨_, fun _ _ _ => Iff.rfl⟩
  have HI := Lib.hid hI
  clear hI
  refine wp_region_inv (I := I) (by kernel_rfl) (fun i l a W hi hr => ?_) (fun l a W hi hr => ?_) ?_
  · obtain ⟨σ, rfl, rfl, G⟩ := (HI.out _ _ _).1 hi
    clear hi
    obtain ⟨hlt, hl, hd⟩ := ready_spec hr
    clear hr
    have hlt : i < 11 := hlt
    rcases (show i = 0 ∨ i = 1 ∨ i = 2 ∨ i = 3 ∨ i = 4 ∨ i = 5 ∨ i = 6 ∨ i = 7 ∨ i = 8 ∨ i = 9 ∨ i = 10 by omega) with rfl | rfl | rfl | rfl | rfl | rfl | rfl | rfl | rfl | rfl | rfl
    · have e : σ.b0 = false := hl
      clear hl hlt hd
      have He := Lib.hid e
      clear e
      refine wpOp_run rfl rfl (fun K hK => ?_)
      have HK2 := Lib.hid hK
      clear hK
      go_simp
      have e := He.out
      refine HK2.out _ _ ((HI.out _ _ _).2 ⟨{ σ with b0 := true, s96 := _ }, rfl, rfl, { G with D6 := (fun h => ff e (G.D6 h).1), Q0 := (fun _ => rfl) }⟩)
    · have e : σ.b1 = false := hl
      clear hl hlt hd
      have He := Lib.hid e
      clear e
      refine wpOp_run rfl rfl (fun K hK => ?_)
      have HK2 := Lib.hid hK
      clear hK
      go_simp
      have e := He.out
      refine HK2.out _ _ ((HI.out _ _ _).2 ⟨{ σ with b1 := true, s97 := _ }, rfl, rfl, { G with D2 := (fun h => ff e (G.D2 h)), Q1 := (fun _ => rfl) }⟩)
    · have e : σ.b2 = false := hl
      have hd := hd _ rfl
      clear hl hlt
      simp [Region.binds] at hd
      have t1 : σ.b1 = true := (by simp [hd])
      clear hd
      have er1 := G.Q1 t1
      have e10 : σ.b10 = false := by
        rcases hs : σ.b10 with _ | _
        · rfl
        · exact ff e (G.D6 (G.D8 (G.D10 hs).1)).2.1
      have g1 : W.cell? ⟨ka, 5, none⟩ = some (.int .i64 fof) := (G.X e10).of_cell hz
      have gl := World.block_lt_of_cell? W _ g1
      have H10 := Lib.hid e10
      clear e10
      have He := Lib.hid e
      clear e
      refine wpOp_run rfl rfl (fun K hK => ?_)
      have HK2 := Lib.hid hK
      clear hK
      go_simp
      have e := He.out
      refine HK2.out _ _ ((HI.out _ _ _).2 ⟨{ σ with b2 := true, s98 := _, s97 := _ }, rfl, rfl, { G with D2 := (fun _ => t1), D6 := (fun h => ff e (G.D6 h).2.1), Q1 := (fun _ => rfl), Q2 := (fun _ => rfl) }⟩)
    · have e : σ.b3 = false := hl
      clear hl hlt hd
      have He := Lib.hid e
      clear e
      refine wpOp_run rfl rfl (fun K hK => ?_)
      have HK2 := Lib.hid hK
      clear hK
      go_simp
      have e := He.out
      refine HK2.out _ _ ((HI.out _ _ _).2 ⟨{ σ with b3 := true, s99 := _ }, rfl, rfl, { G with D6 := (fun h => ff e (G.D6 h).2.2.1), Q3 := (fun _ => rfl) }⟩)
    · have e : σ.b4 = false := hl
      clear hl hlt hd
      have He := Lib.hid e
      clear e
      refine wpOp_run rfl rfl (fun K hK => ?_)
      have HK2 := Lib.hid hK
      clear hK
      go_simp
      have e := He.out
      refine HK2.out _ _ ((HI.out _ _ _).2 ⟨{ σ with b4 := true, s100 := _ }, rfl, rfl, { G with D5 := (fun h => ff e (G.D5 h)), Q4 := (fun _ => rfl) }⟩)
    · have e : σ.b5 = false := hl
      have hd := hd _ rfl
      clear hl hlt
      simp [Region.binds] at hd
      have t4 : σ.b4 = true := (by simp [hd])
      clear hd
      have er4 := G.Q4 t4
      have He := Lib.hid e
      clear e
      refine wpOp_run rfl rfl (fun K hK => ?_)
      have HK2 := Lib.hid hK
      clear hK
      go_simp
      have e := He.out
      refine HK2.out _ _ ((HI.out _ _ _).2 ⟨{ σ with b5 := true, s101 := _, s100 := _ }, rfl, rfl, { G with D5 := (fun _ => t4), D6 := (fun h => ff e (G.D6 h).2.2.2), Q4 := (fun _ => rfl), Q5 := (fun _ => rfl) }⟩)
    · have e : σ.b6 = false := hl
      have hd := hd _ rfl
      clear hl hlt
      simp [Region.binds] at hd
      have t0 : σ.b0 = true := (by simp [hd])
      have t2 : σ.b2 = true := (by simp [hd])
      have t3 : σ.b3 = true := (by simp [hd])
      have t5 : σ.b5 = true := (by simp [hd])
      clear hd
      have er0 := G.Q0 t0
      have er2 := G.Q2 t2
      have er3 := G.Q3 t3
      have er5 := G.Q5 t5
      have e10 : σ.b10 = false := by
        rcases hs : σ.b10 with _ | _
        · rfl
        · exact ff e (G.D8 (G.D10 hs).1)
      have HX := Lib.hid (G.X e10)
      have H10 := Lib.hid e10
      clear e10
      have He := Lib.hid e
      clear e
      refine wpOp_run rfl rfl (fun K hK => ?_)
      have HK2 := Lib.hid hK
      clear hK
      go_simp
      go_at_call 19
      refine (hrec W HX.out).mono ?_
      rintro e1 W2 ⟨ld, Ad, nd, cd, rfl, bd, pd, Ed, ind⟩
      unfold fieldV
      (try dsimp only)
      (try simp only [Act.put, List.setIfInBounds_toArray, List.set_cons_zero, List.set_cons_succ])
      have e := He.out
      refine HK2.out _ _ ((HI.out _ _ _).2 ⟨{ σ with b6 := true, s102 := _, s96 := _, s98 := _, s99 := _, s101 := _, A6 := Ad, n6 := nd, c6 := cd, l6 := ld }, rfl, rfl, { G with D6 := (fun _ => ⟨t0, t2, t3, t5⟩), D7 := (fun h => ff e (G.D7 h)), D8 := (fun h => ff e (G.D8 h)), Q0 := (fun _ => rfl), Q2 := (fun _ => rfl), Q3 := (fun _ => rfl), Q5 := (fun _ => rfl), Q6 := (fun _ => rfl), X := (fun _ => HX.out.trans Ed), F6 := (fun _ _ => ⟨bd, pd, fun a ha => Nat.le_trans HX.out.size (ind a ha)⟩), F10 := (fun h => ff e (G.D8 (G.D10 h).1)), Q7 := (fun h => ff e (G.D7 h)), Q8 := (fun h => ff e (G.D8 h)), Q9 := (fun h => ff e (G.D7 (G.D9 h))) }⟩)
    · have e : σ.b7 = false := hl
      have hd := hd _ rfl
      clear hl hlt
      simp [Region.binds] at hd
      have t6 : σ.b6 = true := (by simp [hd])
      clear hd
      have er6 := G.Q6 t6
      have He := Lib.hid e
      clear e
      refine wpOp_run rfl rfl (fun K hK => ?_)
      have HK2 := Lib.hid hK
      clear hK
      go_simp
      have e := He.out
      refine HK2.out _ _ ((HI.out _ _ _).2 ⟨{ σ with b7 := true, s103 := _, s102 := _ }, rfl, rfl, { G with D7 := (fun _ => t6), D9 := (fun h => ff e (G.D9 h)), Q6 := (fun _ => rfl), Q7 := (fun _ => rfl) }⟩)
    · have e : σ.b8 = false := hl
      have hd := hd _ rfl
      clear hl hlt
      simp [Region.binds] at hd
      have t6 : σ.b6 = true := (by simp [hd])
      clear hd
      have er6 := G.Q6 t6
      have He := Lib.hid e
      clear e
      refine wpOp_run rfl rfl (fun K hK => ?_)
      have HK2 := Lib.hid hK
      clear hK
      go_simp
      have e := He.out
      refine HK2.out _ _ ((HI.out _ _ _).2 ⟨{ σ with b8 := true, s104 := _, s102 := _ }, rfl, rfl, { G with D8 := (fun _ => t6), D10 := (fun h => ff e (G.D10 h).1), Q6 := (fun _ => rfl), Q8 := (fun _ => rfl) }⟩)
    · have e : σ.b9 = false := hl
      have hd := hd _ rfl
      clear hl hlt
      simp [Region.binds] at hd
      have t7 : σ.b7 = true := (by simp [hd])
      clear hd
      have er7 := G.Q7 t7
      have He := Lib.hid e
      clear e
      refine wpOp_run rfl rfl (fun K hK => ?_)
      have HK2 := Lib.hid hK
      clear hK
      go_simp
      have e := He.out
      refine HK2.out _ _ ((HI.out _ _ _).2 ⟨{ σ with b9 := true, s8 := _, s103 := _ }, rfl, rfl, { G with D9 := (fun _ => t7), D10 := (fun h => ff e (G.D10 h).2), Q7 := (fun _ => rfl), Q9 := (fun _ => rfl) }⟩)
    · have e : σ.b10 = false := hl
      have hd := hd _ rfl
      clear hl hlt
      simp [Region.binds] at hd
      have t8 : σ.b8 = true := (by simp [hd])
      have t9 : σ.b9 = true := (by simp [hd])
      have t6 : σ.b6 = true := (G.D8 t8)
      clear hd
      obtain ⟨bw, pw, iw⟩ := G.F6 t6 e
      have er8 := G.Q8 t8
      have HX := Lib.hid (G.X e)
      have B := BR.up (G.X e)
      have lb := B.lt
      have h0 : W.cell? ⟨rb, 0, none⟩ = some (.string ⟨#[]⟩) := B.cell 0
      have f0 := B.free 0
      have h1 : W.cell? ⟨rb, 1, none⟩ = some (.int .i64 0) := B.cell 1
      have f1 := B.free 1
      have h2 : W.cell? ⟨rb, 2, none⟩ = some (.int .i64 0) := B.cell 2
      have f2 := B.free 2
      have h3 : W.cell? ⟨rb, 3, none⟩ = some (.bool false) := B.cell 3
      have f3 := B.free 3
      have h4 : W.cell? ⟨rb, 4, none⟩ = some (.bool false) := B.cell 4
      have f4 := B.free 4
      have h5 : W.cell? ⟨rb, 5, none⟩ = some (.int .i64 0) := B.cell 5
      have f5 := B.free 5
      have HB6 := Lib.hid bw
      have HP6 := Lib.hid pw
      have HI6 := Lib.hid iw
      clear bw pw iw B
      have He := Lib.hid e
      clear e
      refine wpOp_run rfl rfl (fun K hK => ?_)
      have HK2 := Lib.hid hK
      clear hK
      go_simp
      have e := He.out
      refine HK2.out _ _ ((HI.out _ _ _).2 ⟨{ σ with b10 := true, s104 := _ }, rfl, rfl, { G with D10 := (fun _ => ⟨t8, t9⟩), Q8 := (fun _ => rfl), X := (fun h => by cases h), F6 := (fun _ h => by cases h), F10 := (fun _ => ⟨W, rfl, HX.out, HB6.out, HP6.out, HI6.out⟩) }⟩)
  · obtain ⟨σ, rfl, rfl, G⟩ := (HI.out _ _ _).1 hi
    clear hi
    have t0 : σ.b0 = true := ready_none hr (i := 0) rfl (by simp [Region.binds]) (show 0 < 11 by decide)
    have t1 : σ.b1 = true := ready_none hr (i := 1) rfl (by simp [Region.binds, t0]) (show 1 < 11 by decide)
    have t2 : σ.b2 = true := ready_none hr (i := 2) rfl (by simp [Region.binds, t0, t1]) (show 2 < 11 by decide)
    have t3 : σ.b3 = true := ready_none hr (i := 3) rfl (by simp [Region.binds, t0, t1, t2]) (show 3 < 11 by decide)
    have t4 : σ.b4 = true := ready_none hr (i := 4) rfl (by simp [Region.binds, t0, t1, t2, t3]) (show 4 < 11 by decide)
    have t5 : σ.b5 = true := ready_none hr (i := 5) rfl (by simp [Region.binds, t0, t1, t2, t3, t4]) (show 5 < 11 by decide)
    have t6 : σ.b6 = true := ready_none hr (i := 6) rfl (by simp [Region.binds, t0, t1, t2, t3, t4, t5]) (show 6 < 11 by decide)
    have t7 : σ.b7 = true := ready_none hr (i := 7) rfl (by simp [Region.binds, t0, t1, t2, t3, t4, t5, t6]) (show 7 < 11 by decide)
    have t8 : σ.b8 = true := ready_none hr (i := 8) rfl (by simp [Region.binds, t0, t1, t2, t3, t4, t5, t6, t7]) (show 8 < 11 by decide)
    have t9 : σ.b9 = true := ready_none hr (i := 9) rfl (by simp [Region.binds, t0, t1, t2, t3, t4, t5, t6, t7, t8]) (show 9 < 11 by decide)
    have t10 : σ.b10 = true := ready_none hr (i := 10) rfl (by simp [Region.binds, t0, t1, t2, t3, t4, t5, t6, t7, t8, t9]) (show 10 < 11 by decide)
    obtain ⟨W6, p1, p2, p3, p4, p5⟩ := G.F10 t10
    exact HK.out _ _ _ _ _ _ _ _ _ _ _ _ _ _ W6 W (G.Q9 t9) p1 p2 p3 p4 p5
  · refine (HI.out _ _ _).2 ⟨⟨false, false, false, false, false, false, false, false, false, false, false, _, _, _, _, _, _, _, _, _, _, none, 0, 0, []⟩, rfl, rfl, ?_⟩
    constructor
    all_goals (try dsimp only)
    all_goals first | exact (Ext.refl w).drew | exact fun _ => (Ext.refl w).drew | (intro h; cases h; done)

end Go.Proofs.YtpicpebolghcfaaGreatDoor
