/- Layer 15: region 8 of the reference's Last. (Printed by gen_last.py.) -/
import Derived.Test.YtpicpebolghcfaaGreatDoorQjW85

namespace Go.Proofs.YtpicpebolghcfaaGreatDoor
open Go.RowKit Go.Shelf
set_option linter.unusedVariables false
set_option linter.unusedSimpArgs false

noncomputable def regLa (n : Nat) : Code := ((Tryz.f12.body.bind (regionOfP n)).getD .skip)

structure Lareg8S where
  (b0 b1 b2 b3 b4 b5 b6 b7 b8 b9 b10 b11 b12 b13 b14 b15 b16 : Bool)
  (s29 s30 s31 s32 s33 s34 s35 s36 s37 s38 s39 s40 s41 s42 s43 s44 : Value)

structure Lareg8F (w : World) (sb : Nat) (so : Nat) (n : Nat) (c : Nat) (wb : Nat) (wo : Nat) (k : Nat) (kc : Nat) (fb : Nat) (fo : Nat) (Mk : Nat) (Mc : Nat) (m : Nat) (j : Nat) (q : Nat) (ka : Nat) (Mn : ByteArray) (x : Int) (fname : ByteArray) (fnum : Int) (fkind : Int) (frep : Bool) (fpk : Bool) (fof : Int) (gn : ByteArray) (gnum : Int) (gkind : Int) (grep : Bool) (gpk : Bool) (gof : Int) (σ : Lareg8S) (W : World) : Prop where
  X : σ.b16 = false → Ext w W
  Q0 : σ.b0 = true → σ.s29 = .slice (some ⟨sb, so, none⟩) n c
  Q1 : σ.b1 = true → σ.s30 = .int .i64 (m : Int)
  Q2 : σ.b2 = true → σ.s31 = .pointer (some ⟨sb, so + m * 2, none⟩)
  Q3 : σ.b3 = true → σ.s32 = .pointer (some ⟨sb, so + m * 2 + 1, none⟩)
  Q4 : σ.b4 = true → σ.s33 = .slice (some ⟨fb, fo, none⟩) Mk Mc
  Q5 : σ.b5 = true → σ.s34 = .slice (some ⟨sb, so, none⟩) n c
  Q6 : σ.b6 = true → σ.s35 = .int .i64 (m : Int)
  Q7 : σ.b7 = true → σ.s36 = .pointer (some ⟨sb, so + m * 2, none⟩)
  Q8 : σ.b8 = true → σ.s37 = .agg #[.string Mn, .slice (some ⟨fb, fo, none⟩) Mk Mc]
  Q9 : σ.b9 = true → σ.s38 = .slice (some ⟨wb, wo, none⟩) k kc
  Q10 : σ.b10 = true → σ.s39 = .int .i64 (q : Int)
  Q11 : σ.b11 = true → σ.s40 = .pointer (some ⟨wb, wo + q, none⟩)
  Q12 : σ.b12 = true → σ.s41 = .int .i64 x
  Q13 : σ.b13 = true → σ.s42 = .int .i64 (j : Nat)
  Q14 : σ.b14 = true → σ.s43 = .pointer (some ⟨fb, fo + j * 6, none⟩)
  Q15 : σ.b15 = true → σ.s44 = .agg #[.string fname, .int .i64 fnum, .int .i64 fkind, .bool frep, .bool fpk, .int .i64 fof]
  F16 : σ.b16 = true → ∃ W6, W = store6 W6 ka ⟨fname, fnum, fkind, frep, fpk, fof⟩ ∧ Ext w W6
  D2 : σ.b2 = true → σ.b0 = true ∧ σ.b1 = true
  D3 : σ.b3 = true → σ.b2 = true
  D4 : σ.b4 = true → σ.b3 = true
  D7 : σ.b7 = true → σ.b5 = true ∧ σ.b6 = true
  D8 : σ.b8 = true → σ.b7 = true
  D11 : σ.b11 = true → σ.b9 = true ∧ σ.b10 = true
  D12 : σ.b12 = true → σ.b11 = true
  D13 : σ.b13 = true → σ.b8 = true ∧ σ.b12 = true
  D14 : σ.b14 = true → σ.b4 = true ∧ σ.b13 = true
  D15 : σ.b15 = true → σ.b14 = true
  D16 : σ.b16 = true → σ.b15 = true

set_option maxRecDepth 100000 in
set_option maxHeartbeats 4000000 in
theorem lareg8 {Q0 : Exit → Act → World → Prop} {u3 u4 u5 u6 u7 u8 u9 u12 u13 u14 u15 u16 u17 u18 u19 u20 u21 u22 u23 u24 u25 u26 u27 u28 u29 u30 u31 u32 u33 u34 u35 u36 u37 u38 u39 u40 u41 u42 u43 u44 u45 u46 u47 : Value} {w : World} {sb : Nat} {so : Nat} {n : Nat} {c : Nat} {wb : Nat} {wo : Nat} {k : Nat} {kc : Nat} {fb : Nat} {fo : Nat} {Mk : Nat} {Mc : Nat} {m : Nat} {j : Nat} {q : Nat} {ka : Nat} {Mn : ByteArray} {x : Int} {fname : ByteArray} {fnum : Int} {fkind : Int} {frep : Bool} {fpk : Bool} {fof : Int} {gn : ByteArray} {gnum : Int} {gkind : Int} {grep : Bool} {gpk : Bool} {gof : Int} (hmi : (m : Int) < n) (hqk : (q : Int) < k) (hji : (j : Int) < Mk) (z0 : w.cell? ⟨sb, so + m * 2, none⟩ = some (.string Mn)) (z1 : w.cell? ⟨sb, so + m * 2 + 1, none⟩ = some (.slice (some ⟨fb, fo, none⟩) Mk Mc)) (zw : w.cell? ⟨wb, wo + q, none⟩ = some (.int .i64 x))
    (y0 : w.cell? ⟨fb, fo + j * 6, none⟩ = some (.string fname)) (y1 : w.cell? ⟨fb, fo + j * 6 + 1, none⟩ = some (.int .i64 fnum)) (y2 : w.cell? ⟨fb, fo + j * 6 + 2, none⟩ = some (.int .i64 fkind)) (y3 : w.cell? ⟨fb, fo + j * 6 + 3, none⟩ = some (.bool frep)) (y4 : w.cell? ⟨fb, fo + j * 6 + 4, none⟩ = some (.bool fpk)) (y5 : w.cell? ⟨fb, fo + j * 6 + 5, none⟩ = some (.int .i64 fof))
    (BR : BlkT w ka 43 #[.string gn, .int .i64 gnum, .int .i64 gkind, .bool grep, .bool gpk, .int .i64 gof]) (hby : ∀ W : World, Ext w W → Calls Tryz.prog 42 #[.agg #[.string Mn, .slice (some ⟨fb, fo, none⟩) Mk Mc], .int .i64 x] W fun e w' => e = .returned (.int .i64 (j : Nat)) ∧ Ext W w')
    (hK : ∀ (s29 s30 s31 s32 s33 s34 s35 s36 s37 s38 s39 s40 s41 s42 s43 s44 : Value) (W6 wz : World), wz = store6 W6 ka ⟨fname, fnum, fkind, frep, fpk, fof⟩ → Ext w W6 → Q0 .normal ⟨#[.slice (some ⟨sb, so, none⟩) n c, .int .i64 (m : Int), .slice (some ⟨wb, wo, none⟩) k kc, u3, u4, u5, u6, u7, u8, u9, .pointer (some ⟨ka, 0, none⟩), .int .i64 (q : Int), u12, u13, u14, u15, u16, u17, u18, u19, u20, u21, u22, u23, u24, u25, u26, u27, u28, s29, s30, s31, s32, s33, s34, s35, s36, s37, s38, s39, s40, s41, s42, s43, s44, u45, u46, u47], []⟩ wz) :
    Code.wp Tryz.prog (regLa 8) (calmQP Q0) ⟨#[.slice (some ⟨sb, so, none⟩) n c, .int .i64 (m : Int), .slice (some ⟨wb, wo, none⟩) k kc, u3, u4, u5, u6, u7, u8, u9, .pointer (some ⟨ka, 0, none⟩), .int .i64 (q : Int), u12, u13, u14, u15, u16, u17, u18, u19, u20, u21, u22, u23, u24, u25, u26, u27, u28, u29, u30, u31, u32, u33, u34, u35, u36, u37, u38, u39, u40, u41, u42, u43, u44, u45, u46, u47], []⟩ w := by
  have HK := Lib.hid hK
  clear hK
  conv => arg 2; whnf
  obtain ⟨I, hI⟩ : ∃ I : Array Bool → Act → World → Prop, ∀ l a W, I l a W ↔ (∃ σ : Lareg8S, l = #[σ.b0, σ.b1, σ.b2, σ.b3, σ.b4, σ.b5, σ.b6, σ.b7, σ.b8, σ.b9, σ.b10, σ.b11, σ.b12, σ.b13, σ.b14, σ.b15, σ.b16] ∧ a = ⟨#[.slice (some ⟨sb, so, none⟩) n c, .int .i64 (m : Int), .slice (some ⟨wb, wo, none⟩) k kc, u3, u4, u5, u6, u7, u8, u9, .pointer (some ⟨ka, 0, none⟩), .int .i64 (q : Int), u12, u13, u14, u15, u16, u17, u18, u19, u20, u21, u22, u23, u24, u25, u26, u27, u28, σ.s29, σ.s30, σ.s31, σ.s32, σ.s33, σ.s34, σ.s35, σ.s36, σ.s37, σ.s38, σ.s39, σ.s40, σ.s41, σ.s42, σ.s43, σ.s44, u45, u46, u47], []⟩ ∧ Lareg8F w sb so n c wb wo k kc fb fo Mk Mc m j q ka Mn x fname fnum fkind frep fpk fof gn gnum gkind grep gpk gof σ W) := ⟨_, fun _ _ _ => Iff.rfl⟩
  have HI := Lib.hid hI
  clear hI
  refine wp_region_inv (I := I) (by kernel_rfl) (fun i l a W hi hr => ?_) (fun l a W hi hr => ?_) ?_
  · obtain ⟨σ, rfl, rfl, G⟩ := (HI.out _ _ _).1 hi
    clear hi
    obtain ⟨hlt, hl, hd⟩ := ready_spec hr
    clear hr
    have hlt : i < 17 := hlt
    rcases (show i = 0 ∨ i = 1 ∨ i = 2 ∨ i = 3 ∨ i = 4 ∨ i = 5 ∨ i = 6 ∨ i = 7 ∨ i = 8 ∨ i = 9 ∨ i = 10 ∨ i = 11 ∨ i = 12 ∨ i = 13 ∨ i = 14 ∨ i = 15 ∨ i = 16 by omega) with rfl | rfl | rfl | rfl | rfl | rfl | rfl | rfl | rfl | rfl | rfl | rfl | rfl | rfl | rfl | rfl | rfl
    · have e : σ.b0 = false := hl
      clear hl hlt hd
      have He := Lib.hid e
      clear e
      refine wpOp_run rfl rfl (fun K hK => ?_)
      have HK2 := Lib.hid hK
      clear hK
      go_simp
      have e := He.out
      refine HK2.out _ _ ((HI.out _ _ _).2 ⟨{ σ with b0 := true, s29 := _ }, rfl, rfl, { G with D2 := (fun h => ff e (G.D2 h).1), Q0 := (fun _ => rfl) }⟩)
    · have e : σ.b1 = false := hl
      clear hl hlt hd
      have He := Lib.hid e
      clear e
      refine wpOp_run rfl rfl (fun K hK => ?_)
      have HK2 := Lib.hid hK
      clear hK
      go_simp
      have e := He.out
      refine HK2.out _ _ ((HI.out _ _ _).2 ⟨{ σ with b1 := true, s30 := _ }, rfl, rfl, { G with D2 := (fun h => ff e (G.D2 h).2), Q1 := (fun _ => rfl) }⟩)
    · have e : σ.b2 = false := hl
      have hd := hd _ rfl
      clear hl hlt
      simp [Region.binds] at hd
      have t0 : σ.b0 = true := (by simp [hd])
      have t1 : σ.b1 = true := (by simp [hd])
      clear hd
      have er0 := G.Q0 t0
      have er1 := G.Q1 t1
      have He := Lib.hid e
      clear e
      refine wpOp_run rfl rfl (fun K hK => ?_)
      have HK2 := Lib.hid hK
      clear hK
      go_simp
      have e := He.out
      refine HK2.out _ _ ((HI.out _ _ _).2 ⟨{ σ with b2 := true, s31 := _, s29 := _, s30 := _ }, rfl, rfl, { G with D2 := (fun _ => ⟨t0, t1⟩), D3 := (fun h => ff e (G.D3 h)), Q0 := (fun _ => rfl), Q1 := (fun _ => rfl), Q2 := (fun _ => rfl) }⟩)
    · have e : σ.b3 = false := hl
      have hd := hd _ rfl
      clear hl hlt
      simp [Region.binds] at hd
      have t2 : σ.b2 = true := (by simp [hd])
      clear hd
      have er2 := G.Q2 t2
      have He := Lib.hid e
      clear e
      refine wpOp_run rfl rfl (fun K hK => ?_)
      have HK2 := Lib.hid hK
      clear hK
      go_simp
      have e := He.out
      refine HK2.out _ _ ((HI.out _ _ _).2 ⟨{ σ with b3 := true, s32 := _, s31 := _ }, rfl, rfl, { G with D3 := (fun _ => t2), D4 := (fun h => ff e (G.D4 h)), Q2 := (fun _ => rfl), Q3 := (fun _ => rfl) }⟩)
    · have e : σ.b4 = false := hl
      have hd := hd _ rfl
      clear hl hlt
      simp [Region.binds] at hd
      have t3 : σ.b3 = true := (by simp [hd])
      clear hd
      have er3 := G.Q3 t3
      have e16 : σ.b16 = false := by
        rcases hs : σ.b16 with _ | _
        · rfl
        · exact ff e (G.D14 (G.D15 (G.D16 hs))).1
      have X := G.X e16
      have g0 : W.cell? ⟨sb, so + m * 2 + 1, none⟩ = some (.slice (some ⟨fb, fo, none⟩) Mk Mc) := X.of_cell z1
      have gl0 := World.block_lt_of_cell? W _ g0
      have HX := Lib.hid X
      clear X
      have H16 := Lib.hid e16
      clear e16
      have He := Lib.hid e
      clear e
      refine wpOp_run rfl rfl (fun K hK => ?_)
      have HK2 := Lib.hid hK
      clear hK
      go_simp
      have e := He.out
      refine HK2.out _ _ ((HI.out _ _ _).2 ⟨{ σ with b4 := true, s33 := _, s32 := _ }, rfl, rfl, { G with D4 := (fun _ => t3), D14 := (fun h => ff e (G.D14 h).1), Q3 := (fun _ => rfl), Q4 := (fun _ => rfl) }⟩)
    · have e : σ.b5 = false := hl
      clear hl hlt hd
      have He := Lib.hid e
      clear e
      refine wpOp_run rfl rfl (fun K hK => ?_)
      have HK2 := Lib.hid hK
      clear hK
      go_simp
      have e := He.out
      refine HK2.out _ _ ((HI.out _ _ _).2 ⟨{ σ with b5 := true, s34 := _ }, rfl, rfl, { G with D7 := (fun h => ff e (G.D7 h).1), Q5 := (fun _ => rfl) }⟩)
    · have e : σ.b6 = false := hl
      clear hl hlt hd
      have He := Lib.hid e
      clear e
      refine wpOp_run rfl rfl (fun K hK => ?_)
      have HK2 := Lib.hid hK
      clear hK
      go_simp
      have e := He.out
      refine HK2.out _ _ ((HI.out _ _ _).2 ⟨{ σ with b6 := true, s35 := _ }, rfl, rfl, { G with D7 := (fun h => ff e (G.D7 h).2), Q6 := (fun _ => rfl) }⟩)
    · have e : σ.b7 = false := hl
      have hd := hd _ rfl
      clear hl hlt
      simp [Region.binds] at hd
      have t5 : σ.b5 = true := (by simp [hd])
      have t6 : σ.b6 = true := (by simp [hd])
      clear hd
      have er5 := G.Q5 t5
      have er6 := G.Q6 t6
      have He := Lib.hid e
      clear e
      refine wpOp_run rfl rfl (fun K hK => ?_)
      have HK2 := Lib.hid hK
      clear hK
      go_simp
      have e := He.out
      refine HK2.out _ _ ((HI.out _ _ _).2 ⟨{ σ with b7 := true, s36 := _, s34 := _, s35 := _ }, rfl, rfl, { G with D7 := (fun _ => ⟨t5, t6⟩), D8 := (fun h => ff e (G.D8 h)), Q5 := (fun _ => rfl), Q6 := (fun _ => rfl), Q7 := (fun _ => rfl) }⟩)
    · have e : σ.b8 = false := hl
      have hd := hd _ rfl
      clear hl hlt
      simp [Region.binds] at hd
      have t7 : σ.b7 = true := (by simp [hd])
      clear hd
      have er7 := G.Q7 t7
      have e16 : σ.b16 = false := by
        rcases hs : σ.b16 with _ | _
        · rfl
        · exact ff e (G.D13 (G.D14 (G.D15 (G.D16 hs))).2).1
      have X := G.X e16
      have g0 : W.cell? ⟨sb, so + m * 2, none⟩ = some (.string Mn) := X.of_cell z0
      have gl0 := World.block_lt_of_cell? W _ g0
      have g1 : W.cell? ⟨sb, so + m * 2 + 1, none⟩ = some (.slice (some ⟨fb, fo, none⟩) Mk Mc) := X.of_cell z1
      have gl1 := World.block_lt_of_cell? W _ g1
      have HX := Lib.hid X
      clear X
      have H16 := Lib.hid e16
      clear e16
      have He := Lib.hid e
      clear e
      refine wpOp_run rfl rfl (fun K hK => ?_)
      have HK2 := Lib.hid hK
      clear hK
      go_simp
      have e := He.out
      refine HK2.out _ _ ((HI.out _ _ _).2 ⟨{ σ with b8 := true, s37 := _, s36 := _ }, rfl, rfl, { G with D8 := (fun _ => t7), D13 := (fun h => ff e (G.D13 h).1), Q7 := (fun _ => rfl), Q8 := (fun _ => rfl) }⟩)
    · have e : σ.b9 = false := hl
      clear hl hlt hd
      have He := Lib.hid e
      clear e
      refine wpOp_run rfl rfl (fun K hK => ?_)
      have HK2 := Lib.hid hK
      clear hK
      go_simp
      have e := He.out
      refine HK2.out _ _ ((HI.out _ _ _).2 ⟨{ σ with b9 := true, s38 := _ }, rfl, rfl, { G with D11 := (fun h => ff e (G.D11 h).1), Q9 := (fun _ => rfl) }⟩)
    · have e : σ.b10 = false := hl
      clear hl hlt hd
      have He := Lib.hid e
      clear e
      refine wpOp_run rfl rfl (fun K hK => ?_)
      have HK2 := Lib.hid hK
      clear hK
      go_simp
      have e := He.out
      refine HK2.out _ _ ((HI.out _ _ _).2 ⟨{ σ with b10 := true, s39 := _ }, rfl, rfl, { G with D11 := (fun h => ff e (G.D11 h).2), Q10 := (fun _ => rfl) }⟩)
    · have e : σ.b11 = false := hl
      have hd := hd _ rfl
      clear hl hlt
      simp [Region.binds] at hd
      have t9 : σ.b9 = true := (by simp [hd])
      have t10 : σ.b10 = true := (by simp [hd])
      clear hd
      have er9 := G.Q9 t9
      have er10 := G.Q10 t10
      have He := Lib.hid e
      clear e
      refine wpOp_run rfl rfl (fun K hK => ?_)
      have HK2 := Lib.hid hK
      clear hK
      go_simp
      have e := He.out
      refine HK2.out _ _ ((HI.out _ _ _).2 ⟨{ σ with b11 := true, s40 := _, s38 := _, s39 := _ }, rfl, rfl, { G with D11 := (fun _ => ⟨t9, t10⟩), D12 := (fun h => ff e (G.D12 h)), Q9 := (fun _ => rfl), Q10 := (fun _ => rfl), Q11 := (fun _ => rfl) }⟩)
    · have e : σ.b12 = false := hl
      have hd := hd _ rfl
      clear hl hlt
      simp [Region.binds] at hd
      have t11 : σ.b11 = true := (by simp [hd])
      clear hd
      have er11 := G.Q11 t11
      have e16 : σ.b16 = false := by
        rcases hs : σ.b16 with _ | _
        · rfl
        · exact ff e (G.D13 (G.D14 (G.D15 (G.D16 hs))).2).2
      have X := G.X e16
      have g0 : W.cell? ⟨wb, wo + q, none⟩ = some (.int .i64 x) := X.of_cell zw
      have gl0 := World.block_lt_of_cell? W _ g0
      have HX := Lib.hid X
      clear X
      have H16 := Lib.hid e16
      clear e16
      have He := Lib.hid e
      clear e
      refine wpOp_run rfl rfl (fun K hK => ?_)
      have HK2 := Lib.hid hK
      clear hK
      go_simp
      have e := He.out
      refine HK2.out _ _ ((HI.out _ _ _).2 ⟨{ σ with b12 := true, s41 := _, s40 := _ }, rfl, rfl, { G with D12 := (fun _ => t11), D13 := (fun h => ff e (G.D13 h).2), Q11 := (fun _ => rfl), Q12 := (fun _ => rfl) }⟩)
    · have e : σ.b13 = false := hl
      have hd := hd _ rfl
      clear hl hlt
      simp [Region.binds] at hd
      have t8 : σ.b8 = true := (by simp [hd])
      have t12 : σ.b12 = true := (by simp [hd])
      clear hd
      have er8 := G.Q8 t8
      have er12 := G.Q12 t12
      have e16 : σ.b16 = false := by
        rcases hs : σ.b16 with _ | _
        · rfl
        · exact ff e (G.D14 (G.D15 (G.D16 hs))).2
      have HX := Lib.hid (G.X e16)
      clear e16
      have He := Lib.hid e
      clear e
      refine wpOp_run rfl rfl (fun K hK => ?_)
      have HK2 := Lib.hid hK
      clear hK
      go_simp
      go_at_call 42
      refine (hby W HX.out).mono ?_
      rintro e1 W2 ⟨rfl, E2⟩
      (try dsimp only)
      (try simp only [Act.put, List.setIfInBounds_toArray, List.set_cons_zero, List.set_cons_succ])
      have e := He.out
      refine HK2.out _ _ ((HI.out _ _ _).2 ⟨{ σ with b13 := true, s42 := _, s37 := _, s41 := _ }, rfl, rfl, { G with D13 := (fun _ => ⟨t8, t12⟩), D14 := (fun h => ff e (G.D14 h).2), Q8 := (fun _ => rfl), Q12 := (fun _ => rfl), Q13 := (fun _ => rfl), X := (fun _ => HX.out.trans E2), F16 := (fun h => ff e (G.D14 (G.D15 (G.D16 h))).2) }⟩)
    · have e : σ.b14 = false := hl
      have hd := hd _ rfl
      clear hl hlt
      simp [Region.binds] at hd
      have t4 : σ.b4 = true := (by simp [hd])
      have t13 : σ.b13 = true := (by simp [hd])
      clear hd
      have er4 := G.Q4 t4
      have er13 := G.Q13 t13
      have He := Lib.hid e
      clear e
      refine wpOp_run rfl rfl (fun K hK => ?_)
      have HK2 := Lib.hid hK
      clear hK
      go_simp
      have e := He.out
      refine HK2.out _ _ ((HI.out _ _ _).2 ⟨{ σ with b14 := true, s43 := _, s33 := _, s42 := _ }, rfl, rfl, { G with D14 := (fun _ => ⟨t4, t13⟩), D15 := (fun h => ff e (G.D15 h)), Q4 := (fun _ => rfl), Q13 := (fun _ => rfl), Q14 := (fun _ => rfl) }⟩)
    · have e : σ.b15 = false := hl
      have hd := hd _ rfl
      clear hl hlt
      simp [Region.binds] at hd
      have t14 : σ.b14 = true := (by simp [hd])
      clear hd
      have er14 := G.Q14 t14
      have e16 : σ.b16 = false := by
        rcases hs : σ.b16 with _ | _
        · rfl
        · exact ff e (G.D16 hs)
      have X := G.X e16
      have g0 : W.cell? ⟨fb, fo + j * 6, none⟩ = some (.string fname) := X.of_cell y0
      have gl0 := World.block_lt_of_cell? W _ g0
      have g1 : W.cell? ⟨fb, fo + j * 6 + 1, none⟩ = some (.int .i64 fnum) := X.of_cell y1
      have gl1 := World.block_lt_of_cell? W _ g1
      have g2 : W.cell? ⟨fb, fo + j * 6 + 2, none⟩ = some (.int .i64 fkind) := X.of_cell y2
      have gl2 := World.block_lt_of_cell? W _ g2
      have g3 : W.cell? ⟨fb, fo + j * 6 + 3, none⟩ = some (.bool frep) := X.of_cell y3
      have gl3 := World.block_lt_of_cell? W _ g3
      have g4 : W.cell? ⟨fb, fo + j * 6 + 4, none⟩ = some (.bool fpk) := X.of_cell y4
      have gl4 := World.block_lt_of_cell? W _ g4
      have g5 : W.cell? ⟨fb, fo + j * 6 + 5, none⟩ = some (.int .i64 fof) := X.of_cell y5
      have gl5 := World.block_lt_of_cell? W _ g5
      have HX := Lib.hid X
      clear X
      have H16 := Lib.hid e16
      clear e16
      have He := Lib.hid e
      clear e
      refine wpOp_run rfl rfl (fun K hK => ?_)
      have HK2 := Lib.hid hK
      clear hK
      go_simp
      have e := He.out
      refine HK2.out _ _ ((HI.out _ _ _).2 ⟨{ σ with b15 := true, s44 := _, s43 := _ }, rfl, rfl, { G with D15 := (fun _ => t14), D16 := (fun h => ff e (G.D16 h)), Q14 := (fun _ => rfl), Q15 := (fun _ => rfl) }⟩)
    · have e : σ.b16 = false := hl
      have hd := hd _ rfl
      clear hl hlt
      simp [Region.binds] at hd
      have t15 : σ.b15 = true := (by simp [hd])
      clear hd
      have HX := Lib.hid (G.X e)
      have B := BR.up (G.X e)
      have lb := B.lt
      have er15 := G.Q15 t15
      have h0 : W.cell? ⟨ka, 0, none⟩ = some (.string gn) := B.cell 0
      have f0 := B.free 0
      have h1 : W.cell? ⟨ka, 1, none⟩ = some (.int .i64 gnum) := B.cell 1
      have f1 := B.free 1
      have h2 : W.cell? ⟨ka, 2, none⟩ = some (.int .i64 gkind) := B.cell 2
      have f2 := B.free 2
      have h3 : W.cell? ⟨ka, 3, none⟩ = some (.bool grep) := B.cell 3
      have f3 := B.free 3
      have h4 : W.cell? ⟨ka, 4, none⟩ = some (.bool gpk) := B.cell 4
      have f4 := B.free 4
      have h5 : W.cell? ⟨ka, 5, none⟩ = some (.int .i64 gof) := B.cell 5
      have f5 := B.free 5
      clear B
      have He := Lib.hid e
      clear e
      refine wpOp_run rfl rfl (fun K hK => ?_)
      have HK2 := Lib.hid hK
      clear hK
      go_simp
      have e := He.out
      refine HK2.out _ _ ((HI.out _ _ _).2 ⟨{ σ with b16 := true, s44 := _ }, rfl, rfl, { G with D16 := (fun _ => t15), Q15 := (fun _ => rfl), X := (fun h => by cases h), F16 := (fun _ => ⟨W, rfl, HX.out⟩) }⟩)
  · obtain ⟨σ, rfl, rfl, G⟩ := (HI.out _ _ _).1 hi
    clear hi
    have t0 : σ.b0 = true := ready_none hr (i := 0) rfl (by simp [Region.binds]) (show 0 < 17 by decide)
    have t1 : σ.b1 = true := ready_none hr (i := 1) rfl (by simp [Region.binds, t0]) (show 1 < 17 by decide)
    have t2 : σ.b2 = true := ready_none hr (i := 2) rfl (by simp [Region.binds, t0, t1]) (show 2 < 17 by decide)
    have t3 : σ.b3 = true := ready_none hr (i := 3) rfl (by simp [Region.binds, t0, t1, t2]) (show 3 < 17 by decide)
    have t4 : σ.b4 = true := ready_none hr (i := 4) rfl (by simp [Region.binds, t0, t1, t2, t3]) (show 4 < 17 by decide)
    have t5 : σ.b5 = true := ready_none hr (i := 5) rfl (by simp [Region.binds, t0, t1, t2, t3, t4]) (show 5 < 17 by decide)
    have t6 : σ.b6 = true := ready_none hr (i := 6) rfl (by simp [Region.binds, t0, t1, t2, t3, t4, t5]) (show 6 < 17 by decide)
    have t7 : σ.b7 = true := ready_none hr (i := 7) rfl (by simp [Region.binds, t0, t1, t2, t3, t4, t5, t6]) (show 7 < 17 by decide)
    have t8 : σ.b8 = true := ready_none hr (i := 8) rfl (by simp [Region.binds, t0, t1, t2, t3, t4, t5, t6, t7]) (show 8 < 17 by decide)
    have t9 : σ.b9 = true := ready_none hr (i := 9) rfl (by simp [Region.binds, t0, t1, t2, t3, t4, t5, t6, t7, t8]) (show 9 < 17 by decide)
    have t10 : σ.b10 = true := ready_none hr (i := 10) rfl (by simp [Region.binds, t0, t1, t2, t3, t4, t5, t6, t7, t8, t9]) (show 10 < 17 by decide)
    have t11 : σ.b11 = true := ready_none hr (i := 11) rfl (by simp [Region.binds, t0, t1, t2, t3, t4, t5, t6, t7, t8, t9, t10]) (show 11 < 17 by decide)
    have t12 : σ.b12 = true := ready_none hr (i := 12) rfl (by simp [Region.binds, t0, t1, t2, t3, t4, t5, t6, t7, t8, t9, t10, t11]) (show 12 < 17 by decide)
    have t13 : σ.b13 = true := ready_none hr (i := 13) rfl (by simp [Region.binds, t0, t1, t2, t3, t4, t5, t6, t7, t8, t9, t10, t11, t12]) (show 13 < 17 by decide)
    have t14 : σ.b14 = true := ready_none hr (i := 14) rfl (by simp [Region.binds, t0, t1, t2, t3, t4, t5, t6, t7, t8, t9, t10, t11, t12, t13]) (show 14 < 17 by decide)
    have t15 : σ.b15 = true := ready_none hr (i := 15) rfl (by simp [Region.binds, t0, t1, t2, t3, t4, t5, t6, t7, t8, t9, t10, t11, t12, t13, t14]) (show 15 < 17 by decide)
    have t16 : σ.b16 = true := ready_none hr (i := 16) rfl (by simp [Region.binds, t0, t1, t2, t3, t4, t5, t6, t7, t8, t9, t10, t11, t12, t13, t14, t15]) (show 16 < 17 by decide)
    obtain ⟨W6, p1, p2⟩ := G.F16 t16
    exact HK.out _ _ _ _ _ _ _ _ _ _ _ _ _ _ _ _ W6 W p1 p2
  · refine (HI.out _ _ _).2 ⟨⟨false, false, false, false, false, false, false, false, false, false, false, false, false, false, false, false, false, _, _, _, _, _, _, _, _, _, _, _, _, _, _, _, _⟩, rfl, rfl, ?_⟩
    constructor
    all_goals (try dsimp only)
    all_goals first | exact (Ext.refl w).drew | exact fun _ => (Ext.refl w).drew | (intro h; cases h; done)

end Go.Proofs.YtpicpebolghcfaaGreatDoor
