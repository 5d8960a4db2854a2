/- Layer 22: region 6 of the reference's Load. (Printed by gen_load.py.) -/
import Derived.Test.YtpicpebolghcfaaGreatDoorQiM41
import Derived.Test.YtpicpebolghcfaaGreatDoorQiW72
import Derived.Test.YtpicpebolghcfaaGreatDoorQiW77
import Derived.Test.YtpicpebolghcfaaGreatDoorQiW83

namespace Go.Proofs.YtpicpebolghcfaaGreatDoor
open Go.RowKit Go.Shelf
set_option linter.unusedVariables false
set_option linter.unusedSimpArgs false

noncomputable def regLd (n : Nat) : Code := ((Tryz.f20.body.bind (regionOfP n)).getD .skip)

structure Lreg6S where
  (b0 b1 b2 b3 b4 b5 b6 b7 b8 b9 b10 b11 b12 b13 b14 : Bool)
  (s7 s21 s22 s23 s24 s25 s26 s27 s28 s29 s30 s31 s32 s33 s34 : Value)
  (A9 : Option Addr)
  (c9 : Nat)
  (B1 : Option Addr)
  (d1 : Nat)
  (B2 : Option Addr)
  (d2 : Nat)

structure Lreg6F (wx : World) (b : Nat) (off : Nat) (n : Nat) (c : Nat) (q : Nat) (rn : Nat) (rc : Nat) (n7 : Nat) (k7 : Nat) (n8 : Nat) (k8 : Nat) (ul : Nat) (rA : Option Addr) (A7 : Option Addr) (A8 : Option Addr) (bs7 : List Value) (bs8 : List Value) (us : List UInt8) (rbs : List UInt8) (σ : Lreg6S) (W : World) : Prop where
  O8 : Own wx W 5 1 A8 n8 k8 bs8
  O7 : σ.b8 = false → Own wx W 5 1 A7 n7 k7 bs7
  R9 : σ.b7 = true → BytesAt W σ.A9 ul σ.c9 us ∨ σ.b8 = true
  P1 : σ.b8 = true → σ.b13 = false → Own wx W 5 1 σ.B1 (n7 + ul) σ.d1 (bs7 ++ us.map bv) ∧ Apart2 A8 σ.B1
  P2 : σ.b13 = true → Own wx W 5 1 σ.B2 (n7 + ul + rn) σ.d2 ((bs7 ++ us.map bv) ++ rbs.map bv) ∧ Apart2 A8 σ.B2
  S7 : σ.b14 = false → σ.s7 = .slice A7 n7 k7
  Q0 : σ.b0 = true → σ.s21 = .slice A7 n7 k7
  Q1 : σ.b1 = true → σ.s22 = .slice (some ⟨b, off, none⟩) n c
  Q2 : σ.b2 = true → σ.s23 = .int .i64 (q : Int)
  Q3 : σ.b3 = true → σ.s24 = .pointer (some ⟨b, off + q, none⟩)
  Q4 : σ.b4 = true → σ.s25 = .slice rA rn rc
  Q5 : σ.b5 = true → σ.s26 = .int .i64 (rn : Int)
  Q6 : σ.b6 = true → σ.s27 = .int .u64 (rn : Int)
  Q7 : σ.b7 = true → σ.s28 = .slice σ.A9 ul σ.c9
  Q8 : σ.b8 = true → σ.s29 = .slice σ.B1 (n7 + ul) σ.d1
  Q9 : σ.b9 = true → σ.s30 = .slice (some ⟨b, off, none⟩) n c
  Q10 : σ.b10 = true → σ.s31 = .int .i64 (q : Int)
  Q11 : σ.b11 = true → σ.s32 = .pointer (some ⟨b, off + q, none⟩)
  Q12 : σ.b12 = true → σ.s33 = .slice rA rn rc
  Q13 : σ.b13 = true → σ.s34 = .slice σ.B2 (n7 + ul + rn) σ.d2
  Q14 : σ.b14 = true → σ.s7 = .slice σ.B2 (n7 + ul + rn) σ.d2
  D3 : σ.b3 = true → σ.b1 = true ∧ σ.b2 = true
  D4 : σ.b4 = true → σ.b3 = true
  D5 : σ.b5 = true → σ.b4 = true
  D6 : σ.b6 = true → σ.b5 = true
  D7 : σ.b7 = true → σ.b6 = true
  D8 : σ.b8 = true → σ.b0 = true ∧ σ.b7 = true
  D11 : σ.b11 = true → σ.b9 = true ∧ σ.b10 = true
  D12 : σ.b12 = true → σ.b11 = true
  D13 : σ.b13 = true → σ.b8 = true ∧ σ.b12 = true
  D14 : σ.b14 = true → σ.b13 = true

set_option maxRecDepth 100000 in
set_option maxHeartbeats 4000000 in
theorem lreg6 {Q0 : Exit → Act → World → Prop} {u1 u2 u3 u4 u5 u9 u10 u11 u12 u13 u14 u15 u16 u17 u18 u19 u20 u21 u22 u23 u24 u25 u26 u27 u28 u29 u30 u31 u32 u33 u34 u35 u36 u37 u38 u39 u40 u41 u42 u43 u44 u45 u46 u47 u48 u49 u50 u51 u52 u53 u54 u55 u56 u57 u58 u59 u60 u61 : Value} {wx w : World} {b : Nat} {off : Nat} {n : Nat} {c : Nat} {q : Nat} {rn : Nat} {rc : Nat} {n7 : Nat} {k7 : Nat} {n8 : Nat} {k8 : Nat} {ul : Nat} {rA : Option Addr} {A7 : Option Addr} {A8 : Option Addr} {bs7 : List Value} {bs8 : List Value} {us : List UInt8} {rbs : List UInt8} (hqn : (q : Int) < n) (hz : wx.cell? ⟨b, off + q, none⟩ = some (.slice rA rn rc)) (hap : Apart2 A8 A7) (hr : BytesAt wx rA rn rc rbs)
    (hs : n7 + ul + rn ≤ 11000000000) (hrn : rn ≤ 1000000000) (h8 : Own wx w 5 1 A8 n8 k8 bs8) (h7 : Own wx w 5 1 A7 n7 k7 bs7)
    (hput : ∀ W : World, Calls Tryz.prog 51 #[.int .u64 (rn : Int)] W fun e w' => ∃ A' c', e = .returned (.slice A' ul c') ∧ Own W w' 5 1 A' ul c' (us.map bv))
    (hK : ∀ (s7 s21 s22 s23 s24 s25 s26 s27 s28 s29 s30 s31 s32 s33 s34 : Value) (B2 : Option Addr) (d2 : Nat) (wz : World), s7 = .slice B2 (n7 + ul + rn) d2 → Own wx wz 5 1 A8 n8 k8 bs8 → Own wx wz 5 1 B2 (n7 + ul + rn) d2 ((bs7 ++ us.map bv) ++ rbs.map bv) → Apart2 A8 B2 → Q0 .normal ⟨#[.slice (some ⟨b, off, none⟩) n c, u1, u2, u3, u4, u5, .slice A8 n8 k8, s7, .int .i64 (q : Int), u9, u10, u11, u12, u13, u14, u15, u16, u17, u18, u19, u20, s21, s22, s23, s24, s25, s26, s27, s28, s29, s30, s31, s32, s33, s34, u35, u36, u37, u38, u39, u40, u41, u42, u43, u44, u45, u46, u47, u48, u49, u50, u51, u52, u53, u54, u55, u56, u57, u58, u59, u60, u61], []⟩ wz) :
    Code.wp Tryz.prog (regLd 6) (calmQP Q0) ⟨#[.slice (some ⟨b, off, none⟩) n c, u1, u2, u3, u4, u5, .slice A8 n8 k8, .slice A7 n7 k7, .int .i64 (q : Int), u9, u10, u11, u12, u13, u14, u15, u16, u17, u18, u19, u20, u21, u22, u23, u24, u25, u26, u27, u28, u29, u30, u31, u32, u33, u34, u35, u36, u37, u38, u39, u40, u41, u42, u43, u44, u45, u46, u47, u48, u49, u50, u51, u52, u53, u54, u55, u56, u57, u58, u59, u60, u61], []⟩ w := by
  have HK := Lib.hid hK
  clear hK
  conv => arg 2; whnf
  obtain ⟨I, hI⟩ : ∃ I : Array Bool → Act → World → Prop, ∀ l a W, I l a W ↔ (∃ σ : Lreg6S, l = #[σ.b0, σ.b1, σ.b2, σ.b3, σ.b4, σ.b5, σ.b6, σ.b7, σ.b8, σ.b9, σ.b10, σ.b11, σ.b12, σ.b13, σ.b14] ∧ a = ⟨#[.slice (some ⟨b, off, none⟩) n c, u1, u2, u3, u4, u5, .slice A8 n8 k8, σ.s7, .int .i64 (q : Int), u9, u10, u11, u12, u13, u14, u15, u16, u17, u18, u19, u20, σ.s21, σ.s22, σ.s23, σ.s24, σ.s25, σ.s26, σ.s27, σ.s28, σ.s29, σ.s30, σ.s31, σ.s32, σ.s33, σ.s34, u35, u36, u37, u38, u39, u40, u41, u42, u43, u44, u45, u46, u47, u48, u49, u50, u51, u52, u53, u54, u55, u56, u57, u58, u59, u60, u61], []⟩ ∧ Lreg6F wx b off n c q rn rc n7 k7 n8 k8 ul rA A7 A8 bs7 bs8 us rbs σ W) := ⟨_, fun _ _ _ => Iff.rfl⟩
  have HI := Lib.hid hI
  clear hI
  refine wp_region_inv (I := I) (by kernel_rfl) (fun i l a W hi hr => ?_) (fun l a W hi hr => ?_) ?_
  · obtain ⟨σ, rfl, rfl, G⟩ := (HI.out _ _ _).1 hi
    clear hi
    obtain ⟨hlt, hl, hd⟩ := ready_spec hr
    clear hr
    have hlt : i < 15 := hlt
    rcases (show i = 0 ∨ i = 1 ∨ i = 2 ∨ i = 3 ∨ i = 4 ∨ i = 5 ∨ i = 6 ∨ i = 7 ∨ i = 8 ∨ i = 9 ∨ i = 10 ∨ i = 11 ∨ i = 12 ∨ i = 13 ∨ i = 14 by omega) with rfl | rfl | rfl | rfl | rfl | rfl | rfl | rfl | rfl | rfl | rfl | rfl | rfl | rfl | rfl
    · have e : σ.b0 = false := hl
      clear hl hlt hd
      have e14 : σ.b14 = false := by
        rcases hs : σ.b14 with _ | _
        · rfl
        · exact ff e (G.D8 (G.D13 (G.D14 hs)).1).1
      have er7 := G.S7 e14
      have He := Lib.hid e
      clear e
      refine wpOp_run rfl rfl (fun K hK => ?_)
      have HK2 := Lib.hid hK
      clear hK
      go_simp
      have e := He.out
      refine HK2.out _ _ ((HI.out _ _ _).2 ⟨{ σ with b0 := true, s21 := _, s7 := _ }, rfl, rfl, { G with D8 := (fun h => ff e (G.D8 h).1), Q0 := (fun _ => rfl), S7 := (fun _ => rfl), Q14 := (fun h => ff e (G.D8 (G.D13 (G.D14 h)).1).1) }⟩)
    · have e : σ.b1 = false := hl
      clear hl hlt hd
      have He := Lib.hid e
      clear e
      refine wpOp_run rfl rfl (fun K hK => ?_)
      have HK2 := Lib.hid hK
      clear hK
      go_simp
      have e := He.out
      refine HK2.out _ _ ((HI.out _ _ _).2 ⟨{ σ with b1 := true, s22 := _ }, rfl, rfl, { G with D3 := (fun h => ff e (G.D3 h).1), Q1 := (fun _ => rfl) }⟩)
    · have e : σ.b2 = false := hl
      clear hl hlt hd
      have He := Lib.hid e
      clear e
      refine wpOp_run rfl rfl (fun K hK => ?_)
      have HK2 := Lib.hid hK
      clear hK
      go_simp
      have e := He.out
      refine HK2.out _ _ ((HI.out _ _ _).2 ⟨{ σ with b2 := true, s23 := _ }, rfl, rfl, { G with D3 := (fun h => ff e (G.D3 h).2), Q2 := (fun _ => rfl) }⟩)
    · have e : σ.b3 = false := hl
      have hd := hd _ rfl
      clear hl hlt
      simp [Region.binds] at hd
      have t1 : σ.b1 = true := (by simp [hd])
      have t2 : σ.b2 = true := (by simp [hd])
      clear hd
      have er1 := G.Q1 t1
      have er2 := G.Q2 t2
      have He := Lib.hid e
      clear e
      refine wpOp_run rfl rfl (fun K hK => ?_)
      have HK2 := Lib.hid hK
      clear hK
      go_simp
      have e := He.out
      refine HK2.out _ _ ((HI.out _ _ _).2 ⟨{ σ with b3 := true, s24 := _, s22 := _, s23 := _ }, rfl, rfl, { G with D3 := (fun _ => ⟨t1, t2⟩), D4 := (fun h => ff e (G.D4 h)), Q1 := (fun _ => rfl), Q2 := (fun _ => rfl), Q3 := (fun _ => rfl) }⟩)
    · have e : σ.b4 = false := hl
      have hd := hd _ rfl
      clear hl hlt
      simp [Region.binds] at hd
      have t3 : σ.b3 = true := (by simp [hd])
      clear hd
      have er3 := G.Q3 t3
      have g1 : W.cell? ⟨b, off + q, none⟩ = some (.slice rA rn rc) := (G.O8).ext.of_cell hz
      have gl := World.block_lt_of_cell? W _ g1
      have He := Lib.hid e
      clear e
      refine wpOp_run rfl rfl (fun K hK => ?_)
      have HK2 := Lib.hid hK
      clear hK
      go_simp
      have e := He.out
      refine HK2.out _ _ ((HI.out _ _ _).2 ⟨{ σ with b4 := true, s25 := _, s24 := _ }, rfl, rfl, { G with D4 := (fun _ => t3), D5 := (fun h => ff e (G.D5 h)), Q3 := (fun _ => rfl), Q4 := (fun _ => rfl) }⟩)
    · have e : σ.b5 = false := hl
      have hd := hd _ rfl
      clear hl hlt
      simp [Region.binds] at hd
      have t4 : σ.b4 = true := (by simp [hd])
      clear hd
      have er4 := G.Q4 t4
      have He := Lib.hid e
      clear e
      refine wpOp_run rfl rfl (fun K hK => ?_)
      have HK2 := Lib.hid hK
      clear hK
      go_simp
      have e := He.out
      refine HK2.out _ _ ((HI.out _ _ _).2 ⟨{ σ with b5 := true, s26 := _, s25 := _ }, rfl, rfl, { G with D5 := (fun _ => t4), D6 := (fun h => ff e (G.D6 h)), Q4 := (fun _ => rfl), Q5 := (fun _ => rfl) }⟩)
    · have e : σ.b6 = false := hl
      have hd := hd _ rfl
      clear hl hlt
      simp [Region.binds] at hd
      have t5 : σ.b5 = true := (by simp [hd])
      clear hd
      have er5 := G.Q5 t5
      have He := Lib.hid e
      clear e
      refine wpOp_run rfl rfl (fun K hK => ?_)
      have HK2 := Lib.hid hK
      clear hK
      go_simp
      have e := He.out
      refine HK2.out _ _ ((HI.out _ _ _).2 ⟨{ σ with b6 := true, s27 := _, s26 := _ }, rfl, rfl, { G with D6 := (fun _ => t5), D7 := (fun h => ff e (G.D7 h)), Q5 := (fun _ => rfl), Q6 := (fun _ => congrArg (Value.int .u64) (IntWalk.u64_in (rn : Int) (by omega))) }⟩)
    · have e : σ.b7 = false := hl
      have hd := hd _ rfl
      clear hl hlt
      simp [Region.binds] at hd
      have t6 : σ.b6 = true := (by simp [hd])
      clear hd
      have er6 := G.Q6 t6
      have e8 : σ.b8 = false := by
        rcases hs : σ.b8 with _ | _
        · rfl
        · exact ff e (G.D8 hs).2
      have HO8 := Lib.hid G.O8
      have HO7 := Lib.hid (G.O7 e8)
      clear e8
      have He := Lib.hid e
      clear e
      refine wpOp_run rfl rfl (fun K hK => ?_)
      have HK2 := Lib.hid hK
      clear hK
      go_simp
      go_at_call 51
      refine (hput W).mono ?_
      rintro e1 W2 ⟨A9, c9, rfl, own9⟩
      (try dsimp only)
      (try simp only [Act.put, List.setIfInBounds_toArray, List.set_cons_zero, List.set_cons_succ])
      have e := He.out
      refine HK2.out _ _ ((HI.out _ _ _).2 ⟨{ σ with b7 := true, s28 := _, s27 := _, A9 := A9, c9 := c9 }, rfl, rfl, { G with D7 := (fun _ => t6), D8 := (fun h => ff e (G.D8 h).2), Q6 := (fun _ => rfl), Q7 := (fun _ => rfl), O8 := (HO8.out.up own9.ext), O7 := (fun _ => HO7.out.up own9.ext), R9 := (fun _ => .inl own9.bytes), P1 := (fun h => ff e (G.D8 h).2), P2 := (fun h => ff e (G.D8 (G.D13 h).1).2), Q8 := (fun h => ff e (G.D8 h).2), Q13 := (fun h => ff e (G.D8 (G.D13 h).1).2), Q14 := (fun h => ff e (G.D8 (G.D13 (G.D14 h)).1).2) }⟩)
    · have e : σ.b8 = false := hl
      have hd := hd _ rfl
      clear hl hlt
      simp [Region.binds] at hd
      have t0 : σ.b0 = true := (by simp [hd])
      have t7 : σ.b7 = true := (by simp [hd])
      clear hd
      have o7 := G.O7 e
      have f0 := G.Q0 t0
      have f7 := G.Q7 t7
      have o8 := G.O8
      have r9 : BytesAt W σ.A9 ul σ.c9 us := (G.R9 t7).elim id (fun h => ff e h)
      refine wpOp_step rfl (fun K hK => ?_)
      have HK2 := Lib.hid hK
      clear hK
      refine step_moreW elemB (by rfl) (.tmp 21) (.tmp 28) (by rfl) f0 o7 f7 r9 (bv_one _) (by omega) (by unfold maxLen; omega) ?_
      intro B1 d1 W2 p1 g1 m1
      have q1 := o8.besideB hap (Ext.refl W) g1 p1.ext
      have ap1 := hap.moved o8 (Ext.refl W) m1
      (try simp only [Act.put, List.setIfInBounds_toArray, List.set_cons_zero, List.set_cons_succ, Nat.zero_add])
      refine HK2.out _ _ ((HI.out _ _ _).2 ⟨{ σ with b8 := true, s29 := _, B1 := B1, d1 := d1 }, rfl, rfl, { G with D8 := (fun _ => ⟨t0, t7⟩), D13 := (fun h => ff e (G.D13 h).1), O8 := (q1), O7 := (fun h => by cases h), R9 := (fun _ => .inr rfl), P1 := (fun _ _ => ⟨p1, ap1⟩), P2 := (fun h => ff e (G.D13 h).1), Q8 := (fun _ => rfl), Q13 := (fun h => ff e (G.D13 h).1), Q14 := (fun h => ff e (G.D13 (G.D14 h)).1) }⟩)
    · have e : σ.b9 = false := hl
      clear hl hlt hd
      have He := Lib.hid e
      clear e
      refine wpOp_run rfl rfl (fun K hK => ?_)
      have HK2 := Lib.hid hK
      clear hK
      go_simp
      have e := He.out
      refine HK2.out _ _ ((HI.out _ _ _).2 ⟨{ σ with b9 := true, s30 := _ }, rfl, rfl, { G with D11 := (fun h => ff e (G.D11 h).1), Q9 := (fun _ => rfl) }⟩)
    · have e : σ.b10 = false := hl
      clear hl hlt hd
      have He := Lib.hid e
      clear e
      refine wpOp_run rfl rfl (fun K hK => ?_)
      have HK2 := Lib.hid hK
      clear hK
      go_simp
      have e := He.out
      refine HK2.out _ _ ((HI.out _ _ _).2 ⟨{ σ with b10 := true, s31 := _ }, rfl, rfl, { G with D11 := (fun h => ff e (G.D11 h).2), Q10 := (fun _ => rfl) }⟩)
    · have e : σ.b11 = false := hl
      have hd := hd _ rfl
      clear hl hlt
      simp [Region.binds] at hd
      have t9 : σ.b9 = true := (by simp [hd])
      have t10 : σ.b10 = true := (by simp [hd])
      clear hd
      have er9 := G.Q9 t9
      have er10 := G.Q10 t10
      have He := Lib.hid e
      clear e
      refine wpOp_run rfl rfl (fun K hK => ?_)
      have HK2 := Lib.hid hK
      clear hK
      go_simp
      have e := He.out
      refine HK2.out _ _ ((HI.out _ _ _).2 ⟨{ σ with b11 := true, s32 := _, s30 := _, s31 := _ }, rfl, rfl, { G with D11 := (fun _ => ⟨t9, t10⟩), D12 := (fun h => ff e (G.D12 h)), Q9 := (fun _ => rfl), Q10 := (fun _ => rfl), Q11 := (fun _ => rfl) }⟩)
    · have e : σ.b12 = false := hl
      have hd := hd _ rfl
      clear hl hlt
      simp [Region.binds] at hd
      have t11 : σ.b11 = true := (by simp [hd])
      clear hd
      have er11 := G.Q11 t11
      have g1 : W.cell? ⟨b, off + q, none⟩ = some (.slice rA rn rc) := (G.O8).ext.of_cell hz
      have gl := World.block_lt_of_cell? W _ g1
      have He := Lib.hid e
      clear e
      refine wpOp_run rfl rfl (fun K hK => ?_)
      have HK2 := Lib.hid hK
      clear hK
      go_simp
      have e := He.out
      refine HK2.out _ _ ((HI.out _ _ _).2 ⟨{ σ with b12 := true, s33 := _, s32 := _ }, rfl, rfl, { G with D12 := (fun _ => t11), D13 := (fun h => ff e (G.D13 h).2), Q11 := (fun _ => rfl), Q12 := (fun _ => rfl) }⟩)
    · have e : σ.b13 = false := hl
      have hd := hd _ rfl
      clear hl hlt
      simp [Region.binds] at hd
      have t8 : σ.b8 = true := (by simp [hd])
      have t12 : σ.b12 = true := (by simp [hd])
      clear hd
      obtain ⟨o1, a1⟩ := G.P1 t8 e
      have f8 := G.Q8 t8
      have f12 := G.Q12 t12
      have o8 := G.O8
      have rd : BytesAt W rA rn rc rbs := hr.up o1.ext
      refine wpOp_step rfl (fun K hK => ?_)
      have HK2 := Lib.hid hK
      clear hK
      refine step_moreW elemB (by rfl) (.tmp 29) (.tmp 33) (by rfl) f8 o1 f12 rd (bv_one _) (by omega) (by unfold maxLen; omega) ?_
      intro B2 d2 W2 p2 g2 m2
      have q2 := o8.besideB a1 (Ext.refl W) g2 p2.ext
      have ap2 := a1.moved o8 (Ext.refl W) m2
      (try simp only [Act.put, List.setIfInBounds_toArray, List.set_cons_zero, List.set_cons_succ, Nat.zero_add])
      refine HK2.out _ _ ((HI.out _ _ _).2 ⟨{ σ with b13 := true, s34 := _, B2 := B2, d2 := d2 }, rfl, rfl, { G with D13 := (fun _ => ⟨t8, t12⟩), D14 := (fun h => ff e (G.D14 h)), O8 := (q2), O7 := (fun h => ff h t8), R9 := (fun _ => .inr t8), P1 := (fun _ h => by cases h), P2 := (fun _ => ⟨p2, ap2⟩), Q13 := (fun _ => rfl), Q14 := (fun h => ff e (G.D14 h)) }⟩)
    · have e : σ.b14 = false := hl
      have hd := hd _ rfl
      clear hl hlt
      simp [Region.binds] at hd
      have t13 : σ.b13 = true := (by simp [hd])
      clear hd
      have er13 := G.Q13 t13
      have He := Lib.hid e
      clear e
      refine wpOp_run rfl rfl (fun K hK => ?_)
      have HK2 := Lib.hid hK
      clear hK
      go_simp
      have e := He.out
      refine HK2.out _ _ ((HI.out _ _ _).2 ⟨{ σ with b14 := true, s7 := _, s34 := _ }, rfl, rfl, { G with D14 := (fun _ => t13), Q13 := (fun _ => rfl), Q14 := (fun _ => rfl), S7 := (fun h => by cases h) }⟩)
  · obtain ⟨σ, rfl, rfl, G⟩ := (HI.out _ _ _).1 hi
    clear hi
    have t0 : σ.b0 = true := ready_none hr (i := 0) rfl (by simp [Region.binds]) (show 0 < 15 by decide)
    have t1 : σ.b1 = true := ready_none hr (i := 1) rfl (by simp [Region.binds, t0]) (show 1 < 15 by decide)
    have t2 : σ.b2 = true := ready_none hr (i := 2) rfl (by simp [Region.binds, t0, t1]) (show 2 < 15 by decide)
    have t3 : σ.b3 = true := ready_none hr (i := 3) rfl (by simp [Region.binds, t0, t1, t2]) (show 3 < 15 by decide)
    have t4 : σ.b4 = true := ready_none hr (i := 4) rfl (by simp [Region.binds, t0, t1, t2, t3]) (show 4 < 15 by decide)
    have t5 : σ.b5 = true := ready_none hr (i := 5) rfl (by simp [Region.binds, t0, t1, t2, t3, t4]) (show 5 < 15 by decide)
    have t6 : σ.b6 = true := ready_none hr (i := 6) rfl (by simp [Region.binds, t0, t1, t2, t3, t4, t5]) (show 6 < 15 by decide)
    have t7 : σ.b7 = true := ready_none hr (i := 7) rfl (by simp [Region.binds, t0, t1, t2, t3, t4, t5, t6]) (show 7 < 15 by decide)
    have t8 : σ.b8 = true := ready_none hr (i := 8) rfl (by simp [Region.binds, t0, t1, t2, t3, t4, t5, t6, t7]) (show 8 < 15 by decide)
    have t9 : σ.b9 = true := ready_none hr (i := 9) rfl (by simp [Region.binds, t0, t1, t2, t3, t4, t5, t6, t7, t8]) (show 9 < 15 by decide)
    have t10 : σ.b10 = true := ready_none hr (i := 10) rfl (by simp [Region.binds, t0, t1, t2, t3, t4, t5, t6, t7, t8, t9]) (show 10 < 15 by decide)
    have t11 : σ.b11 = true := ready_none hr (i := 11) rfl (by simp [Region.binds, t0, t1, t2, t3, t4, t5, t6, t7, t8, t9, t10]) (show 11 < 15 by decide)
    have t12 : σ.b12 = true := ready_none hr (i := 12) rfl (by simp [Region.binds, t0, t1, t2, t3, t4, t5, t6, t7, t8, t9, t10, t11]) (show 12 < 15 by decide)
    have t13 : σ.b13 = true := ready_none hr (i := 13) rfl (by simp [Region.binds, t0, t1, t2, t3, t4, t5, t6, t7, t8, t9, t10, t11, t12]) (show 13 < 15 by decide)
    have t14 : σ.b14 = true := ready_none hr (i := 14) rfl (by simp [Region.binds, t0, t1, t2, t3, t4, t5, t6, t7, t8, t9, t10, t11, t12, t13]) (show 14 < 15 by decide)
    obtain ⟨p2, a2⟩ := G.P2 t13
    exact HK.out _ _ _ _ _ _ _ _ _ _ _ _ _ _ _ σ.B2 σ.d2 W (G.Q14 t14) G.O8 p2 a2
  · refine (HI.out _ _ _).2 ⟨⟨false, false, false, false, false, false, false, false, false, false, false, false, false, false, false, _, _, _, _, _, _, _, _, _, _, _, _, _, _, _, none, 0, none, 0, none, 0⟩, rfl, rfl, ?_⟩
    constructor
    all_goals (try dsimp only)
    all_goals first | exact fun _ => rfl | exact h8.up (Ext.refl w).drew | exact fun _ => h7.up (Ext.refl w).drew | (intro h; cases h; done)

end Go.Proofs.YtpicpebolghcfaaGreatDoor

/- Layer 22: the reference's load. -/


namespace Go.Proofs.YtpicpebolghcfaaGreatDoor
open Go.RowKit Go.Shelf
set_option linter.unusedVariables false
set_option linter.unusedSimpArgs false

theorem got_none {f : FieldD} {ps : List (List UInt8)} (h : thereP f ps = false) : (gotV f ps).1 = [] := by unfold gotV; rw [if_neg (by rw [h]; simp)]

theorem got_yes {f : FieldD} {ps : List (List UInt8)} (h : thereP f ps = true) : (gotV f ps).1 = loadP f ps := by unfold gotV; rw [if_pos h]

set_option maxRecDepth 100000 in
set_option maxHeartbeats 2000000 in
theorem rLoad {f : FieldD} {A : Option Addr} {n c : Nat} {l : List BRow} {w : World} (hb : BRowsAt w A n c l) (hfl : (flatR l).length ≤ 1000000000) (hn : n ≤ 1000000000) :
    Calls Tryz.prog 20 #[.slice A n c, fieldV f] w fun e w' => ∃ A' c', e = .returned (.tuple #[.slice A' (gotV f (bytesR l)).1.length c', .bool (thereP f (bytesR l))]) ∧ BytesAt w' A' (gotV f (bytesR l)).1.length c' (gotV f (bytesR l)).1 ∧ Ext w w' := by
  have hbl := hb.length
  have hrow : ∀ q r, l[q]? = some r → r.bs.length ≤ 1000000000 ∧ (flatR (l.take q)).length + r.bs.length ≤ 1000000000 := by
    intro q r hr
    have h := flatR_snoc hr
    have h2 : (flatR (l.take (q + 1))).length ≤ (flatR l).length := by
      conv => rhs; rw [← List.take_append_drop (q + 1) l]
      unfold flatR
      rw [List.flatMap_append, List.length_append]
      omega
    rw [h, List.length_append] at h2
    omega
  have htold : ∀ q, q ≤ n → (toldP (bytesR (l.take q))).length ≤ 11000000000 := by
    intro q hq
    have h1 := told_len (bytesR (l.take q)) (fun x hx => by
      unfold bytesR at hx
      obtain ⟨r, hr, rfl⟩ := List.mem_map.1 hx
      obtain ⟨j, hj⟩ := List.mem_iff_getElem?.1 (List.mem_of_mem_take hr)
      have := (hrow j r hj).1
      omega)
    have h2 : (bytesR (l.take q)).length ≤ n := by unfold bytesR; rw [List.length_map, List.length_take]; omega
    have h3 : (bytesR (l.take q)).flatten.length ≤ (flatR l).length := by
      rw [← flat_rows]
      conv => rhs; rw [← List.take_append_drop q l]
      unfold flatR
      rw [List.flatMap_append, List.length_append]
      omega
    omega
  have Hrow := Lib.hid hrow
  have Htold := Lib.hid htold
  have Hb := Lib.hid hb
  clear hrow htold hb
  obtain ⟨fname, fnum, fkind, frep, fpk, fof⟩ := f
  unfold fieldV
  have BF := BlkT.new w 43 #[.string fname, .int .i64 fnum, .int .i64 fkind, .bool frep, .bool fpk, .int .i64 fof] rfl
  have X0 : Ext w (w.alloc (.cells #[.string fname, .int .i64 fnum, .int .i64 fkind, .bool frep, .bool fpk, .int .i64 fof] 43)) := (Ext.refl w).alloc _
  go_enter Tryz.func20, Tryz.ntmps20
  go_wp2_with fail
  generalize w.alloc (.cells #[.string fname, .int .i64 fnum, .int .i64 fkind, .bool frep, .bool fpk, .int .i64 fof] 43) = wx at *
  go_loopw [6, 7, 8] (fun t6 t7 t8 wr => ∃ (q : Nat) (A6 : Option Addr) (n6 k6 : Nat) (A7 : Option Addr) (n7 k7 : Nat), q ≤ n ∧ t8 = .int .i64 q ∧ t6 = .slice A6 n6 k6 ∧ t7 = .slice A7 n7 k7 ∧ Own wx wr 5 1 A6 n6 k6 ((flatR (l.take q)).map bv) ∧ Own wx wr 5 1 A7 n7 k7 ((toldP (bytesR (l.take q))).map bv) ∧ Apart2 A6 A7 ∧ Hid (n6 = (flatR (l.take q)).length ∧ n7 = (toldP (bytesR (l.take q))).length))
    (fun _ _ i _ => n - (intOf i).toNat)
  case atStart => exact ⟨0, none, 0, 0, none, 0, 0, Nat.zero_le _, rfl, rfl, rfl, Own.nil (Ext.refl _) 5 1, Own.nil (Ext.refl _) 5 1, Apart2.nil _, Lib.hid ⟨rfl, rfl⟩⟩
  case round =>
    obtain ⟨q, A6, n6, k6, A7, n7, k7, hq, rfl, rfl, rfl, own6, own7, hap, hln⟩ := hrel
    by_cases hlt : q < n
    · have hlt2 : (q : Int) < n := by omega
      obtain ⟨b, off, r, rfl, hlr, hbb, hbr, hcell⟩ := (Hb.out.up X0).row hlt
      obtain ⟨hr1, hr2⟩ := Hrow.out q r hlr
      have ht1 := Htold.out (q + 1) (by omega)
      have hsn := flatR_snoc hlr
      have hts : toldP (bytesR (l.take (q + 1))) = toldP (bytesR (l.take q)) ++ (Lib.uvarint r.bs.length ++ r.bs) := by
        have := toldP_snoc (ps := bytesR l) (k := q) (b := r.bs) (by unfold bytesR; rw [List.getElem?_map, hlr]; rfl)
        unfold bytesR at this ⊢
        rw [List.map_take, List.map_take]
        exact this
      have hrn := hbr.length
      obtain ⟨e6, e7⟩ := hln.out
      have hu : (toldP (bytesR (l.take q))).length + ((Lib.uvarint r.bs.length).length + r.bs.length) ≤ 11000000000 := by
        rw [hts, List.length_append, List.length_append] at ht1
        exact ht1
      have hput := fun W => vPutRI (r.n : Int) W (by omega) (by omega)
      rw [Int.toNat_natCast] at hput
      have hc1 := own6.ext.of_cell hcell
      have hb1 := Nat.lt_of_lt_of_le hbb own6.ext.size
      have Hbr := Lib.hid hbr
      obtain ⟨rA, rn, rc, rbs⟩ := r
      simp only at hcell hc1 hrn hput hu Hbr hr1 hr2 hts hsn
      obtain ⟨ul, hul⟩ : ∃ ul, ul = (Lib.uvarint rn).length := ⟨_, rfl⟩
      rw [← hul] at hput
      have Hput := Lib.hid hput
      have Hts := Lib.hid hts
      have Hsn := Lib.hid hsn
      have Hul := Lib.hid hul
      have hn6 : n6 + rn ≤ 1000000000 := by omega
      have hn7 : n7 + (ul + rn) ≤ 11000000000 := by rw [hrn] at hu; omega
      clear hput hts hsn hul hbr hu ht1 e6 e7 hr1 hr2
      go_wp2_with (first
        | (at_builtin; refine wpList_moreW elemB rfl (.tmp 15) (.tmp 19) rfl rfl (own6.up (by repeat with_reducible (first | exact Ext.refl _ | refine Ext.alloc ?_ _ | refine Ext.drew ?_ | refine Ext.drewN ?_ _ | refine Ext.setCell ?_ (by first | exact Nat.le_refl _ | omega | (simp; done) | (simp; omega)) _))) rfl (Hbr.out.up (own6.ext.trans (by repeat with_reducible (first | exact Ext.refl _ | refine Ext.alloc ?_ _ | refine Ext.drew ?_ | refine Ext.drewN ?_ _ | refine Ext.setCell ?_ (by first | exact Nat.le_refl _ | omega | (simp; done) | (simp; omega)) _)))) (bv_one _) (by omega) (by unfold maxLen; omega) ?_; intro A8 k8 w8 own8 g8 m8; have o7 := own7.besideB hap.symm (by repeat with_reducible (first | exact Ext.refl _ | refine Ext.alloc ?_ _ | refine Ext.drew ?_ | refine Ext.drewN ?_ _ | refine Ext.setCell ?_ (by first | exact Nat.le_refl _ | omega | (simp; done) | (simp; omega)) _)) g8 own8.ext; have ap := hap.symm.moved own7 (by repeat with_reducible (first | exact Ext.refl _ | refine Ext.alloc ?_ _ | refine Ext.drew ?_ | refine Ext.drewN ?_ _ | refine Ext.setCell ?_ (by first | exact Nat.le_refl _ | omega | (simp; done) | (simp; omega)) _)) m8; have hc8 := own8.ext.of_cell hcell; have hb8 := Nat.lt_of_lt_of_le hbb own8.ext.size; clear g8 m8 hap own6 own7 hc1 hb1))
      have hb8 := Hbr.out
      refine calmP (fun _ _ _ hd h => ⟨hd, h.2⟩) (lreg6 (us := Lib.uvarint rn) (rbs := rbs) hlt2 hcell ap.symm hb8 (by omega) (by omega) own8 o7 Hput.out ?_)
      intro s7 s21 s22 s23 s24 s25 s26 s27 s28 s29 s30 s31 s32 s33 s34 B2 d2 wz hs7 q8 p2 ap2
      subst hs7
      go_wp2_with fail
      go_roundw
      case rel =>
        refine ⟨q + 1, A8, n6 + rn, k8, B2, n7 + ul + rn, d2, by omega, by go_num, rfl, rfl, ?_, ?_, ap2, Lib.hid ⟨?_, ?_⟩⟩
        · rw [Hsn.out, List.map_append]
          exact q8.up (by repeat with_reducible (first | exact Ext.refl _ | refine Ext.alloc ?_ _ | refine Ext.drew ?_ | refine Ext.drewN ?_ _ | refine Ext.setCell ?_ (by first | exact Nat.le_refl _ | omega | (simp; done) | (simp; omega)) _))
        · rw [Hts.out, hrn, List.map_append, List.map_append, ← List.append_assoc]
          exact p2.up (by repeat with_reducible (first | exact Ext.refl _ | refine Ext.alloc ?_ _ | refine Ext.drew ?_ | refine Ext.drewN ?_ _ | refine Ext.setCell ?_ (by first | exact Nat.le_refl _ | omega | (simp; done) | (simp; omega)) _))
        · have := hln.out.1
          rw [Hsn.out, List.length_append]
          omega
        · have := hln.out.2
          rw [Hts.out, List.length_append, List.length_append, hrn]
          have := Hul.out
          omega
      case measure => simp [intOf]; omega
    · have hqe : q = n := by omega
      subst hqe
      have htk : l.take q = l := List.take_of_length_le (by omega)
      rw [htk] at own6 own7 hln
      obtain ⟨e6, e7⟩ := hln.out
      have X1 := own6.ext
      have c0 : wr.cell? ⟨w.heap.size, 0, none⟩ = some (.string fname) := X1.of_cell (BF.cell 0)
      have c1 : wr.cell? ⟨w.heap.size, 1, none⟩ = some (.int .i64 fnum) := X1.of_cell (BF.cell 1)
      have c2 : wr.cell? ⟨w.heap.size, 2, none⟩ = some (.int .i64 fkind) := X1.of_cell (BF.cell 2)
      have c3 : wr.cell? ⟨w.heap.size, 3, none⟩ = some (.bool frep) := X1.of_cell (BF.cell 3)
      have c4 : wr.cell? ⟨w.heap.size, 4, none⟩ = some (.bool fpk) := X1.of_cell (BF.cell 4)
      have c5 : wr.cell? ⟨w.heap.size, 5, none⟩ = some (.int .i64 fof) := X1.of_cell (BF.cell 5)
      have cl := Nat.lt_of_lt_of_le BF.lt X1.size
      have X2 : Ext w wr := X0.trans X1
      have hfl6 : (bytesR l).flatten = flatR l := (flat_rows l).symm
      have hpl : (bytesR l).length = q := by unfold bytesR; rw [List.length_map]; omega
      have hfl9 : (bytesR l).flatten.length ≤ 1000000000 := by rw [hfl6]; exact hfl
      have Hb2 := Hb.out
      have own6b : BytesAt wr A6 n6 k6 (flatR l) := own6.bytes
      have own7b : BytesAt wr A7 n7 k7 (toldP (bytesR l)) := own7.bytes
      have hkn := fun W : World => kNumberR fkind W
      rcases frep with _ | _
      · have hrun : runP ⟨fname, fnum, fkind, false, fpk, fof⟩ = false := rfl
        by_cases h0 : q = 0
        · have ht : thereP ⟨fname, fnum, fkind, false, fpk, fof⟩ (bytesR l) = false := by
            unfold thereP
            rw [if_neg (by rw [hrun]; simp), hpl, h0]
            rfl
          have hg := got_none ht
          have H_hg := Lib.hid hg
          have H_ht := Lib.hid ht
          clear hg ht
          subst h0
          go_wp2_with fail
          go_ret2
          rw [H_hg.out, H_ht.out]
          exact ⟨none, 0, rfl, BytesAt.nil _, X2⟩
        · have hq0 : (q : Int) ≠ 0 := by omega
          have hq1 : ((q : Int) == 0) = false := by rw [beq_eq_false_iff_ne]; exact hq0
          have ht : thereP ⟨fname, fnum, fkind, false, fpk, fof⟩ (bytesR l) = true := by
            unfold thereP
            rw [if_neg (by rw [hrun]; simp), hpl]
            simp
            omega
          have hg := got_yes ht
          by_cases h17 : fkind = 17
          · have hl := load_sub (f := ⟨fname, fnum, fkind, false, fpk, fof⟩) (ps := bytesR l) h17 rfl
            have H_hg := Lib.hid hg
            have H_ht := Lib.hid ht
            have H_hl := Lib.hid hl
            subst h17
            clear hg ht hl
            go_wp2_with fail
            go_ret2
            rw [H_hg.out, H_ht.out, H_hl.out, hfl6, ← e6]
            exact ⟨A6, k6, rfl, own6b, X2⟩
          · have hl := load_last (f := ⟨fname, fnum, fkind, false, fpk, fof⟩) (ps := bytesR l) h17 rfl
            have hk17 : (fkind == 17) = false := by rw [beq_eq_false_iff_ne]; exact h17
            obtain ⟨j, rfl⟩ : ∃ j, q = j + 1 := ⟨q - 1, by omega⟩
            obtain ⟨b, off, r, rfl, hlr, hb1, hbr, hcell⟩ := (Hb2.up X2).row (k := j) (by omega)
            have hlast : lastP (bytesR l) = r.bs := by
              unfold lastP
              rw [List.getLast?_eq_getElem?, hpl]
              unfold bytesR
              rw [List.getElem?_map, show j + 1 - 1 = j by omega, hlr]
              rfl
            have H_hg := Lib.hid hg
            have H_ht := Lib.hid ht
            have H_hl := Lib.hid hl
            have H_hlast := Lib.hid hlast
            have Hbr := Lib.hid hbr
            obtain ⟨rA, rn, rc, rbs⟩ := r
            simp only at hcell Hbr ⊢
            clear hg ht hl hlast hbr hlr
            go_wp2_with fail
            go_ret2
            rw [H_hg.out, H_ht.out, H_hl.out, H_hlast.out, Hbr.out.length]
            exact ⟨rA, rc, rfl, Hbr.out, X2⟩
      · rcases hnb : numberB fkind with _ | _
        · rw [hnb] at hkn
          have hrun : runP ⟨fname, fnum, fkind, true, fpk, fof⟩ = false := by unfold runP; rw [hnb]; rfl
          by_cases h0 : q = 0
          · have ht : thereP ⟨fname, fnum, fkind, true, fpk, fof⟩ (bytesR l) = false := by
              unfold thereP
              rw [if_neg (by rw [hrun]; simp), hpl, h0]
              rfl
            have hg := got_none ht
            have H_hg := Lib.hid hg
            have H_ht := Lib.hid ht
            clear hg ht
            subst h0
            go_wp2_with (go_at_call 14; refine (hkn _).mono ?_; rintro e w2 ⟨rfl, rfl⟩)
            go_ret2
            rw [H_hg.out, H_ht.out]
            exact ⟨none, 0, rfl, BytesAt.nil _, X2⟩
          · have hq0 : (q : Int) ≠ 0 := by omega
            have hq1 : ((q : Int) == 0) = false := by rw [beq_eq_false_iff_ne]; exact hq0
            have ht : thereP ⟨fname, fnum, fkind, true, fpk, fof⟩ (bytesR l) = true := by
              unfold thereP
              rw [if_neg (by rw [hrun]; simp), hpl]
              simp
              omega
            have hg := got_yes ht
            have hl := load_told (f := ⟨fname, fnum, fkind, true, fpk, fof⟩) (ps := bytesR l) hrun rfl
            have H_hg := Lib.hid hg
            have H_ht := Lib.hid ht
            have H_hl := Lib.hid hl
            clear hg ht hl
            go_wp2_with (go_at_call 14; refine (hkn _).mono ?_; rintro e w2 ⟨rfl, rfl⟩)
            go_ret2
            rw [H_hg.out, H_ht.out, H_hl.out, ← e7]
            exact ⟨A7, k7, rfl, own7b, X2⟩
        · rw [hnb] at hkn
          have hrun : runP ⟨fname, fnum, fkind, true, fpk, fof⟩ = true := by unfold runP; rw [hnb]; rfl
          have hg : (gotV ⟨fname, fnum, fkind, true, fpk, fof⟩ (bytesR l)).1 = flatR l := by
            unfold gotV
            split
            · rw [load_run hrun, hfl6]
            · rename_i h
              unfold thereP at h
              rw [if_pos hrun, hfl6] at h
              have : (flatR l).length = 0 := by simpa using h
              exact (List.length_eq_zero_iff.1 this).symm
          have ht : thereP ⟨fname, fnum, fkind, true, fpk, fof⟩ (bytesR l) = decide ((n6 : Int) > 0) := by
            unfold thereP
            rw [if_pos hrun, hfl6, ← e6, Bool.eq_iff_iff]
            simp
          have H_hg := Lib.hid hg
          have H_ht := Lib.hid ht
          clear hg ht
          go_wp2_with (go_at_call 14; refine (hkn _).mono ?_; rintro e w2 ⟨rfl, rfl⟩)
          all_goals
            go_ret2
            rw [H_hg.out, H_ht.out, ← e6]
            refine ⟨A6, k6, ?_, own6b, X2⟩
            first | rfl | (congr 1; simp)

end Go.Proofs.YtpicpebolghcfaaGreatDoor

/- Layer 22: the reference's things. -/


namespace Go.Proofs.YtpicpebolghcfaaGreatDoor
open Go.RowKit Go.Shelf
set_option linter.unusedVariables false
set_option linter.unusedSimpArgs false

theorem things_no {f : FieldD} {ps : List (List UInt8)} (h : thereP f ps = false) : thingsP f ps = 0 := by unfold thingsP; rw [if_pos h]

theorem things_run {f : FieldD} {ps : List (List UInt8)} (h : thereP f ps = true) (hr : runP f = true) : thingsP f ps = countV f.kind ps.flatten := by
  unfold thingsP
  rw [if_neg (by rw [h]; simp), if_pos hr, load_run hr]

theorem things_rep {f : FieldD} {ps : List (List UInt8)} (h : thereP f ps = true) (hr : runP f = false) (hp : f.rep = true) : thingsP f ps = ps.length := by
  unfold thingsP
  rw [if_neg (by rw [h]; simp), if_neg (by rw [hr]; simp), if_pos hp]

theorem things_one {f : FieldD} {ps : List (List UInt8)} (h : thereP f ps = true) (hp : f.rep = false) : thingsP f ps = 1 := by
  unfold thingsP
  rw [if_neg (by rw [h]; simp), if_neg (by unfold runP; rw [hp]; simp), if_neg (by rw [hp]; simp)]

theorem got_run {f : FieldD} {ps : List (List UInt8)} (hr : runP f = true) : (gotV f ps).1 = ps.flatten := by
  unfold gotV
  split
  · exact load_run hr
  · rename_i h
    unfold thereP at h
    rw [if_pos hr] at h
    have : ps.flatten.length = 0 := by simpa using h
    exact (List.length_eq_zero_iff.1 this).symm

set_option maxRecDepth 100000 in
set_option maxHeartbeats 2000000 in
theorem rThings {f : FieldD} {A : Option Addr} {n c : Nat} {l : List BRow} {w : World} (hb : BRowsAt w A n c l) (hfl : (flatR l).length ≤ 1000000000) (hn : n ≤ 1000000000) :
    Calls Tryz.prog 21 #[.slice A n c, fieldV f] w fun e w' => e = .returned (.int .i64 (thingsP f (bytesR l) : Nat)) ∧ Ext w w' := by
  have hbl := hb.length
  have hpl : (bytesR l).length = n := by unfold bytesR; rw [List.length_map]; omega
  have hld := fun W (h : BRowsAt W A n c l) => rLoad (f := f) h hfl hn
  have hkn := fun W : World => kNumberR f.kind W
  rw [flat_rows] at hfl
  have Hb := Lib.hid hb
  clear hb
  rcases ht : thereP f (bytesR l) with _ | _
  · rw [ht] at hld
    rw [things_no ht]
    generalize (gotV f (bytesR l)).1 = G at *
    generalize hGL : G.length = GL at *
    have Hld := Lib.hid hld
    obtain ⟨fname, fnum, fkind, frep, fpk, fof⟩ := f
    unfold fieldV at *
    have BF := BlkT.new w 43 #[.string fname, .int .i64 fnum, .int .i64 fkind, .bool frep, .bool fpk, .int .i64 fof] rfl
    have X0 : Ext w (w.alloc (.cells #[.string fname, .int .i64 fnum, .int .i64 fkind, .bool frep, .bool fpk, .int .i64 fof] 43)) := (Ext.refl w).alloc _
    clear hld hkn ht hGL hbl hpl
    go_enter Tryz.func21, Tryz.ntmps21
    go_upto_region 1 with fail
    generalize w.alloc (.cells #[.string fname, .int .i64 fnum, .int .i64 fkind, .bool frep, .bool fpk, .int .i64 fof] 43) = wx at *
    have c0 : wx.cell? ⟨w.heap.size, 0, none⟩ = some (.string fname) := BF.cell 0
    have c1 : wx.cell? ⟨w.heap.size, 1, none⟩ = some (.int .i64 fnum) := BF.cell 1
    have c2 : wx.cell? ⟨w.heap.size, 2, none⟩ = some (.int .i64 fkind) := BF.cell 2
    have c3 : wx.cell? ⟨w.heap.size, 3, none⟩ = some (.bool frep) := BF.cell 3
    have c4 : wx.cell? ⟨w.heap.size, 4, none⟩ = some (.bool fpk) := BF.cell 4
    have c5 : wx.cell? ⟨w.heap.size, 5, none⟩ = some (.int .i64 fof) := BF.cell 5
    have cl := BF.lt
    go_wp2_with (go_at_call 20; refine (Hld.out _ (Hb.out.up X0)).mono ?_; rintro e w1 ⟨A1, k1, rfl, hb1, E1⟩)
    go_ret
    exact ⟨rfl, X0.trans E1⟩
  · rw [ht] at hld
    rcases hr : runP f with _ | _
    · rcases hp : f.rep with _ | _
      · rw [things_one ht hp]
        generalize (gotV f (bytesR l)).1 = G at *
        generalize hGL : G.length = GL at *
        have Hld := Lib.hid hld
        obtain ⟨fname, fnum, fkind, frep, fpk, fof⟩ := f
        simp only at hp
        subst hp
        unfold fieldV at *
        have BF := BlkT.new w 43 #[.string fname, .int .i64 fnum, .int .i64 fkind, .bool false, .bool fpk, .int .i64 fof] rfl
        have X0 : Ext w (w.alloc (.cells #[.string fname, .int .i64 fnum, .int .i64 fkind, .bool false, .bool fpk, .int .i64 fof] 43)) := (Ext.refl w).alloc _
        clear hld hkn ht hGL hbl hpl hr
        go_enter Tryz.func21, Tryz.ntmps21
        go_upto_region 1 with fail
        generalize w.alloc (.cells #[.string fname, .int .i64 fnum, .int .i64 fkind, .bool false, .bool fpk, .int .i64 fof] 43) = wx at *
        have c0 : wx.cell? ⟨w.heap.size, 0, none⟩ = some (.string fname) := BF.cell 0
        have c1 : wx.cell? ⟨w.heap.size, 1, none⟩ = some (.int .i64 fnum) := BF.cell 1
        have c2 : wx.cell? ⟨w.heap.size, 2, none⟩ = some (.int .i64 fkind) := BF.cell 2
        have c3 : wx.cell? ⟨w.heap.size, 3, none⟩ = some (.bool false) := BF.cell 3
        have c4 : wx.cell? ⟨w.heap.size, 4, none⟩ = some (.bool fpk) := BF.cell 4
        have c5 : wx.cell? ⟨w.heap.size, 5, none⟩ = some (.int .i64 fof) := BF.cell 5
        have cl := BF.lt
        go_wp2_with (go_at_call 20; refine (Hld.out _ (Hb.out.up X0)).mono ?_; rintro e w1 ⟨A1, k1, rfl, hb1, E1⟩; replace c0 := E1.of_cell c0; replace c1 := E1.of_cell c1; replace c2 := E1.of_cell c2; replace c3 := E1.of_cell c3; replace c4 := E1.of_cell c4; replace c5 := E1.of_cell c5; replace cl := Nat.lt_of_lt_of_le cl E1.size)
        go_ret
        exact ⟨rfl, X0.trans E1⟩
      · rw [things_rep ht hr hp, hpl]
        have hnb : numberB f.kind = false := by
          unfold runP at hr
          rw [hp, Bool.true_and] at hr
          exact hr
        rw [hnb] at hkn
        have Hkn := Lib.hid hkn
        generalize (gotV f (bytesR l)).1 = G at *
        generalize hGL : G.length = GL at *
        have Hld := Lib.hid hld
        obtain ⟨fname, fnum, fkind, frep, fpk, fof⟩ := f
        simp only at hp Hkn
        subst hp
        unfold fieldV at *
        have BF := BlkT.new w 43 #[.string fname, .int .i64 fnum, .int .i64 fkind, .bool true, .bool fpk, .int .i64 fof] rfl
        have X0 : Ext w (w.alloc (.cells #[.string fname, .int .i64 fnum, .int .i64 fkind, .bool true, .bool fpk, .int .i64 fof] 43)) := (Ext.refl w).alloc _
        clear hld hkn ht hGL hbl hpl hr hnb
        go_enter Tryz.func21, Tryz.ntmps21
        go_upto_region 1 with fail
        generalize w.alloc (.cells #[.string fname, .int .i64 fnum, .int .i64 fkind, .bool true, .bool fpk, .int .i64 fof] 43) = wx at *
        have c0 : wx.cell? ⟨w.heap.size, 0, none⟩ = some (.string fname) := BF.cell 0
        have c1 : wx.cell? ⟨w.heap.size, 1, none⟩ = some (.int .i64 fnum) := BF.cell 1
        have c2 : wx.cell? ⟨w.heap.size, 2, none⟩ = some (.int .i64 fkind) := BF.cell 2
        have c3 : wx.cell? ⟨w.heap.size, 3, none⟩ = some (.bool true) := BF.cell 3
        have c4 : wx.cell? ⟨w.heap.size, 4, none⟩ = some (.bool fpk) := BF.cell 4
        have c5 : wx.cell? ⟨w.heap.size, 5, none⟩ = some (.int .i64 fof) := BF.cell 5
        have cl := BF.lt
        go_wp2_with (first
          | (go_at_call 20; refine (Hld.out _ (Hb.out.up X0)).mono ?_; rintro e w1 ⟨A1, k1, rfl, hb1, E1⟩; replace c0 := E1.of_cell c0; replace c1 := E1.of_cell c1; replace c2 := E1.of_cell c2; replace c3 := E1.of_cell c3; replace c4 := E1.of_cell c4; replace c5 := E1.of_cell c5; replace cl := Nat.lt_of_lt_of_le cl E1.size)
          | (go_at_call 14; refine (Hkn.out _).mono ?_; rintro e w2 ⟨rfl, rfl⟩))
        go_ret
        exact ⟨rfl, X0.trans E1⟩
    · rw [things_run ht hr, ← words_count, (words_ends f.kind (bytesR l).flatten).1]
      rw [got_run hr] at hld
      have hnb : numberB f.kind = true := by
        unfold runP at hr
        rw [Bool.and_eq_true] at hr
        exact hr.2
      have hp : f.rep = true := by
        unfold runP at hr
        rw [Bool.and_eq_true] at hr
        exact hr.1
      rw [hnb] at hkn
      have hen := fun (W : World) (A' : Option Addr) (c' : Nat) (h : BytesAt W A' (bytesR l).flatten.length c' (bytesR l).flatten) => uEndsR h hfl hnb
      have Hkn := Lib.hid hkn
      generalize (bytesR l).flatten = G at *
      obtain ⟨GL, hGL⟩ : ∃ GL, GL = G.length := ⟨_, rfl⟩
      rw [← hGL] at hld hen
      obtain ⟨EL, hEL⟩ : ∃ EL, EL = (endsV f.kind G).1.length := ⟨_, rfl⟩
      rw [← hEL] at hen ⊢
      generalize (endsV f.kind G).2 = EC at *
      have Hld := Lib.hid hld
      have Hen := Lib.hid hen
      obtain ⟨fname, fnum, fkind, frep, fpk, fof⟩ := f
      simp only at hp Hkn Hen
      subst hp
      unfold fieldV at *
      have BF := BlkT.new w 43 #[.string fname, .int .i64 fnum, .int .i64 fkind, .bool true, .bool fpk, .int .i64 fof] rfl
      have X0 : Ext w (w.alloc (.cells #[.string fname, .int .i64 fnum, .int .i64 fkind, .bool true, .bool fpk, .int .i64 fof] 43)) := (Ext.refl w).alloc _
      clear hld hkn hen ht hGL hEL hbl hpl hr hnb
      go_enter Tryz.func21, Tryz.ntmps21
      go_upto_region 1 with fail
      generalize w.alloc (.cells #[.string fname, .int .i64 fnum, .int .i64 fkind, .bool true, .bool fpk, .int .i64 fof] 43) = wx at *
      have c0 : wx.cell? ⟨w.heap.size, 0, none⟩ = some (.string fname) := BF.cell 0
      have c1 : wx.cell? ⟨w.heap.size, 1, none⟩ = some (.int .i64 fnum) := BF.cell 1
      have c2 : wx.cell? ⟨w.heap.size, 2, none⟩ = some (.int .i64 fkind) := BF.cell 2
      have c3 : wx.cell? ⟨w.heap.size, 3, none⟩ = some (.bool true) := BF.cell 3
      have c4 : wx.cell? ⟨w.heap.size, 4, none⟩ = some (.bool fpk) := BF.cell 4
      have c5 : wx.cell? ⟨w.heap.size, 5, none⟩ = some (.int .i64 fof) := BF.cell 5
      have cl := BF.lt
      go_wp2_with (first
        | (go_at_call 20; refine (Hld.out _ (Hb.out.up X0)).mono ?_; rintro e w1 ⟨A1, k1, rfl, hb1, E1⟩; replace c0 := E1.of_cell c0; replace c1 := E1.of_cell c1; replace c2 := E1.of_cell c2; replace c3 := E1.of_cell c3; replace c4 := E1.of_cell c4; replace c5 := E1.of_cell c5; replace cl := Nat.lt_of_lt_of_le cl E1.size)
        | (go_at_call 14; refine (Hkn.out _).mono ?_; rintro e w2 ⟨rfl, rfl⟩)
        | (go_at_call 52; refine (Hen.out _ _ _ (hb1.up (by repeat with_reducible (first | exact Ext.refl _ | refine Ext.alloc ?_ _ | refine Ext.drew ?_ | refine Ext.drewN ?_ _ | refine Ext.setCell ?_ (by first | exact Nat.le_refl _ | omega | (simp; done) | (simp; omega)) _)))).mono ?_; rintro e w3 ⟨A3, k3, rfl, own3⟩))
      go_ret
      exact ⟨rfl, (X0.trans E1).trans own3.ext⟩

end Go.Proofs.YtpicpebolghcfaaGreatDoor
