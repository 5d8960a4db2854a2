/- The walk of the law MergeChain, out of its callees' contracts. -/
import Derived.Test.YtpgbhgimjpbhoaaW17b
import Derived.Test.YtpgbhgimjpbhoaaKSchemaChecks
namespace Go.Proofs.Ytpgbhgimjpbhoaa
open Go.RowKit
set_option linter.unusedVariables false

theorem mOver_bad {A B C : Option Addr} {n c n' c' m' d' : Nat} {S : List MsgV} {root d : Int} {xs ys : List UInt8} {w : World} (hs : SchemaAt w A n c S) (ha : BytesAt w B n' c' xs) (hb : BytesAt w C m' d' ys) (hl : n' + m' ≤ 1000000000) {K : Nat} (hK : twoC (S.map MsgV.d) root d xs ys = K) (h : K ≠ 0) :
    Calls Try.prog 36 #[.slice A n c, .int .i64 root, .slice B n' c', .slice C m' d', .int .i64 d] w fun e w' => e = .returned (.tuple #[.int .i64 0, .int .u8 (K : Int)]) ∧ Ext w w' := by
  obtain ⟨i, hi⟩ := (twoC_all (S.map MsgV.d) root d (A := B) (B := C) (n := n') (c := c') (m := m') (e := d') (xs := xs) (ys := ys)).2 (by rw [hK]; exact h)
  rw [hK] at hi
  have htwo := mTwo_bad hs ha hb hl hi
  have q : ((K : Int) != 0) = true := by rw [bne_iff_ne]; omega
  have Htwo := Lib.hid htwo
  clear htwo hi hK h
  go_enter Try.func36, Try.ntmps36
  go_wp2_with (go_at_call 38; refine Htwo.out.mono ?_; rintro e w1 ⟨rfl, E1⟩)
  go_ret2
  exact ⟨rfl, E1⟩

theorem merge_a : twoC [⟨⟨#[109]⟩, [⟨⟨#[97]⟩, 1, 3, false, false, 0⟩]⟩] 0 0 [8, 1] [8, 2] = 0 ∧ ((viewsV [⟨⟨#[97]⟩, 1, 3, false, false, 0⟩] [8, 1]).1.filter (overP [⟨⟨#[97]⟩, 1, 3, false, false, 0⟩] (viewsV [⟨⟨#[97]⟩, 1, 3, false, false, 0⟩] [8, 2]).1)).length = 1 := by decide +kernel

theorem alive17 (w : World) : Calls Try.prog 32 #[] w fun e w' => e = .returned (.bool true) ∧ Ext w w' := by
  have hs := schema_lit (w := w) (nm := ⟨#[109]⟩) (f := ⟨⟨#[97]⟩, 1, 3, false, false, 0⟩) (by constructor <;> decide) (by decide)
  obtain ⟨v1, v2⟩ := merge_a
  have h1 := fun (W : World) (A : Option Addr) (n c : Nat) (A' : Option Addr) (n' c' : Nat) (h : SchemaAt W A n c [⟨⟨⟨#[109]⟩, [⟨⟨#[97]⟩, 1, 3, false, false, 0⟩]⟩, A', n', c'⟩]) (B C : Option Addr) (ha : BytesAt W B 2 2 [8, 1]) (hb : BytesAt W C 2 2 [8, 2]) => mTwo_ok (root := 0) (d := 0) h ha hb (by omega) ((twoC_all _ 0 0).1 v1)
  have h2 := fun (W : World) (A : Option Addr) (n c : Nat) (A' : Option Addr) (n' c' : Nat) (h : SchemaAt W A n c [⟨⟨⟨#[109]⟩, [⟨⟨#[97]⟩, 1, 3, false, false, 0⟩]⟩, A', n', c'⟩]) (B C : Option Addr) (ha : BytesAt W B 2 2 [8, 1]) (hb : BytesAt W C 2 2 [8, 2]) => mOver_ok (m := 0) (d := 0) h ha hb (by omega) rfl v1
  rw [show ((0 : Nat) : Int) = 0 from rfl] at h2
  simp only [v2] at h2
  have Hs := Lib.hid hs
  have H1 := Lib.hid h1
  have H2 := Lib.hid h2
  clear hs h1 h2 v1 v2
  go_enter Try.func32, Try.ntmps32
  go_wp2_with fail
  refine (H1.out _ _ _ _ _ _ _ (Hs.out.up (by repeat with_reducible (first | exact Ext.refl _ | refine Ext.alloc ?_ _ | refine Ext.drew ?_ | refine Ext.drewN ?_ _ | refine Ext.setCell ?_ (by first | exact Nat.le_refl _ | omega | (simp; done) | (simp; omega)) _))) _ _ (BytesAt.up (bytes_lit _ _ _ [8, 1] 2 (by simp) (by simp [bv]) rfl (by simp [maxLen])) (Ext.alloc (Ext.refl _) _)) (bytes_lit _ _ _ [8, 2] 2 (by simp) (by simp [bv]) rfl (by simp [maxLen]))).mono ?_
  rintro e w1 ⟨A1, c1, rfl, own1⟩
  have X1 : Ext w w1 := Ext.trans (by repeat with_reducible (first | exact Ext.refl _ | refine Ext.alloc ?_ _ | refine Ext.drew ?_ | refine Ext.drewN ?_ _ | refine Ext.setCell ?_ (by first | exact Nat.le_refl _ | omega | (simp; done) | (simp; omega)) _)) own1.ext
  have Hs1 := Hs.out.up (Ext.trans (by repeat with_reducible (first | exact Ext.refl _ | refine Ext.alloc ?_ _ | refine Ext.drew ?_ | refine Ext.drewN ?_ _ | refine Ext.setCell ?_ (by first | exact Nat.le_refl _ | omega | (simp; done) | (simp; omega)) _)) own1.ext)
  go_wp2_with fail
  refine (H2.out _ _ _ _ _ _ _ (Hs1.up (by repeat with_reducible (first | exact Ext.refl _ | refine Ext.alloc ?_ _ | refine Ext.drew ?_ | refine Ext.drewN ?_ _ | refine Ext.setCell ?_ (by first | exact Nat.le_refl _ | omega | (simp; done) | (simp; omega)) _))) _ _ (BytesAt.up (bytes_lit _ _ _ [8, 1] 2 (by simp) (by simp [bv]) rfl (by simp [maxLen])) (Ext.alloc (Ext.refl _) _)) (bytes_lit _ _ _ [8, 2] 2 (by simp) (by simp [bv]) rfl (by simp [maxLen]))).mono ?_
  rintro e w2 ⟨rfl, E2⟩
  have X2 : Ext w1 w2 := Ext.trans (by repeat with_reducible (first | exact Ext.refl _ | refine Ext.alloc ?_ _ | refine Ext.drew ?_ | refine Ext.drewN ?_ _ | refine Ext.setCell ?_ (by first | exact Nat.le_refl _ | omega | (simp; done) | (simp; omega)) _)) E2
  have own2 := own1.up X2
  go_wp2_with fail
  refine (same (xs := [8, 1] ++ [8, 2]) (ys := [8, 1, 8, 2]) (own2.up (by repeat with_reducible (first | exact Ext.refl _ | refine Ext.alloc ?_ _ | refine Ext.drew ?_ | refine Ext.drewN ?_ _ | refine Ext.setCell ?_ (by first | exact Nat.le_refl _ | omega | (simp; done) | (simp; omega)) _))).bytes (bytes_lit _ _ _ [8, 1, 8, 2] 4 (by simp) (by simp [bv]) rfl (by simp [maxLen]))).mono ?_
  rintro e w3 ⟨rfl, rfl⟩
  go_wp2
  go_ret
  exact ⟨by simp, X1.trans (X2.trans (by repeat with_reducible (first | exact Ext.refl _ | refine Ext.alloc ?_ _ | refine Ext.drew ?_ | refine Ext.drewN ?_ _ | refine Ext.setCell ?_ (by first | exact Nat.le_refl _ | omega | (simp; done) | (simp; omega)) _)))⟩

/-- Three messages' rows, as a call lays them. -/
theorem brows_three {w : World} {A B C : Option Addr} {n c m d p q : Nat} {xs ys zs : List UInt8} {b : Nat} (hb0 : b = w.heap.size) (ha : BytesAt w A n c xs) (hb : BytesAt w B m d ys) (hc : BytesAt w C p q zs) :
    BRowsAt (w.alloc (.cells #[.slice A n c, .slice B m d, .slice C p q] 43)) (some ⟨b, 0, none⟩) 3 3 [⟨A, n, c, xs⟩, ⟨B, m, d, ys⟩, ⟨C, p, q, zs⟩] := by
  subst hb0
  refine ⟨(Own.made (Ext.refl w) 43 1 (cs := [.slice A n c, .slice B m d, .slice C p q]) (n := 3) (by simp [maxLen]) rfl).reads, fun r hr => ?_⟩
  simp only [List.mem_cons, List.not_mem_nil, or_false] at hr
  rcases hr with rfl | rfl | rfl
  · exact ha.ext (Ext.alloc (Ext.refl _) _)
  · exact hb.ext (Ext.alloc (Ext.refl _) _)
  · exact hc.ext (Ext.alloc (Ext.refl _) _)

theorem allC_le {S : List MsgD} {root d : Int} {l : List BRow} {i C : Nat} (h : AllC S root d l (some (i, C))) : C ≤ 12 := by
  obtain ⟨_, ⟨h, _⟩ | ⟨_, r, _, h, _⟩⟩ := h
  · have := argsV_le S root d; omega
  · have := checkB_le S root r.bs d; omega

theorem flat_three (A B D : Option Addr) (n c m d p q : Nat) (xs ys zs : List UInt8) : flatR [⟨A, n, c, xs⟩, ⟨B, m, d, ys⟩, ⟨D, p, q, zs⟩] = xs ++ ys ++ zs := by simp [flatR]

set_option maxRecDepth 100000 in
set_option maxHeartbeats 4000000 in
theorem mergeChain_walk {A : Option Addr} {n c : Nat} {S : List MsgV} {root : Int} {B C D : Option Addr} {n1 c1 n2 c2 n3 c3 : Nat} {xs ys zs : List UInt8} {d : Int} {w : World} (hs : SchemaAt w A n c S) (hroot : -9223372036854775808 ≤ root ∧ root < 9223372036854775808) (ha : BytesAt w B n1 c1 xs) (sa : c1 * 1 ≤ 140737488351232) (hb : BytesAt w C n2 c2 ys) (sb : c2 * 1 ≤ 140737488351232) (hc : BytesAt w D n3 c3 zs) (sc : c3 * 1 ≤ 140737488351232) (hd : -9223372036854775808 ≤ d ∧ d < 9223372036854775808) :
    Calls Try.prog 8 #[.slice A n c, .int .i64 root, .slice B n1 c1, .slice C n2 c2, .slice D n3 c3, .int .i64 d] w fun e w' => e = .returned (.bool true) ∧ Ext w w' := by
  have hE := Ext.refl w
  have hcap := Reads.cap ha
  have hcap2 := Reads.cap hb
  have hcap3 := Reads.cap hc
  have g1 : (n1 : Int) ≤ 140737488351232 := by omega
  have g2 : (n2 : Int) ≤ 140737488351232 := by omega
  have g3 : (n3 : Int) ≤ 140737488351232 := by omega
  have la := ha.length
  have lb := hb.length
  have lc := hc.length
  by_cases hn : (1500 : Int) < (n1 : Int) + n2 + n3
  · clear hroot hd la lb lc
    go_enter Try.func8, Try.ntmps8
    go_wp2_with (first | (go_at_call 32; refine (alive17 _).mono ?_; rintro e w1 ⟨rfl, E1⟩; have X_ : Ext w w1 := Ext.trans (by repeat with_reducible (first | exact Ext.refl _ | refine Ext.alloc ?_ _ | refine Ext.drew ?_ | refine Ext.drewN ?_ _ | refine Ext.setCell ?_ (by first | exact Nat.le_refl _ | omega | (simp; done) | (simp; omega)) _)) E1; replace hE := hE.up X_; replace hs := hs.up X_; clear X_) | (go_at_call 12; refine (few07 hs).mono ?_; rintro e w2 ⟨x, rfl, E2⟩; have X_ : Ext w1 w2 := Ext.trans (by repeat with_reducible (first | exact Ext.refl _ | refine Ext.alloc ?_ _ | refine Ext.drew ?_ | refine Ext.drewN ?_ _ | refine Ext.setCell ?_ (by first | exact Nat.le_refl _ | omega | (simp; done) | (simp; omega)) _)) E2; replace hE := hE.up X_; clear X_))
    all_goals
      go_ret
      exact ⟨rfl, hE⟩
  · obtain ⟨P, hP⟩ := allC_has (S.map MsgV.d) root d [⟨B, n1, c1, xs⟩, ⟨C, n2, c2, ys⟩, ⟨D, n3, c3, zs⟩]
    rcases P with _ | ⟨i, K⟩
    · have vx : validB (S.map MsgV.d) root xs d = true := decide_eq_true (hP.2 ⟨B, n1, c1, xs⟩ (by simp))
      have vy : validB (S.map MsgV.d) root ys d = true := decide_eq_true (hP.2 ⟨C, n2, c2, ys⟩ (by simp))
      have vz : validB (S.map MsgV.d) root zs d = true := decide_eq_true (hP.2 ⟨D, n3, c3, zs⟩ (by simp))
      have vn : validB (S.map MsgV.d) root [] d = true := by
        rcases h : validB (S.map MsgV.d) root [] d with _ | _
        · rw [valid_nil h] at vx; cases vx
        · rfl
      have vxy : validB (S.map MsgV.d) root (xs ++ ys) d = true := (valid_both vx).trans vy
      have vyz : validB (S.map MsgV.d) root (ys ++ zs) d = true := (valid_both vy).trans vz
      have h1 := fun (W : World) (h : SchemaAt W A n c S) (b : Option Addr) (hb : BRowsAt W b 3 3 [⟨B, n1, c1, xs⟩, ⟨C, n2, c2, ys⟩, ⟨D, n3, c3, zs⟩]) => mAll_ok h hb (by rw [flat_three]; simp only [List.length_append]; omega) hP
      rw [flat_three, List.length_append, List.length_append, la, lb, lc] at h1
      have t1 := fun (W : World) (h : SchemaAt W A n c S) (ha : BytesAt W B n1 c1 xs) (hb : BytesAt W C n2 c2 ys) => mTwo_ok h ha hb (by omega) ((twoC_all _ root d).1 (twoC_valid.2 ⟨vx, vy⟩))
      have t2 := fun (W : World) (h : SchemaAt W A n c S) (ha : BytesAt W C n2 c2 ys) (hb : BytesAt W D n3 c3 zs) => mTwo_ok h ha hb (by omega) ((twoC_all _ root d).1 (twoC_valid.2 ⟨vy, vz⟩))
      have t3 := fun (W : World) (A' : Option Addr) (c' : Nat) (h : SchemaAt W A n c S) (ha : BytesAt W A' (n1 + n2) c' (xs ++ ys)) (hb : BytesAt W D n3 c3 zs) => mTwo_ok h ha hb (by omega) ((twoC_all _ root d).1 (twoC_valid.2 ⟨vxy, vz⟩))
      have t4 := fun (W : World) (A' : Option Addr) (c' : Nat) (h : SchemaAt W A n c S) (ha : BytesAt W B n1 c1 xs) (hb : BytesAt W A' (n2 + n3) c' (ys ++ zs)) => mTwo_ok h ha hb (by omega) ((twoC_all _ root d).1 (twoC_valid.2 ⟨vx, vyz⟩))
      have t5 := fun (W : World) (h : SchemaAt W A n c S) (ha : BytesAt W B n1 c1 xs) => mTwo_ok h ha (BytesAt.nil W) (by omega) ((twoC_all _ root d).1 (twoC_valid.2 ⟨vx, vn⟩))
      have t6 := fun (W : World) (h : SchemaAt W A n c S) (ha : BytesAt W B n1 c1 xs) => mTwo_ok h (BytesAt.nil W) ha (by omega) ((twoC_all _ root d).1 (twoC_valid.2 ⟨vn, vx⟩))
      simp only [Nat.add_zero, List.append_nil] at t5
      simp only [Nat.zero_add, List.nil_append] at t6
      have H1 := Lib.hid h1
      have T1 := Lib.hid t1
      have T2 := Lib.hid t2
      have T3 := Lib.hid t3
      have T4 := Lib.hid t4
      have T5 := Lib.hid t5
      have T6 := Lib.hid t6
      clear h1 t1 t2 t3 t4 t5 t6 hP hroot hd la lb lc vx vy vz vn vxy vyz
      go_enter Try.func8, Try.ntmps8
      go_wp2_with (first
        | (go_at_call 32; refine (alive17 _).mono ?_; rintro e w1 ⟨rfl, E1⟩; have X_ : Ext w w1 := Ext.trans (by repeat with_reducible (first | exact Ext.refl _ | refine Ext.alloc ?_ _ | refine Ext.drew ?_ | refine Ext.drewN ?_ _ | refine Ext.setCell ?_ (by first | exact Nat.le_refl _ | omega | (simp; done) | (simp; omega)) _)) E1; replace hE := hE.up X_; replace hs := hs.up X_; replace ha := ha.up X_; replace hb := hb.up X_; replace hc := hc.up X_; clear X_)
        | (go_at_call 12; refine (few07 hs).mono ?_; rintro e w2 ⟨x, rfl, E2⟩; have X_ : Ext w1 w2 := Ext.trans (by repeat with_reducible (first | exact Ext.refl _ | refine Ext.alloc ?_ _ | refine Ext.drew ?_ | refine Ext.drewN ?_ _ | refine Ext.setCell ?_ (by first | exact Nat.le_refl _ | omega | (simp; done) | (simp; omega)) _)) E2; replace hE := hE.up X_; replace hs := hs.up X_; replace ha := ha.up X_; replace hb := hb.up X_; replace hc := hc.up X_; clear X_)
        | (go_at_call 33; refine (H1.out _ (hs.up (by repeat with_reducible (first | exact Ext.refl _ | refine Ext.alloc ?_ _ | refine Ext.drew ?_ | refine Ext.drewN ?_ _ | refine Ext.setCell ?_ (by first | exact Nat.le_refl _ | omega | (simp; done) | (simp; omega)) _))) _ (brows_three rfl ha hb hc)).mono ?_; rintro e w3 ⟨A3, d3, rfl, own3⟩; have X_ : Ext w2 w3 := Ext.trans (by repeat with_reducible (first | exact Ext.refl _ | refine Ext.alloc ?_ _ | refine Ext.drew ?_ | refine Ext.drewN ?_ _ | refine Ext.setCell ?_ (by first | exact Nat.le_refl _ | omega | (simp; done) | (simp; omega)) _)) own3.ext; replace hE := hE.up X_; replace hs := hs.up X_; replace ha := ha.up X_; replace hb := hb.up X_; replace hc := hc.up X_; clear X_)
        | (go_at_call 38; (with_reducible refine (T1.out _ hs ha hb).mono ?_); rintro e w4 ⟨A4, d4, rfl, own4⟩; have X_ : Ext w3 w4 := Ext.trans (by repeat with_reducible (first | exact Ext.refl _ | refine Ext.alloc ?_ _ | refine Ext.drew ?_ | refine Ext.drewN ?_ _ | refine Ext.setCell ?_ (by first | exact Nat.le_refl _ | omega | (simp; done) | (simp; omega)) _)) own4.ext; replace hE := hE.up X_; replace hs := hs.up X_; replace ha := ha.up X_; replace hb := hb.up X_; replace hc := hc.up X_; replace own3 := own3.up X_; clear X_; clear T1)
        | (go_at_call 38; (with_reducible refine (T2.out _ hs hb hc).mono ?_); rintro e w5 ⟨A5, d5, rfl, own5⟩; have X_ : Ext w4 w5 := Ext.trans (by repeat with_reducible (first | exact Ext.refl _ | refine Ext.alloc ?_ _ | refine Ext.drew ?_ | refine Ext.drewN ?_ _ | refine Ext.setCell ?_ (by first | exact Nat.le_refl _ | omega | (simp; done) | (simp; omega)) _)) own5.ext; replace hE := hE.up X_; replace hs := hs.up X_; replace ha := ha.up X_; replace hb := hb.up X_; replace hc := hc.up X_; replace own3 := own3.up X_; replace own4 := own4.up X_; clear X_; clear T2)
        | (go_at_call 38; (with_reducible refine (T3.out _ _ _ hs own4.bytes hc).mono ?_); rintro e w6 ⟨A6, d6, rfl, own6⟩; have X_ : Ext w5 w6 := Ext.trans (by repeat with_reducible (first | exact Ext.refl _ | refine Ext.alloc ?_ _ | refine Ext.drew ?_ | refine Ext.drewN ?_ _ | refine Ext.setCell ?_ (by first | exact Nat.le_refl _ | omega | (simp; done) | (simp; omega)) _)) own6.ext; replace hE := hE.up X_; replace hs := hs.up X_; replace ha := ha.up X_; replace hb := hb.up X_; replace hc := hc.up X_; replace own3 := own3.up X_; replace own5 := own5.up X_; clear X_; clear T3)
        | (go_at_call 38; (with_reducible refine (T4.out _ _ _ hs ha own5.bytes).mono ?_); rintro e w7 ⟨A7, d7, rfl, own7⟩; have X_ : Ext w6 w7 := Ext.trans (by repeat with_reducible (first | exact Ext.refl _ | refine Ext.alloc ?_ _ | refine Ext.drew ?_ | refine Ext.drewN ?_ _ | refine Ext.setCell ?_ (by first | exact Nat.le_refl _ | omega | (simp; done) | (simp; omega)) _)) own7.ext; replace hE := hE.up X_; replace hs := hs.up X_; replace ha := ha.up X_; replace own3 := own3.up X_; replace own6 := own6.up X_; clear X_; clear T4)
        | (go_at_call 38; (with_reducible refine (T5.out _ hs ha).mono ?_); rintro e w8 ⟨A8, d8, rfl, own8⟩; have X_ : Ext w7 w8 := Ext.trans (by repeat with_reducible (first | exact Ext.refl _ | refine Ext.alloc ?_ _ | refine Ext.drew ?_ | refine Ext.drewN ?_ _ | refine Ext.setCell ?_ (by first | exact Nat.le_refl _ | omega | (simp; done) | (simp; omega)) _)) own8.ext; replace hE := hE.up X_; replace hs := hs.up X_; replace ha := ha.up X_; replace own3 := own3.up X_; replace own6 := own6.up X_; replace own7 := own7.up X_; clear X_; clear T5)
        | (go_at_call 38; (with_reducible refine (T6.out _ hs ha).mono ?_); rintro e w9 ⟨A9, d9, rfl, own9⟩; have X_ : Ext w8 w9 := Ext.trans (by repeat with_reducible (first | exact Ext.refl _ | refine Ext.alloc ?_ _ | refine Ext.drew ?_ | refine Ext.drewN ?_ _ | refine Ext.setCell ?_ (by first | exact Nat.le_refl _ | omega | (simp; done) | (simp; omega)) _)) own9.ext; replace hE := hE.up X_; replace ha := ha.up X_; replace own3 := own3.up X_; replace own6 := own6.up X_; replace own7 := own7.up X_; replace own8 := own8.up X_; clear X_; clear T6)
        | (go_at_call 35; (with_reducible refine (same own6.bytes own3.bytes).mono ?_); rintro e w' ⟨rfl, rfl⟩; clear own6)
        | (go_at_call 35; (with_reducible refine (same own7.bytes own3.bytes).mono ?_); rintro e w' ⟨rfl, rfl⟩; clear own7)
        | (go_at_call 35; (with_reducible refine (same own8.bytes ha).mono ?_); rintro e w' ⟨rfl, rfl⟩; clear own8)
        | (go_at_call 35; (with_reducible refine (same own9.bytes ha).mono ?_); rintro e w' ⟨rfl, rfl⟩))
      all_goals
        go_ret
        exact ⟨by simp, hE⟩
    · have hK12 := allC_le hP
      have hK0 := hP.1
      have h1 := fun (W : World) (h : SchemaAt W A n c S) (b : Option Addr) (hb : BRowsAt W b 3 3 [⟨B, n1, c1, xs⟩, ⟨C, n2, c2, ys⟩, ⟨D, n3, c3, zs⟩]) => mAll_bad h hb (by rw [flat_three]; simp only [List.length_append]; omega) hP
      have q : ((K : Int) != 0) = true := by rw [bne_iff_ne]; omega
      have hKi : (K : Int) < 256 := by omega
      have H1 := Lib.hid h1
      clear h1 hP hK12 hK0 hroot hd la lb lc
      go_enter Try.func8, Try.ntmps8
      go_wp2_with (first | (go_at_call 32; refine (alive17 _).mono ?_; rintro e w1 ⟨rfl, E1⟩; have X_ : Ext w w1 := Ext.trans (by repeat with_reducible (first | exact Ext.refl _ | refine Ext.alloc ?_ _ | refine Ext.drew ?_ | refine Ext.drewN ?_ _ | refine Ext.setCell ?_ (by first | exact Nat.le_refl _ | omega | (simp; done) | (simp; omega)) _)) E1; replace hE := hE.up X_; replace hs := hs.up X_; replace ha := ha.up X_; replace hb := hb.up X_; replace hc := hc.up X_; clear X_) | (go_at_call 12; refine (few07 hs).mono ?_; rintro e w2 ⟨x, rfl, E2⟩; have X_ : Ext w1 w2 := Ext.trans (by repeat with_reducible (first | exact Ext.refl _ | refine Ext.alloc ?_ _ | refine Ext.drew ?_ | refine Ext.drewN ?_ _ | refine Ext.setCell ?_ (by first | exact Nat.le_refl _ | omega | (simp; done) | (simp; omega)) _)) E2; replace hE := hE.up X_; replace hs := hs.up X_; replace ha := ha.up X_; replace hb := hb.up X_; replace hc := hc.up X_; clear X_) | (go_at_call 33; refine (H1.out _ (hs.up (by repeat with_reducible (first | exact Ext.refl _ | refine Ext.alloc ?_ _ | refine Ext.drew ?_ | refine Ext.drewN ?_ _ | refine Ext.setCell ?_ (by first | exact Nat.le_refl _ | omega | (simp; done) | (simp; omega)) _))) _ (brows_three rfl ha hb hc)).mono ?_; rintro e w3 ⟨rfl, E3⟩; replace hE := hE.trans (Ext.trans (by repeat with_reducible (first | exact Ext.refl _ | refine Ext.alloc ?_ _ | refine Ext.drew ?_ | refine Ext.drewN ?_ _ | refine Ext.setCell ?_ (by first | exact Nat.le_refl _ | omega | (simp; done) | (simp; omega)) _)) E3)))
      all_goals
        go_ret
        exact ⟨rfl, hE⟩

end Go.Proofs.Ytpgbhgimjpbhoaa
