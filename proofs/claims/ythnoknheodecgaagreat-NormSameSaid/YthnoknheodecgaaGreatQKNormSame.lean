/- The walk of the law NormSame, out of its callees' contracts. -/
import Derived.Test.YthnoknheodecgaaGreatQW18h
import Derived.Test.YthnoknheodecgaaGreatQW14w
import Derived.Test.YthnoknheodecgaaGreatQW11r
import Derived.Test.YthnoknheodecgaaGreatQW14r

namespace Go.Proofs.YthnoknheodecgaaGreat
open Go.RowKit
set_option linter.unusedVariables false

set_option maxRecDepth 100000 in
set_option maxHeartbeats 4000000 in
theorem normSame_walk {A : Option Addr} {n c : Nat} {S : List MsgV} {root : Int} {B D : Option Addr} {n1 c1 n2 c2 : Nat} {xs ys : List UInt8} {d : Int} {w : World} (hs : SchemaAt w A n c S) (hroot : -9223372036854775808 ≤ root ∧ root < 9223372036854775808) (ha : BytesAt w B n1 c1 xs) (sa : c1 * 1 ≤ 140737488351232) (hb : BytesAt w D n2 c2 ys) (sb : c2 * 1 ≤ 140737488351232) (hd : -9223372036854775808 ≤ d ∧ d < 9223372036854775808) :
    Calls Tryz.prog 6 #[.slice A n c, .int .i64 root, .slice B n1 c1, .slice D n2 c2, .int .i64 d] w fun e w' => e = .returned (.bool true) ∧ Ext w w' := by
  have hE := Ext.refl w
  have hcap := Reads.cap ha
  have hcap2 := Reads.cap hb
  have g1 : (n1 : Int) ≤ 140737488351232 := by omega
  have g2 : (n2 : Int) ≤ 140737488351232 := by omega
  have la := ha.length
  have lb := hb.length
  by_cases hn : (1500 : Int) < (n1 : Int) + n2
  · clear hroot hd la lb
    go_enter Tryz.func6, Tryz.ntmps6
    go_wp2_with (first | (go_at_call 27; refine (alive18 _).mono ?_; rintro e w1 ⟨rfl, E1⟩; have X_ : Ext w w1 := Ext.trans (by repeat with_reducible (first | exact Ext.refl _ | refine Ext.alloc ?_ _ | refine Ext.drew ?_ | refine Ext.drewN ?_ _ | refine Ext.setCell ?_ (by first | exact Nat.le_refl _ | omega | (simp; done) | (simp; omega)) _)) E1; replace hE := hE.up X_; replace hs := hs.up X_; clear X_) | (go_at_call 10; refine (few07 hs).mono ?_; rintro e w2 ⟨x, rfl, E2⟩; have X_ : Ext w1 w2 := Ext.trans (by repeat with_reducible (first | exact Ext.refl _ | refine Ext.alloc ?_ _ | refine Ext.drew ?_ | refine Ext.drewN ?_ _ | refine Ext.setCell ?_ (by first | exact Nat.le_refl _ | omega | (simp; done) | (simp; omega)) _)) E2; replace hE := hE.up X_; clear X_))
    all_goals
      go_ret
      exact ⟨rfl, hE⟩
  · have k1 := checkB_le (S.map MsgV.d) root xs d
    have k2 := checkB_le (S.map MsgV.d) root ys d
    have h0 := fun W (h : SchemaAt W A n c S) (ha : BytesAt W B n1 c1 xs) (hb : BytesAt W D n2 c2 ys) => nSameB (root := root) (d := d) h ha hb (by omega) (by omega)
    have h1 := fun W (h : SchemaAt W A n c S) (ha : BytesAt W B n1 c1 xs) => vCheckR (root := root) (d := d) h ha (by omega)
    have h2 := fun W (h : SchemaAt W A n c S) (hb : BytesAt W D n2 c2 ys) => vCheckR (root := root) (d := d) h hb (by omega)
    by_cases hC : (checkB (S.map MsgV.d) root xs d).2 = 0
    · by_cases hK : (checkB (S.map MsgV.d) root ys d).2 = 0
      · obtain ⟨hR, r1, r2, e1, e2, v1⟩ := checked_right hC
        obtain ⟨_, _, _, _, _, v2⟩ := checked_right hK
        obtain ⟨m, rfl⟩ := Int.eq_ofNat_of_zero_le r1
        have hm : m < S.length := by simpa using r2
        have hbc : bothC (S.map MsgV.d) (m : Int) xs ys d = 0 := by unfold bothC; rw [if_pos hC, hK]
        have hsm : decide (formB (S.map MsgV.d) (m : Int) xs d = formB (S.map MsgV.d) (m : Int) ys d) = eqB (meanB (S.map MsgV.d) m xs = meanB (S.map MsgV.d) m ys) := by
          unfold formB
          rw [if_pos hC, if_pos hK]
          have hq := norm_same hR (a := xs) (b := ys) (by simpa using hm) v1 (by omega) v2 (by omega) (by omega) (by omega)
          by_cases q : meanB (S.map MsgV.d) m xs = meanB (S.map MsgV.d) m ys
          · rw [eqB_yes q]
            exact decide_eq_true (hq.2 q)
          · rw [eqB_no q]
            exact decide_eq_false (fun r => q (hq.1 r))
        rw [hbc, hsm] at h0
        have z8 : (((0 : Nat) : Int)) = 0 := rfl
        simp only [decide_true, Bool.true_and, z8] at h0
        have h3 := fun W (h : SchemaAt W A n c S) (h2 : BytesAt W B n1 c1 xs) => rOf hR 100000 (Nat.le_refl _) W A n c m B n1 c1 xs h hm h2 (by omega)
        have h4 := fun W (h : SchemaAt W A n c S) (h2 : BytesAt W D n2 c2 ys) => rOf hR 100000 (Nat.le_refl _) W A n c m D n2 c2 ys h hm h2 (by omega)
        have hX : ofV (S.map MsgV.d) 100000 m xs = meanB (S.map MsgV.d) m xs := rfl
        have hY : ofV (S.map MsgV.d) 100000 m ys = meanB (S.map MsgV.d) m ys := rfl
        rw [hX] at h3
        rw [hY] at h4
        generalize meanB (S.map MsgV.d) m xs = X at *
        generalize meanB (S.map MsgV.d) m ys = Y at *
        generalize checkB (S.map MsgV.d) (m : Int) xs d = V at *
        generalize checkB (S.map MsgV.d) (m : Int) ys d = U at *
        obtain ⟨P, C⟩ := V
        obtain ⟨Q, K⟩ := U
        simp only at h1 h2 hC hK
        subst hC
        subst hK
        rw [z8] at h1 h2
        clear z8
        have hsme : ∀ (x y : MsgR) (W : World), bare x = X → bare y = Y → TreeAt W x → TreeAt W y → Calls Tryz.prog 13 #[treeV x, treeV y] W fun e w' => e = .returned (.bool (eqB (X = Y))) ∧ Ext W w' := fun x y W q1 q2 q3 q4 => by
          have := rSame x y W q3 q4
          rw [q1, q2] at this
          exact this
        unfold treeV at h3 h4 hsme
        have H0 := Lib.hid h0
        have H1 := Lib.hid h1
        have H2 := Lib.hid h2
        have H3 := Lib.hid h3
        have H4 := Lib.hid h4
        have Hsme := Lib.hid hsme
        clear h0 h1 h2 h3 h4 hsme hbc hsm hX hY v1 v2 r1 r2 hroot hd k1 k2
        go_enter Tryz.func6, Tryz.ntmps6
        go_wp2_with (first
          | (go_at_call 27; refine (alive18 _).mono ?_; rintro e w1 ⟨rfl, E1⟩; have X_ : Ext w w1 := Ext.trans (by repeat with_reducible (first | exact Ext.refl _ | refine Ext.alloc ?_ _ | refine Ext.drew ?_ | refine Ext.drewN ?_ _ | refine Ext.setCell ?_ (by first | exact Nat.le_refl _ | omega | (simp; done) | (simp; omega)) _)) E1; replace hE := hE.up X_; replace hs := hs.up X_; replace ha := ha.up X_; replace hb := hb.up X_; clear X_)
          | (go_at_call 10; refine (few07 hs).mono ?_; rintro e w2 ⟨x, rfl, E2⟩; have X_ : Ext w1 w2 := Ext.trans (by repeat with_reducible (first | exact Ext.refl _ | refine Ext.alloc ?_ _ | refine Ext.drew ?_ | refine Ext.drewN ?_ _ | refine Ext.setCell ?_ (by first | exact Nat.le_refl _ | omega | (simp; done) | (simp; omega)) _)) E2; replace hE := hE.up X_; replace hs := hs.up X_; replace ha := ha.up X_; replace hb := hb.up X_; clear X_)
          | (go_at_call 28; refine (H0.out _ (hs.up (by repeat with_reducible (first | exact Ext.refl _ | refine Ext.alloc ?_ _ | refine Ext.drew ?_ | refine Ext.drewN ?_ _ | refine Ext.setCell ?_ (by first | exact Nat.le_refl _ | omega | (simp; done) | (simp; omega)) _))) (ha.up (by repeat with_reducible (first | exact Ext.refl _ | refine Ext.alloc ?_ _ | refine Ext.drew ?_ | refine Ext.drewN ?_ _ | refine Ext.setCell ?_ (by first | exact Nat.le_refl _ | omega | (simp; done) | (simp; omega)) _))) (hb.up (by repeat with_reducible (first | exact Ext.refl _ | refine Ext.alloc ?_ _ | refine Ext.drew ?_ | refine Ext.drewN ?_ _ | refine Ext.setCell ?_ (by first | exact Nat.le_refl _ | omega | (simp; done) | (simp; omega)) _)))).mono ?_; rintro e w3 ⟨rfl, E3⟩; have X_ : Ext w2 w3 := Ext.trans (by repeat with_reducible (first | exact Ext.refl _ | refine Ext.alloc ?_ _ | refine Ext.drew ?_ | refine Ext.drewN ?_ _ | refine Ext.setCell ?_ (by first | exact Nat.le_refl _ | omega | (simp; done) | (simp; omega)) _)) E3; replace hE := hE.up X_; replace hs := hs.up X_; replace ha := ha.up X_; replace hb := hb.up X_; clear X_)
          | (go_at_call 12; (with_reducible refine (H1.out _ (hs.up (by repeat with_reducible (first | exact Ext.refl _ | refine Ext.alloc ?_ _ | refine Ext.drew ?_ | refine Ext.drewN ?_ _ | refine Ext.setCell ?_ (by first | exact Nat.le_refl _ | omega | (simp; done) | (simp; omega)) _))) (ha.up (by repeat with_reducible (first | exact Ext.refl _ | refine Ext.alloc ?_ _ | refine Ext.drew ?_ | refine Ext.drewN ?_ _ | refine Ext.setCell ?_ (by first | exact Nat.le_refl _ | omega | (simp; done) | (simp; omega)) _)))).mono ?_); rintro e w4 ⟨rfl, E4⟩; clear H1; have X_ : Ext w3 w4 := Ext.trans (by repeat with_reducible (first | exact Ext.refl _ | refine Ext.alloc ?_ _ | refine Ext.drew ?_ | refine Ext.drewN ?_ _ | refine Ext.setCell ?_ (by first | exact Nat.le_refl _ | omega | (simp; done) | (simp; omega)) _)) E4; replace hE := hE.up X_; replace hs := hs.up X_; replace ha := ha.up X_; replace hb := hb.up X_; clear X_)
          | (go_at_call 12; (with_reducible refine (H2.out _ (hs.up (by repeat with_reducible (first | exact Ext.refl _ | refine Ext.alloc ?_ _ | refine Ext.drew ?_ | refine Ext.drewN ?_ _ | refine Ext.setCell ?_ (by first | exact Nat.le_refl _ | omega | (simp; done) | (simp; omega)) _))) (hb.up (by repeat with_reducible (first | exact Ext.refl _ | refine Ext.alloc ?_ _ | refine Ext.drew ?_ | refine Ext.drewN ?_ _ | refine Ext.setCell ?_ (by first | exact Nat.le_refl _ | omega | (simp; done) | (simp; omega)) _)))).mono ?_); rintro e w5 ⟨rfl, E5⟩; clear H2; have X_ : Ext w4 w5 := Ext.trans (by repeat with_reducible (first | exact Ext.refl _ | refine Ext.alloc ?_ _ | refine Ext.drew ?_ | refine Ext.drewN ?_ _ | refine Ext.setCell ?_ (by first | exact Nat.le_refl _ | omega | (simp; done) | (simp; omega)) _)) E5; replace hE := hE.up X_; replace hs := hs.up X_; replace ha := ha.up X_; replace hb := hb.up X_; clear X_)
          | (go_at_call 15; (with_reducible refine (H3.out _ (hs.up (by repeat with_reducible (first | exact Ext.refl _ | refine Ext.alloc ?_ _ | refine Ext.drew ?_ | refine Ext.drewN ?_ _ | refine Ext.setCell ?_ (by first | exact Nat.le_refl _ | omega | (simp; done) | (simp; omega)) _))) (ha.up (by repeat with_reducible (first | exact Ext.refl _ | refine Ext.alloc ?_ _ | refine Ext.drew ?_ | refine Ext.drewN ?_ _ | refine Ext.setCell ?_ (by first | exact Nat.le_refl _ | omega | (simp; done) | (simp; omega)) _)))).mono ?_); rintro e w6 ⟨y, rfl, hy1, hy2, hy3, E6⟩; clear H3; have X_ : Ext w5 w6 := Ext.trans (by repeat with_reducible (first | exact Ext.refl _ | refine Ext.alloc ?_ _ | refine Ext.drew ?_ | refine Ext.drewN ?_ _ | refine Ext.setCell ?_ (by first | exact Nat.le_refl _ | omega | (simp; done) | (simp; omega)) _)) E6; replace hE := hE.up X_; replace hs := hs.up X_; replace hb := hb.up X_; clear X_)
          | (go_at_call 15; (with_reducible refine (H4.out _ (hs.up (by repeat with_reducible (first | exact Ext.refl _ | refine Ext.alloc ?_ _ | refine Ext.drew ?_ | refine Ext.drewN ?_ _ | refine Ext.setCell ?_ (by first | exact Nat.le_refl _ | omega | (simp; done) | (simp; omega)) _))) (hb.up (by repeat with_reducible (first | exact Ext.refl _ | refine Ext.alloc ?_ _ | refine Ext.drew ?_ | refine Ext.drewN ?_ _ | refine Ext.setCell ?_ (by first | exact Nat.le_refl _ | omega | (simp; done) | (simp; omega)) _)))).mono ?_); rintro e w7 ⟨z, rfl, hz1, hz2, hz3, E7⟩; clear H4; have X_ : Ext w6 w7 := Ext.trans (by repeat with_reducible (first | exact Ext.refl _ | refine Ext.alloc ?_ _ | refine Ext.drew ?_ | refine Ext.drewN ?_ _ | refine Ext.setCell ?_ (by first | exact Nat.le_refl _ | omega | (simp; done) | (simp; omega)) _)) E7; replace hE := hE.up X_; replace hy2 := hy2.up X_; clear X_)
          | (go_at_call 13; refine (Hsme.out y z _ hy1 hz1 (hy2.up (by repeat with_reducible (first | exact Ext.refl _ | refine Ext.alloc ?_ _ | refine Ext.drew ?_ | refine Ext.drewN ?_ _ | refine Ext.setCell ?_ (by first | exact Nat.le_refl _ | omega | (simp; done) | (simp; omega)) _))) (hz2.up (by repeat with_reducible (first | exact Ext.refl _ | refine Ext.alloc ?_ _ | refine Ext.drew ?_ | refine Ext.drewN ?_ _ | refine Ext.setCell ?_ (by first | exact Nat.le_refl _ | omega | (simp; done) | (simp; omega)) _)))).mono ?_; rintro e w8 ⟨rfl, E8⟩; replace hE := hE.trans (Ext.trans (by repeat with_reducible (first | exact Ext.refl _ | refine Ext.alloc ?_ _ | refine Ext.drew ?_ | refine Ext.drewN ?_ _ | refine Ext.setCell ?_ (by first | exact Nat.le_refl _ | omega | (simp; done) | (simp; omega)) _)) E8)))
        all_goals
          go_ret
          exact ⟨by simp, hE⟩
      · have hbc : bothC (S.map MsgV.d) root xs ys d = (checkB (S.map MsgV.d) root ys d).2 := by unfold bothC; rw [if_pos hC]
        rw [hbc, decide_eq_false hK] at h0
        simp only [Bool.false_and] at h0
        generalize checkB (S.map MsgV.d) root xs d = V at *
        generalize checkB (S.map MsgV.d) root ys d = U at *
        obtain ⟨P, C⟩ := V
        obtain ⟨Q, K⟩ := U
        simp only at h0 h1 h2 hC hK k1 k2
        subst hC
        have z8 : (((0 : Nat) : Int)) = 0 := rfl
        rw [z8] at h1
        clear z8
        have hKi : (K : Int) < 256 := by omega
        have hK0 : ¬ ((K : Int) = 0) := by omega
        have H0 := Lib.hid h0
        have H1 := Lib.hid h1
        have H2 := Lib.hid h2
        clear h0 h1 h2 hbc hroot hd
        go_enter Tryz.func6, Tryz.ntmps6
        go_wp2_with (first
          | (go_at_call 27; refine (alive18 _).mono ?_; rintro e w1 ⟨rfl, E1⟩; have X_ : Ext w w1 := Ext.trans (by repeat with_reducible (first | exact Ext.refl _ | refine Ext.alloc ?_ _ | refine Ext.drew ?_ | refine Ext.drewN ?_ _ | refine Ext.setCell ?_ (by first | exact Nat.le_refl _ | omega | (simp; done) | (simp; omega)) _)) E1; replace hE := hE.up X_; replace hs := hs.up X_; replace ha := ha.up X_; replace hb := hb.up X_; clear X_)
          | (go_at_call 10; refine (few07 hs).mono ?_; rintro e w2 ⟨x, rfl, E2⟩; have X_ : Ext w1 w2 := Ext.trans (by repeat with_reducible (first | exact Ext.refl _ | refine Ext.alloc ?_ _ | refine Ext.drew ?_ | refine Ext.drewN ?_ _ | refine Ext.setCell ?_ (by first | exact Nat.le_refl _ | omega | (simp; done) | (simp; omega)) _)) E2; replace hE := hE.up X_; replace hs := hs.up X_; replace ha := ha.up X_; replace hb := hb.up X_; clear X_)
          | (go_at_call 28; refine (H0.out _ (hs.up (by repeat with_reducible (first | exact Ext.refl _ | refine Ext.alloc ?_ _ | refine Ext.drew ?_ | refine Ext.drewN ?_ _ | refine Ext.setCell ?_ (by first | exact Nat.le_refl _ | omega | (simp; done) | (simp; omega)) _))) (ha.up (by repeat with_reducible (first | exact Ext.refl _ | refine Ext.alloc ?_ _ | refine Ext.drew ?_ | refine Ext.drewN ?_ _ | refine Ext.setCell ?_ (by first | exact Nat.le_refl _ | omega | (simp; done) | (simp; omega)) _))) (hb.up (by repeat with_reducible (first | exact Ext.refl _ | refine Ext.alloc ?_ _ | refine Ext.drew ?_ | refine Ext.drewN ?_ _ | refine Ext.setCell ?_ (by first | exact Nat.le_refl _ | omega | (simp; done) | (simp; omega)) _)))).mono ?_; rintro e w3 ⟨rfl, E3⟩; have X_ : Ext w2 w3 := Ext.trans (by repeat with_reducible (first | exact Ext.refl _ | refine Ext.alloc ?_ _ | refine Ext.drew ?_ | refine Ext.drewN ?_ _ | refine Ext.setCell ?_ (by first | exact Nat.le_refl _ | omega | (simp; done) | (simp; omega)) _)) E3; replace hE := hE.up X_; replace hs := hs.up X_; replace ha := ha.up X_; replace hb := hb.up X_; clear X_)
          | (go_at_call 12; (with_reducible refine (H1.out _ (hs.up (by repeat with_reducible (first | exact Ext.refl _ | refine Ext.alloc ?_ _ | refine Ext.drew ?_ | refine Ext.drewN ?_ _ | refine Ext.setCell ?_ (by first | exact Nat.le_refl _ | omega | (simp; done) | (simp; omega)) _))) (ha.up (by repeat with_reducible (first | exact Ext.refl _ | refine Ext.alloc ?_ _ | refine Ext.drew ?_ | refine Ext.drewN ?_ _ | refine Ext.setCell ?_ (by first | exact Nat.le_refl _ | omega | (simp; done) | (simp; omega)) _)))).mono ?_); rintro e w4 ⟨rfl, E4⟩; clear H1; have X_ : Ext w3 w4 := Ext.trans (by repeat with_reducible (first | exact Ext.refl _ | refine Ext.alloc ?_ _ | refine Ext.drew ?_ | refine Ext.drewN ?_ _ | refine Ext.setCell ?_ (by first | exact Nat.le_refl _ | omega | (simp; done) | (simp; omega)) _)) E4; replace hE := hE.up X_; replace hs := hs.up X_; replace ha := ha.up X_; replace hb := hb.up X_; clear X_)
          | (go_at_call 12; (with_reducible refine (H2.out _ (hs.up (by repeat with_reducible (first | exact Ext.refl _ | refine Ext.alloc ?_ _ | refine Ext.drew ?_ | refine Ext.drewN ?_ _ | refine Ext.setCell ?_ (by first | exact Nat.le_refl _ | omega | (simp; done) | (simp; omega)) _))) (hb.up (by repeat with_reducible (first | exact Ext.refl _ | refine Ext.alloc ?_ _ | refine Ext.drew ?_ | refine Ext.drewN ?_ _ | refine Ext.setCell ?_ (by first | exact Nat.le_refl _ | omega | (simp; done) | (simp; omega)) _)))).mono ?_); rintro e w5 ⟨rfl, E5⟩; clear H2; have X_ : Ext w4 w5 := Ext.trans (by repeat with_reducible (first | exact Ext.refl _ | refine Ext.alloc ?_ _ | refine Ext.drew ?_ | refine Ext.drewN ?_ _ | refine Ext.setCell ?_ (by first | exact Nat.le_refl _ | omega | (simp; done) | (simp; omega)) _)) E5; replace hE := hE.up X_; replace hs := hs.up X_; replace ha := ha.up X_; replace hb := hb.up X_; clear X_))
        all_goals
          go_ret
          exact ⟨by simp, hE⟩
    · have hbc : bothC (S.map MsgV.d) root xs ys d = (checkB (S.map MsgV.d) root xs d).2 := by unfold bothC; rw [if_neg hC]
      rw [hbc, decide_eq_false hC] at h0
      simp only [Bool.false_and] at h0
      generalize checkB (S.map MsgV.d) root xs d = V at *
      obtain ⟨P, C⟩ := V
      simp only at h0 h1 hC k1
      have hCi : (C : Int) < 256 := by omega
      have hC0 : ¬ ((C : Int) = 0) := by omega
      have H0 := Lib.hid h0
      have H1 := Lib.hid h1
      clear h0 h1 h2 hbc hroot hd
      go_enter Tryz.func6, Tryz.ntmps6
      go_wp2_with (first
        | (go_at_call 27; refine (alive18 _).mono ?_; rintro e w1 ⟨rfl, E1⟩; have X_ : Ext w w1 := Ext.trans (by repeat with_reducible (first | exact Ext.refl _ | refine Ext.alloc ?_ _ | refine Ext.drew ?_ | refine Ext.drewN ?_ _ | refine Ext.setCell ?_ (by first | exact Nat.le_refl _ | omega | (simp; done) | (simp; omega)) _)) E1; replace hE := hE.up X_; replace hs := hs.up X_; replace ha := ha.up X_; replace hb := hb.up X_; clear X_)
        | (go_at_call 10; refine (few07 hs).mono ?_; rintro e w2 ⟨x, rfl, E2⟩; have X_ : Ext w1 w2 := Ext.trans (by repeat with_reducible (first | exact Ext.refl _ | refine Ext.alloc ?_ _ | refine Ext.drew ?_ | refine Ext.drewN ?_ _ | refine Ext.setCell ?_ (by first | exact Nat.le_refl _ | omega | (simp; done) | (simp; omega)) _)) E2; replace hE := hE.up X_; replace hs := hs.up X_; replace ha := ha.up X_; replace hb := hb.up X_; clear X_)
        | (go_at_call 28; refine (H0.out _ (hs.up (by repeat with_reducible (first | exact Ext.refl _ | refine Ext.alloc ?_ _ | refine Ext.drew ?_ | refine Ext.drewN ?_ _ | refine Ext.setCell ?_ (by first | exact Nat.le_refl _ | omega | (simp; done) | (simp; omega)) _))) (ha.up (by repeat with_reducible (first | exact Ext.refl _ | refine Ext.alloc ?_ _ | refine Ext.drew ?_ | refine Ext.drewN ?_ _ | refine Ext.setCell ?_ (by first | exact Nat.le_refl _ | omega | (simp; done) | (simp; omega)) _))) (hb.up (by repeat with_reducible (first | exact Ext.refl _ | refine Ext.alloc ?_ _ | refine Ext.drew ?_ | refine Ext.drewN ?_ _ | refine Ext.setCell ?_ (by first | exact Nat.le_refl _ | omega | (simp; done) | (simp; omega)) _)))).mono ?_; rintro e w3 ⟨rfl, E3⟩; have X_ : Ext w2 w3 := Ext.trans (by repeat with_reducible (first | exact Ext.refl _ | refine Ext.alloc ?_ _ | refine Ext.drew ?_ | refine Ext.drewN ?_ _ | refine Ext.setCell ?_ (by first | exact Nat.le_refl _ | omega | (simp; done) | (simp; omega)) _)) E3; replace hE := hE.up X_; replace hs := hs.up X_; replace ha := ha.up X_; replace hb := hb.up X_; clear X_)
        | (go_at_call 12; (with_reducible refine (H1.out _ (hs.up (by repeat with_reducible (first | exact Ext.refl _ | refine Ext.alloc ?_ _ | refine Ext.drew ?_ | refine Ext.drewN ?_ _ | refine Ext.setCell ?_ (by first | exact Nat.le_refl _ | omega | (simp; done) | (simp; omega)) _))) (ha.up (by repeat with_reducible (first | exact Ext.refl _ | refine Ext.alloc ?_ _ | refine Ext.drew ?_ | refine Ext.drewN ?_ _ | refine Ext.setCell ?_ (by first | exact Nat.le_refl _ | omega | (simp; done) | (simp; omega)) _)))).mono ?_); rintro e w4 ⟨rfl, E4⟩; clear H1; have X_ : Ext w3 w4 := Ext.trans (by repeat with_reducible (first | exact Ext.refl _ | refine Ext.alloc ?_ _ | refine Ext.drew ?_ | refine Ext.drewN ?_ _ | refine Ext.setCell ?_ (by first | exact Nat.le_refl _ | omega | (simp; done) | (simp; omega)) _)) E4; replace hE := hE.up X_; replace hs := hs.up X_; replace ha := ha.up X_; replace hb := hb.up X_; clear X_))
      all_goals
        go_ret
        exact ⟨by simp, hE⟩

end Go.Proofs.YthnoknheodecgaaGreat
