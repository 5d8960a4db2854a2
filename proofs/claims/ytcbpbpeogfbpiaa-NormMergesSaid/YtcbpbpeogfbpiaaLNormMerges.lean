/-
  The law darninglaw18.NormMerges returns true for every input, and every argument reads afterwards as it read before. No condition.
-/
import Derived.Test.YtcbpbpeogfbpiaaW18i
import Derived.Test.YtcbpbpeogfbpiaaS18c
import Derived.Test.YtcbpbpeogfbpiaaRows
import Derived.Test.YtcbpbpeogfbpiaaOpen
import Derived.Test.YtcbpbpeogfbpiaaOpenZ
import Derived.WalkKit
import Derived.ProofKit
import Derived.OpenShut
import Derived.ShutString
import Derived.ChangeOld
import Derived.Below
import Derived.Lib.SmallJoins
import Derived.SizedLaws

namespace Go.Proofs.Ytcbpbpeogfbpiaa
open Go.RowKit
set_option linter.unusedVariables false

theorem check_of {S : List MsgD} {root d : Int} {a b : List UInt8} (h : (checkB S root a d).2 = 0) (hb : (firstV S d.toNat root.toNat b).2 = 0) : (checkB S root b d).2 = 0 := by
  unfold checkB at h ⊢
  by_cases h0 : argsV S root d = 0
  · rw [if_pos h0]
    exact hb
  · rw [if_neg h0] at h
    exact absurd h h0

set_option maxRecDepth 100000 in
set_option maxHeartbeats 4000000 in
theorem normMerges_walk {A : Option Addr} {n c : Nat} {S : List MsgV} {root : Int} {B D : Option Addr} {n1 c1 n2 c2 : Nat} {xs ys : List UInt8} {d : Int} {w : World} (hs : SchemaAt w A n c S) (hroot : -9223372036854775808 ≤ root ∧ root < 9223372036854775808) (ha : BytesAt w B n1 c1 xs) (sa : c1 * 1 ≤ 140737488351232) (hb : BytesAt w D n2 c2 ys) (sb : c2 * 1 ≤ 140737488351232) (hd : -9223372036854775808 ≤ d ∧ d < 9223372036854775808) :
    Calls Try.prog 3 #[.slice A n c, .int .i64 root, .slice B n1 c1, .slice D n2 c2, .int .i64 d] w fun e w' => e = .returned (.bool true) ∧ Ext w w' := by
  have hE := Ext.refl w
  have hcap := Reads.cap ha
  have hcap2 := Reads.cap hb
  have g1 : (n1 : Int) ≤ 140737488351232 := by omega
  have g2 : (n2 : Int) ≤ 140737488351232 := by omega
  have la := ha.length
  have lb := hb.length
  by_cases hn : (1500 : Int) < (n1 : Int) + n2
  · clear hroot hd la lb
    go_enter Try.func3, Try.ntmps3
    go_wp2_with (first | (go_at_call 5; refine (alive18 _).mono ?_; rintro e w1 ⟨rfl, E1⟩; have X_ : Ext w w1 := Ext.trans (by repeat with_reducible (first | exact Ext.refl _ | refine Ext.alloc ?_ _ | refine Ext.drew ?_ | refine Ext.drewN ?_ _ | refine Ext.setCell ?_ (by first | exact Nat.le_refl _ | omega | (simp; done) | (simp; omega)) _)) E1; replace hE := hE.up X_; replace hs := hs.up X_; clear X_) | (go_at_call 6; refine (few07 hs).mono ?_; rintro e w2 ⟨x, rfl, E2⟩; have X_ : Ext w1 w2 := Ext.trans (by repeat with_reducible (first | exact Ext.refl _ | refine Ext.alloc ?_ _ | refine Ext.drew ?_ | refine Ext.drewN ?_ _ | refine Ext.setCell ?_ (by first | exact Nat.le_refl _ | omega | (simp; done) | (simp; omega)) _)) E2; replace hE := hE.up X_; clear X_))
    all_goals
      go_ret
      exact ⟨rfl, hE⟩
  · have k1 := checkB_le (S.map MsgV.d) root xs d
    have k2 := checkB_le (S.map MsgV.d) root ys d
    have h1 := fun W (h : SchemaAt W A n c S) (ha : BytesAt W B n1 c1 xs) => nFormB (root := root) (d := d) h ha (by omega)
    have h2 := fun W (h : SchemaAt W A n c S) (hb : BytesAt W D n2 c2 ys) => nFormB (root := root) (d := d) h hb (by omega)
    by_cases hC : (checkB (S.map MsgV.d) root xs d).2 = 0
    · by_cases hK : (checkB (S.map MsgV.d) root ys d).2 = 0
      · obtain ⟨hR, r1, r2, e1, e2, v1⟩ := checked_right hC
        obtain ⟨_, _, _, _, _, v2⟩ := checked_right hK
        have hm : root.toNat < (S.map MsgV.d).length := by simp at r2 ⊢; omega
        have hf : ∀ bs, (checkB (S.map MsgV.d) root bs d).2 = 0 → formB (S.map MsgV.d) root bs d = normB (S.map MsgV.d) root.toNat bs := fun bs h => by unfold formB; rw [if_pos h]
        have q1 := norm_valid hR hm v1 (by omega) (by omega)
        have q2 := norm_valid hR hm v2 (by omega) (by omega)
        have hv := fun (a b : List UInt8) (h : (checkB (S.map MsgV.d) root a d).2 = 0) (k : (checkB (S.map MsgV.d) root b d).2 = 0) => show (checkB (S.map MsgV.d) root (a ++ b) d).2 = 0 by
          have := valid_both (b := b) (show validB (S.map MsgV.d) root a d = true by unfold validB; exact decide_eq_true h)
          rw [show validB (S.map MsgV.d) root b d = true by unfold validB; exact decide_eq_true k] at this
          unfold validB at this
          exact of_decide_eq_true this
        have k3 := hv _ _ hC hK
        have k4 := hv _ _ (check_of hC q1) (check_of hC q2)
        have l1 := normB_small hR (m := root.toNat) (bs := xs) (by omega)
        have l2 := normB_small hR (m := root.toNat) (bs := ys) (by omega)
        have hB := norm_both hR hm v1 v2 (by omega) (by omega)
        have hL := norm_shorter hR hm v1 v2
        rw [hf _ hC, hC] at h1
        rw [hf _ hK, hK] at h2
        have h3 := fun W (A9 : Option Addr) (c9 : Nat) (h : SchemaAt W A n c S) (hb : BytesAt W A9 (n1 + n2) c9 (xs ++ ys)) => nFormB (root := root) (d := d) h hb (by omega)
        have h4 := fun W (A9 : Option Addr) (c9 : Nat) (h : SchemaAt W A n c S) (hb : BytesAt W A9 ((normB (S.map MsgV.d) root.toNat xs).length + (normB (S.map MsgV.d) root.toNat ys).length) c9 (normB (S.map MsgV.d) root.toNat xs ++ normB (S.map MsgV.d) root.toNat ys)) => nFormB (root := root) (d := d) h hb (by omega)
        rw [hf _ k3, k3] at h3
        rw [hf _ k4, k4, hB] at h4
        generalize normB (S.map MsgV.d) root.toNat (xs ++ ys) = Z at *
        generalize normB (S.map MsgV.d) root.toNat xs = X at *
        generalize normB (S.map MsgV.d) root.toNat ys = Y at *
        have l1' : X.length ≤ 48000 := by omega
        have l2' : Y.length ≤ 48000 := by omega
        clear k3 k4 hv hf q1 q2 hB l1 l2 v1 v2 hC hK
        generalize hX : X.length = xl at *
        generalize hY : Y.length = yl at *
        generalize hZ : Z.length = zl at *
        have z8 : (((0 : Nat) : Int)) = 0 := rfl
        rw [z8] at h1 h2 h3 h4
        have H1 := Lib.hid h1
        have H2 := Lib.hid h2
        have H3 := Lib.hid h3
        have H4 := Lib.hid h4
        have HX := Lib.hid hX
        have HY := Lib.hid hY
        have HZ := Lib.hid hZ
        clear h1 h2 h3 h4 hX hY hZ z8 hroot hd la lb r1 r2 e1 e2 hm
        have hLi : (zl : Int) ≤ (xl : Int) + (yl : Int) := by omega
        have hLx : (xl : Int) ≤ 48000 := by omega
        have hLy : (yl : Int) ≤ 48000 := by omega
        clear hL k1 k2
        have tokA : True := trivial
        have tokB : True := trivial
        go_enter Try.func3, Try.ntmps3
        go_wp2_with (first
          | (go_at_call 5; refine (alive18 _).mono ?_; rintro e w1 ⟨rfl, E1⟩; have X_ : Ext w w1 := Ext.trans (by repeat with_reducible (first | exact Ext.refl _ | refine Ext.alloc ?_ _ | refine Ext.drew ?_ | refine Ext.drewN ?_ _ | refine Ext.setCell ?_ (by first | exact Nat.le_refl _ | omega | (simp; done) | (simp; omega)) _)) E1; replace hE := hE.up X_; replace hs := hs.up X_; replace ha := ha.up X_; replace hb := hb.up X_; clear X_)
          | (go_at_call 6; refine (few07 hs).mono ?_; rintro e w2 ⟨x, rfl, E2⟩; have X_ : Ext w1 w2 := Ext.trans (by repeat with_reducible (first | exact Ext.refl _ | refine Ext.alloc ?_ _ | refine Ext.drew ?_ | refine Ext.drewN ?_ _ | refine Ext.setCell ?_ (by first | exact Nat.le_refl _ | omega | (simp; done) | (simp; omega)) _)) E2; replace hE := hE.up X_; replace hs := hs.up X_; replace ha := ha.up X_; replace hb := hb.up X_; clear X_)
          | (go_at_call 7; (with_reducible refine (H1.out _ (hs.up (by repeat with_reducible (first | exact Ext.refl _ | refine Ext.alloc ?_ _ | refine Ext.drew ?_ | refine Ext.drewN ?_ _ | refine Ext.setCell ?_ (by first | exact Nat.le_refl _ | omega | (simp; done) | (simp; omega)) _))) (ha.up (by repeat with_reducible (first | exact Ext.refl _ | refine Ext.alloc ?_ _ | refine Ext.drew ?_ | refine Ext.drewN ?_ _ | refine Ext.setCell ?_ (by first | exact Nat.le_refl _ | omega | (simp; done) | (simp; omega)) _)))).mono ?_); rintro e w3 ⟨A3, c3, rfl, own3⟩; clear H1; have X_ : Ext w2 w3 := Ext.trans (by repeat with_reducible (first | exact Ext.refl _ | refine Ext.alloc ?_ _ | refine Ext.drew ?_ | refine Ext.drewN ?_ _ | refine Ext.setCell ?_ (by first | exact Nat.le_refl _ | omega | (simp; done) | (simp; omega)) _)) own3.ext; replace hE := hE.up X_; replace hs := hs.up X_; replace ha := ha.up X_; replace hb := hb.up X_; clear X_)
          | (go_at_call 7; (with_reducible refine (H2.out _ (hs.up (by repeat with_reducible (first | exact Ext.refl _ | refine Ext.alloc ?_ _ | refine Ext.drew ?_ | refine Ext.drewN ?_ _ | refine Ext.setCell ?_ (by first | exact Nat.le_refl _ | omega | (simp; done) | (simp; omega)) _))) (hb.up (by repeat with_reducible (first | exact Ext.refl _ | refine Ext.alloc ?_ _ | refine Ext.drew ?_ | refine Ext.drewN ?_ _ | refine Ext.setCell ?_ (by first | exact Nat.le_refl _ | omega | (simp; done) | (simp; omega)) _)))).mono ?_); rintro e w4 ⟨A4, c4, rfl, own4⟩; clear H2; have X_ : Ext w3 w4 := Ext.trans (by repeat with_reducible (first | exact Ext.refl _ | refine Ext.alloc ?_ _ | refine Ext.drew ?_ | refine Ext.drewN ?_ _ | refine Ext.setCell ?_ (by first | exact Nat.le_refl _ | omega | (simp; done) | (simp; omega)) _)) own4.ext; replace hE := hE.up X_; replace hs := hs.up X_; replace ha := ha.up X_; replace hb := hb.up X_; replace own3 := own3.up X_; clear X_)
          | (at_builtin; have _t := tokA; refine wpList_more elemB rfl (.tmp 59) (.tmp 60) rfl rfl (Own.empty (Ext.refl _) 5 1) rfl (ha.ext ((Ext.refl _).alloc _)) (bv_one _) (by omega) (by unfold maxLen; omega) ?_; intro A6 c6 w6 own6 _; simp only [Nat.zero_add, List.nil_append] at own6; clear tokA)
          | (at_builtin; refine wpList_more elemB rfl (.tmp 61) (.tmp 62) rfl rfl own6 rfl (hb.ext own6.ext) (bv_one _) (by omega) (by unfold maxLen; omega) ?_; intro A7 c7 w7 own7 _; rw [← List.map_append] at own7; replace hE := hE.trans own7.ext; replace hs := hs.up own7.ext; replace own3 := own3.up own7.ext; replace own4 := own4.up own7.ext; clear own6)
          | (go_at_call 7; (with_reducible refine (H3.out _ _ _ (hs.up (by repeat with_reducible (first | exact Ext.refl _ | refine Ext.alloc ?_ _ | refine Ext.drew ?_ | refine Ext.drewN ?_ _ | refine Ext.setCell ?_ (by first | exact Nat.le_refl _ | omega | (simp; done) | (simp; omega)) _))) (own7.bytes.up (by repeat with_reducible (first | exact Ext.refl _ | refine Ext.alloc ?_ _ | refine Ext.drew ?_ | refine Ext.drewN ?_ _ | refine Ext.setCell ?_ (by first | exact Nat.le_refl _ | omega | (simp; done) | (simp; omega)) _)))).mono ?_); rintro e w8 ⟨A8, c8, rfl, own8⟩; clear H3; have X_ : Ext w7 w8 := Ext.trans (by repeat with_reducible (first | exact Ext.refl _ | refine Ext.alloc ?_ _ | refine Ext.drew ?_ | refine Ext.drewN ?_ _ | refine Ext.setCell ?_ (by first | exact Nat.le_refl _ | omega | (simp; done) | (simp; omega)) _)) own8.ext; replace hE := hE.up X_; replace hs := hs.up X_; replace own3 := own3.up X_; replace own4 := own4.up X_; clear X_)
          | (at_builtin; have _t := tokB; refine wpList_more elemB rfl (.tmp 71) (.tmp 72) rfl rfl (Own.empty (Ext.refl _) 5 1) rfl (own3.reads.ext ((Ext.refl _).alloc _)) (bv_one _) (by omega) (by unfold maxLen; omega) ?_; intro A9 c9 w9 own9 _; simp only [Nat.zero_add, List.nil_append] at own9; clear tokB)
          | (at_builtin; refine wpList_more elemB rfl (.tmp 73) (.tmp 74) rfl rfl own9 rfl (own4.reads.ext own9.ext) (bv_one _) (by omega) (by unfold maxLen; omega) ?_; intro A10 c10 w10 own10 _; rw [← List.map_append] at own10; replace hE := hE.trans own10.ext; replace hs := hs.up own10.ext; replace own8 := own8.up own10.ext; clear own9)
          | (go_at_call 7; (with_reducible refine (H4.out _ _ _ (hs.up (by repeat with_reducible (first | exact Ext.refl _ | refine Ext.alloc ?_ _ | refine Ext.drew ?_ | refine Ext.drewN ?_ _ | refine Ext.setCell ?_ (by first | exact Nat.le_refl _ | omega | (simp; done) | (simp; omega)) _))) (own10.bytes.up (by repeat with_reducible (first | exact Ext.refl _ | refine Ext.alloc ?_ _ | refine Ext.drew ?_ | refine Ext.drewN ?_ _ | refine Ext.setCell ?_ (by first | exact Nat.le_refl _ | omega | (simp; done) | (simp; omega)) _)))).mono ?_); rintro e w11 ⟨A11, c11, rfl, own11⟩; clear H4; have X_ : Ext w10 w11 := Ext.trans (by repeat with_reducible (first | exact Ext.refl _ | refine Ext.alloc ?_ _ | refine Ext.drew ?_ | refine Ext.drewN ?_ _ | refine Ext.setCell ?_ (by first | exact Nat.le_refl _ | omega | (simp; done) | (simp; omega)) _)) own11.ext; replace hE := hE.up X_; replace own8 := own8.up X_; clear X_)
          | (go_at_call 8; (with_reducible refine (same (own8.bytes.up (by repeat with_reducible (first | exact Ext.refl _ | refine Ext.alloc ?_ _ | refine Ext.drew ?_ | refine Ext.drewN ?_ _ | refine Ext.setCell ?_ (by first | exact Nat.le_refl _ | omega | (simp; done) | (simp; omega)) _))) (own11.bytes.up (by repeat with_reducible (first | exact Ext.refl _ | refine Ext.alloc ?_ _ | refine Ext.drew ?_ | refine Ext.drewN ?_ _ | refine Ext.setCell ?_ (by first | exact Nat.le_refl _ | omega | (simp; done) | (simp; omega)) _)))).mono ?_); rintro e w' ⟨rfl, rfl⟩))
        all_goals
          go_ret
          exact ⟨by simp, hE⟩
      · generalize formB (S.map MsgV.d) root xs d = X at *
        generalize formB (S.map MsgV.d) root ys d = Y at *
        generalize checkB (S.map MsgV.d) root ys d = U at *
        obtain ⟨Q, K⟩ := U
        simp only at h2 hK k2
        have hKi : (K : Int) < 256 := by omega
        have hK0 : ¬ ((K : Int) = 0) := by omega
        rw [hC] at h1
        have z8 : (((0 : Nat) : Int)) = 0 := rfl
        rw [z8] at h1
        clear z8
        generalize hX : X.length = xl at *
        generalize hY : Y.length = yl at *
        have H1 := Lib.hid h1
        have H2 := Lib.hid h2
        clear h1 h2 hroot hd hC hX hY k1 k2
        go_enter Try.func3, Try.ntmps3
        go_wp2_with (first
          | (go_at_call 5; refine (alive18 _).mono ?_; rintro e w1 ⟨rfl, E1⟩; have X_ : Ext w w1 := Ext.trans (by repeat with_reducible (first | exact Ext.refl _ | refine Ext.alloc ?_ _ | refine Ext.drew ?_ | refine Ext.drewN ?_ _ | refine Ext.setCell ?_ (by first | exact Nat.le_refl _ | omega | (simp; done) | (simp; omega)) _)) E1; replace hE := hE.up X_; replace hs := hs.up X_; replace ha := ha.up X_; replace hb := hb.up X_; clear X_)
          | (go_at_call 6; refine (few07 hs).mono ?_; rintro e w2 ⟨x, rfl, E2⟩; have X_ : Ext w1 w2 := Ext.trans (by repeat with_reducible (first | exact Ext.refl _ | refine Ext.alloc ?_ _ | refine Ext.drew ?_ | refine Ext.drewN ?_ _ | refine Ext.setCell ?_ (by first | exact Nat.le_refl _ | omega | (simp; done) | (simp; omega)) _)) E2; replace hE := hE.up X_; replace hs := hs.up X_; replace ha := ha.up X_; replace hb := hb.up X_; clear X_)
          | (go_at_call 7; (with_reducible refine (H1.out _ (hs.up (by repeat with_reducible (first | exact Ext.refl _ | refine Ext.alloc ?_ _ | refine Ext.drew ?_ | refine Ext.drewN ?_ _ | refine Ext.setCell ?_ (by first | exact Nat.le_refl _ | omega | (simp; done) | (simp; omega)) _))) (ha.up (by repeat with_reducible (first | exact Ext.refl _ | refine Ext.alloc ?_ _ | refine Ext.drew ?_ | refine Ext.drewN ?_ _ | refine Ext.setCell ?_ (by first | exact Nat.le_refl _ | omega | (simp; done) | (simp; omega)) _)))).mono ?_); rintro e w3 ⟨A3, c3, rfl, own3⟩; clear H1; have X_ : Ext w2 w3 := Ext.trans (by repeat with_reducible (first | exact Ext.refl _ | refine Ext.alloc ?_ _ | refine Ext.drew ?_ | refine Ext.drewN ?_ _ | refine Ext.setCell ?_ (by first | exact Nat.le_refl _ | omega | (simp; done) | (simp; omega)) _)) own3.ext; replace hE := hE.up X_; replace hs := hs.up X_; replace hb := hb.up X_; clear X_)
          | (go_at_call 7; (with_reducible refine (H2.out _ (hs.up (by repeat with_reducible (first | exact Ext.refl _ | refine Ext.alloc ?_ _ | refine Ext.drew ?_ | refine Ext.drewN ?_ _ | refine Ext.setCell ?_ (by first | exact Nat.le_refl _ | omega | (simp; done) | (simp; omega)) _))) (hb.up (by repeat with_reducible (first | exact Ext.refl _ | refine Ext.alloc ?_ _ | refine Ext.drew ?_ | refine Ext.drewN ?_ _ | refine Ext.setCell ?_ (by first | exact Nat.le_refl _ | omega | (simp; done) | (simp; omega)) _)))).mono ?_); rintro e w4 ⟨A4, c4, rfl, own4⟩; clear H2; have X_ : Ext w3 w4 := Ext.trans (by repeat with_reducible (first | exact Ext.refl _ | refine Ext.alloc ?_ _ | refine Ext.drew ?_ | refine Ext.drewN ?_ _ | refine Ext.setCell ?_ (by first | exact Nat.le_refl _ | omega | (simp; done) | (simp; omega)) _)) own4.ext; replace hE := hE.up X_; clear X_))
        all_goals
          go_ret
          exact ⟨rfl, hE⟩
    · generalize formB (S.map MsgV.d) root xs d = X at *
      generalize formB (S.map MsgV.d) root ys d = Y at *
      generalize checkB (S.map MsgV.d) root xs d = V at *
      generalize checkB (S.map MsgV.d) root ys d = U at *
      obtain ⟨P, C⟩ := V
      obtain ⟨Q, K⟩ := U
      simp only at h1 h2 hC k1 k2
      have hCi : (C : Int) < 256 := by omega
      have hKi : (K : Int) < 256 := by omega
      have hC0 : ¬ ((C : Int) = 0) := by omega
      generalize hX : X.length = xl at *
      generalize hY : Y.length = yl at *
      have H1 := Lib.hid h1
      have H2 := Lib.hid h2
      clear h1 h2 hroot hd hX hY k1 k2
      go_enter Try.func3, Try.ntmps3
      go_wp2_with (first
        | (go_at_call 5; refine (alive18 _).mono ?_; rintro e w1 ⟨rfl, E1⟩; have X_ : Ext w w1 := Ext.trans (by repeat with_reducible (first | exact Ext.refl _ | refine Ext.alloc ?_ _ | refine Ext.drew ?_ | refine Ext.drewN ?_ _ | refine Ext.setCell ?_ (by first | exact Nat.le_refl _ | omega | (simp; done) | (simp; omega)) _)) E1; replace hE := hE.up X_; replace hs := hs.up X_; replace ha := ha.up X_; replace hb := hb.up X_; clear X_)
        | (go_at_call 6; refine (few07 hs).mono ?_; rintro e w2 ⟨x, rfl, E2⟩; have X_ : Ext w1 w2 := Ext.trans (by repeat with_reducible (first | exact Ext.refl _ | refine Ext.alloc ?_ _ | refine Ext.drew ?_ | refine Ext.drewN ?_ _ | refine Ext.setCell ?_ (by first | exact Nat.le_refl _ | omega | (simp; done) | (simp; omega)) _)) E2; replace hE := hE.up X_; replace hs := hs.up X_; replace ha := ha.up X_; replace hb := hb.up X_; clear X_)
        | (go_at_call 7; (with_reducible refine (H1.out _ (hs.up (by repeat with_reducible (first | exact Ext.refl _ | refine Ext.alloc ?_ _ | refine Ext.drew ?_ | refine Ext.drewN ?_ _ | refine Ext.setCell ?_ (by first | exact Nat.le_refl _ | omega | (simp; done) | (simp; omega)) _))) (ha.up (by repeat with_reducible (first | exact Ext.refl _ | refine Ext.alloc ?_ _ | refine Ext.drew ?_ | refine Ext.drewN ?_ _ | refine Ext.setCell ?_ (by first | exact Nat.le_refl _ | omega | (simp; done) | (simp; omega)) _)))).mono ?_); rintro e w3 ⟨A3, c3, rfl, own3⟩; clear H1; have X_ : Ext w2 w3 := Ext.trans (by repeat with_reducible (first | exact Ext.refl _ | refine Ext.alloc ?_ _ | refine Ext.drew ?_ | refine Ext.drewN ?_ _ | refine Ext.setCell ?_ (by first | exact Nat.le_refl _ | omega | (simp; done) | (simp; omega)) _)) own3.ext; replace hE := hE.up X_; replace hs := hs.up X_; replace hb := hb.up X_; clear X_)
        | (go_at_call 7; (with_reducible refine (H2.out _ (hs.up (by repeat with_reducible (first | exact Ext.refl _ | refine Ext.alloc ?_ _ | refine Ext.drew ?_ | refine Ext.drewN ?_ _ | refine Ext.setCell ?_ (by first | exact Nat.le_refl _ | omega | (simp; done) | (simp; omega)) _))) (hb.up (by repeat with_reducible (first | exact Ext.refl _ | refine Ext.alloc ?_ _ | refine Ext.drew ?_ | refine Ext.drewN ?_ _ | refine Ext.setCell ?_ (by first | exact Nat.le_refl _ | omega | (simp; done) | (simp; omega)) _)))).mono ?_); rintro e w4 ⟨A4, c4, rfl, own4⟩; clear H2; have X_ : Ext w3 w4 := Ext.trans (by repeat with_reducible (first | exact Ext.refl _ | refine Ext.alloc ?_ _ | refine Ext.drew ?_ | refine Ext.drewN ?_ _ | refine Ext.setCell ?_ (by first | exact Nat.le_refl _ | omega | (simp; done) | (simp; omega)) _)) own4.ext; replace hE := hE.up X_; clear X_))
      all_goals
        go_ret
        exact ⟨rfl, hE⟩

end Go.Proofs.Ytcbpbpeogfbpiaa

namespace Go.Proofs.Ytcbpbpeogfbpiaa.normMerges
open Go.ChangeShapes Go.WideShapes Go.ChangeAt Go.RowKit Go.Joins
open Go.ChangeMaps (open_string shut_string)
set_option linter.unusedVariables false

theorem own : ownKnob Try.prog.godebug = none := by kernel_rfl

theorem laidOut : laidOutB Try.prog = true := by kernel_rfl

set_option maxRecDepth 100000 in
theorem lifted (os : Os) (started : os.Started) (H : Type) (enc : TypeId × Value → H) :
    ReturnsInHanded {} Try.checked os 3 .any (Rows.normMergesSpec.pre6 enc Try.prog Try.f3 Rows.normMergesRow.domain false) (Rows.normMergesSpec.post enc Try.prog Try.f3 false true false false) := by
  refine returnsInHanded_of_change_sized (C := Try.checked) own started (by kernel_rfl) Try.func3
    (ChangeSpec.witness6 (enc := enc) (C := Try.checked) false ⟨#[], #[.slice none 0 0, .int .i64 0, .slice none 0 0, .slice none 0 0, .int .i64 0], []⟩ 8 (by kernel_rfl) (by kernel_rfl) (by kernel_rfl) (by kernel_rfl)) ?_
  intro W base args ds gs before hval0 hW hcnd hsz0 _
  have hsz : (DataW.weightsEach Try.prog (Try.f3.params.toList ++ Rows.normMergesSpec.plain.varTypes Try.prog) (ds ++ gs)).all (· ≤ reachBytes) = true := hsz0
  clear hsz0
  have hval : ∀ (j : Nat) t v, Try.f3.params[j]? = some t → args[j]? = some v → Value.okWide Try.prog W .any base t v := hval0
  have hW' := hW
  obtain ⟨p, q, hA0, hV, rfl, hfz, hnd⟩ := hW
  have hA : DataW.TrodAll enc Try.prog W 0 (fun _ => true) true Try.f3.params.toList args.toList ds p := hA0
  rw [Try.params3] at hA hval hsz
  obtain ⟨v0, vs0, d0, ds0, p0, q0, hargs, rfl, rfl, h0, r0⟩ := trodAll_cons hA
  obtain ⟨v1, vs1, d1, ds1, p1, q1, rfl, rfl, rfl, h1, r1⟩ := trodAll_cons r0
  obtain ⟨v2, vs2, d2, ds2, p2, q2, rfl, rfl, rfl, h2, r2⟩ := trodAll_cons r1
  obtain ⟨v3, vs3, d3, ds3, p3, q3, rfl, rfl, rfl, h3, r3⟩ := trodAll_cons r2
  obtain ⟨v4, vs4, d4, ds4, p4, q4, rfl, rfl, rfl, h4, r4⟩ := trodAll_cons r3
  obtain ⟨rfl, rfl, rfl⟩ := trodAll_nil r4
  obtain rfl : args = #[v0, v1, v2, v3, v4] := by cases args; simp_all
  obtain ⟨rfl, rfl⟩ := trodVars_none hV
  obtain ⟨a0, len0, cap0, rfl⟩ := okWide_slice Try.underlying23 (hval 0 23 v0 rfl rfl)
  have k0 := h0
  have lt0 : ∀ x ∈ p0, x.block < W.heap.size := by obtain ⟨m, hm⟩ := k0; exact DataW.trod_lt m _ _ _ hm
  obtain ⟨l0, w0, s0, S0⟩ : ∃ l, SchemaAt W a0 len0 cap0 l ∧ (∀ m ∈ l, m.c ≤ 2932031007317) ∧ cap0 ≤ 3518437208780 := by
    obtain ⟨fuel, hf⟩ := h0
    obtain ⟨A, n, c, l, e, hs, hs2, hs3⟩ := open_schema_sized (v := .slice a0 len0 cap0) (tf := 51) Try.underlying23 Try.underlying53 (by kernel_rfl) (by kernel_rfl) Try.underlying9 rfl Try.underlying51 Try.underlying50 (by kernel_rfl) (by kernel_rfl) Try.underlying9 Try.underlying3 Try.underlying3 Try.underlying4 Try.underlying4 Try.underlying3 (by kernel_rfl) (by kernel_rfl) (fun n hn => by simpa using List.all_eq_true.1 hsz _ (DataW.weights_mem_each (j := 0) (t := 23) rfl rfl n hn)) hf
    cases e
    exact ⟨l, hs, hs2, hs3⟩
  obtain ⟨a1, rfl, rfl, rfl, w1⟩ := open_int Try.underlying3 (hval 1 3 v1 rfl rfl) h1
  have b1 : -9223372036854775808 ≤ a1 ∧ a1 < 9223372036854775808 := by simp [Lit.wf, IntKind.min, IntKind.max, IntKind.signed, IntKind.bits] at w1; omega
  obtain ⟨a2, len2, cap2, rfl⟩ := okWide_slice Try.underlying24 (hval 2 24 v2 rfl rfl)
  have k2 := h2
  have lt2 : ∀ x ∈ p2, x.block < W.heap.size := by obtain ⟨m, hm⟩ := k2; exact DataW.trod_lt m _ _ _ hm
  obtain ⟨z2, w2, s2⟩ : ∃ bs, BytesAt W a2 len2 cap2 bs ∧ cap2 * 1 ≤ 140737488351232 := by
    obtain ⟨fuel, hf⟩ := h2
    rcases open_ints Try.underlying24 Try.underlying5 (by kernel_rfl) hf with ⟨hcs, _⟩ | ⟨x, l, c, zs, hcs, _, hl, hm, hz, hx, hcell, hwz⟩
    · simp [Value.cells] at hcs
      obtain ⟨rfl, rfl, rfl⟩ := hcs
      exact ⟨[], bytes_nil W, by omega⟩
    · simp [Value.cells] at hcs
      obtain ⟨rfl, rfl, rfl⟩ := hcs
      have hs := sized_slice hsz (j := 2) (t := 24) rfl (congrArg some (Prod.mk.inj hx).1) Try.underlying24
      rw [show Try.prog.bytesOf 5 = 1 from by kernel_rfl] at hs
      have hz2 : zs.length = cap2 := by simpa using hz
      simp [lits, List.length_take, List.length_drop, hz2, reachBytes] at hs
      exact ⟨_, bytes_of_ints hl hm (by simpa using hz) hcell hwz, by omega⟩
  obtain ⟨a3, len3, cap3, rfl⟩ := okWide_slice Try.underlying24 (hval 3 24 v3 rfl rfl)
  have k3 := h3
  have lt3 : ∀ x ∈ p3, x.block < W.heap.size := by obtain ⟨m, hm⟩ := k3; exact DataW.trod_lt m _ _ _ hm
  obtain ⟨z3, w3, s3⟩ : ∃ bs, BytesAt W a3 len3 cap3 bs ∧ cap3 * 1 ≤ 140737488351232 := by
    obtain ⟨fuel, hf⟩ := h3
    rcases open_ints Try.underlying24 Try.underlying5 (by kernel_rfl) hf with ⟨hcs, _⟩ | ⟨x, l, c, zs, hcs, _, hl, hm, hz, hx, hcell, hwz⟩
    · simp [Value.cells] at hcs
      obtain ⟨rfl, rfl, rfl⟩ := hcs
      exact ⟨[], bytes_nil W, by omega⟩
    · simp [Value.cells] at hcs
      obtain ⟨rfl, rfl, rfl⟩ := hcs
      have hs := sized_slice hsz (j := 3) (t := 24) rfl (congrArg some (Prod.mk.inj hx).1) Try.underlying24
      rw [show Try.prog.bytesOf 5 = 1 from by kernel_rfl] at hs
      have hz2 : zs.length = cap3 := by simpa using hz
      simp [lits, List.length_take, List.length_drop, hz2, reachBytes] at hs
      exact ⟨_, bytes_of_ints hl hm (by simpa using hz) hcell hwz, by omega⟩
  obtain ⟨a4, rfl, rfl, rfl, w4⟩ := open_int Try.underlying3 (hval 4 3 v4 rfl rfl) h4
  have b4 : -9223372036854775808 ≤ a4 ∧ a4 < 9223372036854775808 := by simp [Lit.wf, IntKind.min, IntKind.max, IntKind.signed, IntKind.bits] at w4; omega
  clear hA0 hval0
  refine (normMerges_walk (w := W) w0 b1 w2 s2 w3 s3 b4).mono fun e W' ⟨he, bel⟩ => ?_
  subst he
  exact ⟨_, rfl, _, _, _, [], _, [], hW', trodAll_mk1 (shut_bool Try.underlying4 _), (trodAll_cons_mk (Below.trod laidOut (by kernel_rfl) (of_decide_eq_true (by kernel_rfl)) k0 bel lt0) (trodAll_cons_mk (shut_int Try.underlying3 w1) (trodAll_cons_mk (Below.trod laidOut (by kernel_rfl) (of_decide_eq_true (by kernel_rfl)) k2 bel lt2) (trodAll_cons_mk (Below.trod laidOut (by kernel_rfl) (of_decide_eq_true (by kernel_rfl)) k3 bel lt3) (trodAll_cons_mk (shut_int Try.underlying3 w4) trodAll_mk0))))), rfl, Below.frame bel _, fun h => by cases h⟩

theorem over : Rows.normMergesRow.holds Try.pinned (OpenSpec.ofChange Rows.normMergesSpec) :=
  OpenClaim.holds_of_wide 3 Try.f3 rfl rfl rfl rfl rfl rfl rfl ⟨rfl, rfl, rfl, rfl, rfl⟩ rfl rfl rfl rfl rfl (by kernel_rfl) Try.func3 (by kernel_rfl)
    (of_decide_eq_true (by kernel_rfl)) (by unfold Func.isWrapper; first | (rw [if_pos (by decide +kernel)]; kernel_rfl) | (rw [if_neg (by decide +kernel)]; exact ⟨rfl, rfl⟩))
    (fun os started H enc _ => lifted os started H enc)

theorem proved : Rows.NormMergesSaid := over

#print axioms proved

end Go.Proofs.Ytcbpbpeogfbpiaa.normMerges
