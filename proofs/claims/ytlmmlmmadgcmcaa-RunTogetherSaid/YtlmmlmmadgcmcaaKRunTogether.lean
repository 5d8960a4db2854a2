/- The walk of the law RunTogether, out of its callees' contracts. -/
import Derived.Test.YtlmmlmmadgcmcaaKRunCuts
import Derived.Test.YtlmmlmmadgcmcaaSA
namespace Go.Proofs.Ytlmmlmmadgcmcaa
open Go.RowKit
set_option linter.unusedVariables false

theorem wordsV_append {k : Int} {a b : List UInt8} (ha : codeV k a = 0) (hb : codeV k b = 0) : (wordsV k (a ++ b)).1 = (wordsV k a).1 ++ (wordsV k b).1 := by
  unfold wordsV
  rw [codeV_append ha, if_pos ha, if_pos hb, if_pos hb, valsV_append ha, List.map_append]

set_option maxRecDepth 100000 in
set_option maxHeartbeats 2000000 in
theorem runTogether_walk_bad {k : Int} {A B : Option Addr} {n c m d : Nat} {xs ys : List UInt8} {w : World} (ha : BytesAt w A n c xs) (hb : BytesAt w B m d ys) (hn : ¬ (2000 : Int) < (n : Int) + m) (h0 : codeV k xs ≠ 0 ∨ codeV k ys ≠ 0) :
    Calls Try.prog 10 #[.int .i64 k, .slice A n c, .slice B m d] w fun e w' => e = .returned (.bool true) ∧ Ext w w' := by
  have hE := Ext.refl w
  have la := ha.length
  have lb := hb.length
  have n1 : (n : Int) ≤ 2000 := by omega
  have n2 : (m : Int) ≤ 2000 := by omega
  have hw1 := fun W (h : BytesAt W A n c xs) => uWords (k := k) h (by omega)
  have hw2 := fun W (h : BytesAt W B m d ys) => uWords (k := k) h (by omega)
  have hw3 := fun W A' c' (h : BytesAt W A' (n + m) c' (xs ++ ys)) => uWords (k := k) h (by omega)
  have e1 : (wordsV k xs).2 = codeV k xs := rfl
  have e2 : (wordsV k ys).2 = codeV k ys := rfl
  have e3 : (wordsV k (xs ++ ys)).2 = codeV k (xs ++ ys) := rfl
  rw [e1] at hw1
  rw [e2] at hw2
  rw [e3] at hw3
  have k1 := codeV_le k xs
  have k2 := codeV_le k ys
  have k3 := codeV_le k (xs ++ ys)
  have hj : codeV k xs = 0 → codeV k (xs ++ ys) ≠ 0 := fun h => by
    rw [codeV_append h]
    rcases h0 with h0 | h0
    · exact absurd h h0
    · exact h0
  have c1 : (codeV k xs : Int) < 256 := by omega
  have c2 : (codeV k ys : Int) < 256 := by omega
  have c3 : (codeV k (xs ++ ys) : Int) < 256 := by omega
  generalize wordsV k xs = U1 at *
  generalize wordsV k ys = U2 at *
  generalize wordsV k (xs ++ ys) = U3 at *
  generalize codeV k xs = C1 at *
  generalize codeV k ys = C2 at *
  generalize codeV k (xs ++ ys) = C3 at *
  have H1 := Lib.hid hw1
  have H2 := Lib.hid hw2
  have H3 := Lib.hid hw3
  clear hw1 hw2 hw3 e1 e2 e3 la lb k1 k2 k3
  have tokA : True := trivial
  by_cases g1 : C1 = 0
  · have g2 : C2 ≠ 0 := by
      rcases h0 with h | h
      · exact absurd g1 h
      · exact h
    have g3 := hj g1
    subst g1
    have q2 : ((C2 : Int) != 0) = true := by rw [bne_iff_ne]; omega
    have q3 : ((C3 : Int) != 0) = true := by rw [bne_iff_ne]; omega
    clear h0 hj g2 g3
    go_enter Try.func10, Try.ntmps10
    go_wp2_with (first
            | (go_at_call 41; refine (alive09 _).mono ?_; rintro e w1 ⟨rfl, E1⟩; have X_ : Ext w w1 := Ext.trans (by repeat with_reducible (first | exact Ext.refl _ | refine Ext.alloc ?_ _ | refine Ext.drew ?_ | refine Ext.drewN ?_ _ | refine Ext.setCell ?_ (by first | exact Nat.le_refl _ | omega | (simp; done) | (simp; omega)) _)) E1; replace hE := hE.up X_; replace ha := ha.up X_; replace hb := hb.up X_; clear X_) | (go_at_call 44; (with_reducible refine (H1.out _ ha).mono ?_); rintro e w2 ⟨A2, c2, rfl, own2⟩; have X_ : Ext w1 w2 := Ext.trans (by repeat with_reducible (first | exact Ext.refl _ | refine Ext.alloc ?_ _ | refine Ext.drew ?_ | refine Ext.drewN ?_ _ | refine Ext.setCell ?_ (by first | exact Nat.le_refl _ | omega | (simp; done) | (simp; omega)) _)) own2.ext; replace hE := hE.up X_; replace hb := hb.up X_; replace ha := ha.up X_; clear X_; clear H1) | (go_at_call 44; (with_reducible refine (H2.out _ hb).mono ?_); rintro e w3 ⟨A3, c3, rfl, own3⟩; have X_ : Ext w2 w3 := Ext.trans (by repeat with_reducible (first | exact Ext.refl _ | refine Ext.alloc ?_ _ | refine Ext.drew ?_ | refine Ext.drewN ?_ _ | refine Ext.setCell ?_ (by first | exact Nat.le_refl _ | omega | (simp; done) | (simp; omega)) _)) own3.ext; replace hE := hE.up X_; replace ha := ha.up X_; replace hb := hb.up X_; clear X_; clear H2) | (go_at_call 44; (with_reducible refine (H3.out _ _ _ own7.bytes).mono ?_); rintro e w8 ⟨A4, c4, rfl, own4⟩; have X_ : Ext w7 w8 := Ext.trans (by repeat with_reducible (first | exact Ext.refl _ | refine Ext.alloc ?_ _ | refine Ext.drew ?_ | refine Ext.drewN ?_ _ | refine Ext.setCell ?_ (by first | exact Nat.le_refl _ | omega | (simp; done) | (simp; omega)) _)) own4.ext; replace hE := hE.up X_; clear X_; clear H3)
            | (at_builtin; have _t := tokA; refine wpList_more elemB rfl (.tmp 37) (.tmp 38) rfl rfl (Own.empty (Ext.refl _) 5 1) rfl (ha.ext ((Ext.refl _).alloc _)) (bv_one _) (by omega) (by unfold maxLen; omega) ?_; intro A6 c6 w6 own6 _; simp only [Nat.zero_add, List.nil_append] at own6; clear tokA)
            | (at_builtin; refine wpList_more elemB rfl (.tmp 39) (.tmp 40) rfl rfl own6 rfl (hb.ext own6.ext) (bv_one _) (by omega) (by unfold maxLen; omega) ?_; intro A7 c7 w7 own7 _; rw [← List.map_append] at own7; replace hE := hE.trans own7.ext))
    go_ret
    exact ⟨rfl, hE⟩
  · have q1 : ((C1 : Int) != 0) = true := by rw [bne_iff_ne]; omega
    clear h0 hj g1
    go_enter Try.func10, Try.ntmps10
    go_wp2_with (first
            | (go_at_call 41; refine (alive09 _).mono ?_; rintro e w1 ⟨rfl, E1⟩; have X_ : Ext w w1 := Ext.trans (by repeat with_reducible (first | exact Ext.refl _ | refine Ext.alloc ?_ _ | refine Ext.drew ?_ | refine Ext.drewN ?_ _ | refine Ext.setCell ?_ (by first | exact Nat.le_refl _ | omega | (simp; done) | (simp; omega)) _)) E1; replace hE := hE.up X_; replace ha := ha.up X_; replace hb := hb.up X_; clear X_) | (go_at_call 44; (with_reducible refine (H1.out _ ha).mono ?_); rintro e w2 ⟨A2, c2, rfl, own2⟩; have X_ : Ext w1 w2 := Ext.trans (by repeat with_reducible (first | exact Ext.refl _ | refine Ext.alloc ?_ _ | refine Ext.drew ?_ | refine Ext.drewN ?_ _ | refine Ext.setCell ?_ (by first | exact Nat.le_refl _ | omega | (simp; done) | (simp; omega)) _)) own2.ext; replace hE := hE.up X_; replace hb := hb.up X_; replace ha := ha.up X_; clear X_; clear H1) | (go_at_call 44; (with_reducible refine (H2.out _ hb).mono ?_); rintro e w3 ⟨A3, c3, rfl, own3⟩; have X_ : Ext w2 w3 := Ext.trans (by repeat with_reducible (first | exact Ext.refl _ | refine Ext.alloc ?_ _ | refine Ext.drew ?_ | refine Ext.drewN ?_ _ | refine Ext.setCell ?_ (by first | exact Nat.le_refl _ | omega | (simp; done) | (simp; omega)) _)) own3.ext; replace hE := hE.up X_; replace ha := ha.up X_; replace hb := hb.up X_; clear X_; clear H2) | (go_at_call 44; (with_reducible refine (H3.out _ _ _ own7.bytes).mono ?_); rintro e w8 ⟨A4, c4, rfl, own4⟩; have X_ : Ext w7 w8 := Ext.trans (by repeat with_reducible (first | exact Ext.refl _ | refine Ext.alloc ?_ _ | refine Ext.drew ?_ | refine Ext.drewN ?_ _ | refine Ext.setCell ?_ (by first | exact Nat.le_refl _ | omega | (simp; done) | (simp; omega)) _)) own4.ext; replace hE := hE.up X_; clear X_; clear H3)
            | (at_builtin; have _t := tokA; refine wpList_more elemB rfl (.tmp 37) (.tmp 38) rfl rfl (Own.empty (Ext.refl _) 5 1) rfl (ha.ext ((Ext.refl _).alloc _)) (bv_one _) (by omega) (by unfold maxLen; omega) ?_; intro A6 c6 w6 own6 _; simp only [Nat.zero_add, List.nil_append] at own6; clear tokA)
            | (at_builtin; refine wpList_more elemB rfl (.tmp 39) (.tmp 40) rfl rfl own6 rfl (hb.ext own6.ext) (bv_one _) (by omega) (by unfold maxLen; omega) ?_; intro A7 c7 w7 own7 _; rw [← List.map_append] at own7; replace hE := hE.trans own7.ext))
    go_ret
    exact ⟨rfl, hE⟩

set_option maxRecDepth 100000 in
set_option maxHeartbeats 2000000 in
theorem runTogether_walk_ok {k : Int} {A B : Option Addr} {n c m d : Nat} {xs ys : List UInt8} {w : World} (ha : BytesAt w A n c xs) (hb : BytesAt w B m d ys) (hn : ¬ (2000 : Int) < (n : Int) + m) (h1 : codeV k xs = 0) (h2 : codeV k ys = 0) :
    Calls Try.prog 10 #[.int .i64 k, .slice A n c, .slice B m d] w fun e w' => e = .returned (.bool true) ∧ Ext w w' := by
  have hE := Ext.refl w
  have la := ha.length
  have lb := hb.length
  have n1 : (n : Int) ≤ 2000 := by omega
  have n2 : (m : Int) ≤ 2000 := by omega
  have h3 : codeV k (xs ++ ys) = 0 := by rw [codeV_append h1]; exact h2
  have lx : (wordsV k xs).1.length = (valsV k xs).length := by unfold wordsV; rw [if_pos h1, List.length_map]
  have l1 : (wordsV k xs).1.length ≤ 2001 := by rw [lx]; have := valsV_len k xs; omega
  have l2 : (wordsV k ys).1.length ≤ 2001 := by have := valsV_len k ys; unfold wordsV; rw [if_pos h2, List.length_map]; omega
  have hcut : ∀ W A' c' (h : BytesAt W A' (n + m) c' (xs ++ ys)), Calls Try.prog 42 #[.int .i64 k, .slice A' (n + m) c', .int .i64 ((wordsV k xs).1.length : Int)] W fun e w' => ∃ A1 c1 A2 c2, e = .returned (.tuple #[.slice A1 n c1, .slice A2 m c2, .int .u8 0]) ∧ Own W w' 5 1 A1 n c1 (xs.map bv) ∧ Own W w' 5 1 A2 m c2 (ys.map bv) := by
    intro W A' c' h
    have := uCut_ok (k := k) (q := (wordsV k xs).1.length) h (by omega) h3 (by rw [lx, valsV_append h1, List.length_append]; omega) (s := n) (by rw [lx, cut_append h1, la])
    have e1 : (xs ++ ys).take n = xs := by rw [← la]; exact List.take_left
    have e2 : (xs ++ ys).drop n = ys := by rw [← la]; exact List.drop_left
    rw [Nat.add_sub_cancel_left, e1, e2] at this
    exact this
  have hw1 := fun W (h : BytesAt W A n c xs) => uWords (k := k) h (by omega)
  have hw2 := fun W (h : BytesAt W B m d ys) => uWords (k := k) h (by omega)
  have hw3 := fun W A' c' (h : BytesAt W A' (n + m) c' (xs ++ ys)) => uWords (k := k) h (by omega)
  have e1 : (wordsV k xs).2 = 0 := h1
  have e2 : (wordsV k ys).2 = 0 := h2
  have e3 : (wordsV k (xs ++ ys)).2 = 0 := h3
  rw [e1] at hw1
  rw [e2] at hw2
  rw [e3, wordsV_append h1 h2, List.length_append] at hw3
  generalize (wordsV k xs).1 = U1 at *
  generalize (wordsV k ys).1 = U2 at *
  have H1 := Lib.hid hw1
  have H2 := Lib.hid hw2
  have H3 := Lib.hid hw3
  have Hc := Lib.hid hcut
  have n3 : (U1.length : Int) ≤ 2001 := by omega
  clear hw1 hw2 hw3 e1 e2 e3 la lb hcut lx h1 h2 h3
  have tokA : True := trivial
  have tokB : True := trivial
  go_enter Try.func10, Try.ntmps10
  go_wp2_with (first
            | (go_at_call 41; refine (alive09 _).mono ?_; rintro e w1 ⟨rfl, E1⟩; have X_ : Ext w w1 := Ext.trans (by repeat with_reducible (first | exact Ext.refl _ | refine Ext.alloc ?_ _ | refine Ext.drew ?_ | refine Ext.drewN ?_ _ | refine Ext.setCell ?_ (by first | exact Nat.le_refl _ | omega | (simp; done) | (simp; omega)) _)) E1; replace hE := hE.up X_; replace ha := ha.up X_; replace hb := hb.up X_; clear X_) | (go_at_call 44; (with_reducible refine (H1.out _ ha).mono ?_); rintro e w2 ⟨A2, c2, rfl, own2⟩; have X_ : Ext w1 w2 := Ext.trans (by repeat with_reducible (first | exact Ext.refl _ | refine Ext.alloc ?_ _ | refine Ext.drew ?_ | refine Ext.drewN ?_ _ | refine Ext.setCell ?_ (by first | exact Nat.le_refl _ | omega | (simp; done) | (simp; omega)) _)) own2.ext; replace hE := hE.up X_; replace hb := hb.up X_; replace ha := ha.up X_; clear X_; clear H1) | (go_at_call 44; (with_reducible refine (H2.out _ hb).mono ?_); rintro e w3 ⟨A3, c3, rfl, own3⟩; have X_ : Ext w2 w3 := Ext.trans (by repeat with_reducible (first | exact Ext.refl _ | refine Ext.alloc ?_ _ | refine Ext.drew ?_ | refine Ext.drewN ?_ _ | refine Ext.setCell ?_ (by first | exact Nat.le_refl _ | omega | (simp; done) | (simp; omega)) _)) own3.ext; replace hE := hE.up X_; replace ha := ha.up X_; replace hb := hb.up X_; replace own2 := own2.up X_; clear X_; clear H2) | (go_at_call 44; (with_reducible refine (H3.out _ _ _ own7.bytes).mono ?_); rintro e w8 ⟨A4, c4, rfl, own4⟩; have X_ : Ext w7 w8 := Ext.trans (by repeat with_reducible (first | exact Ext.refl _ | refine Ext.alloc ?_ _ | refine Ext.drew ?_ | refine Ext.drewN ?_ _ | refine Ext.setCell ?_ (by first | exact Nat.le_refl _ | omega | (simp; done) | (simp; omega)) _)) own4.ext; replace hE := hE.up X_; replace own7 := own7.up X_; replace own2 := own2.up X_; replace own3 := own3.up X_; replace ha := ha.up X_; replace hb := hb.up X_; clear X_; clear H3)
            | (at_builtin; have _t := tokA; refine wpList_more elemB rfl (.tmp 37) (.tmp 38) rfl rfl (Own.empty (Ext.refl _) 5 1) rfl (ha.ext ((Ext.refl _).alloc _)) (bv_one _) (by omega) (by unfold maxLen; omega) ?_; intro A6 c6 w6 own6 _; simp only [Nat.zero_add, List.nil_append] at own6; clear tokA)
            | (at_builtin; refine wpList_more elemB rfl (.tmp 39) (.tmp 40) rfl rfl own6 rfl (hb.ext own6.ext) (bv_one _) (by omega) (by unfold maxLen; omega) ?_; intro A7 c7 w7 own7 _; rw [← List.map_append] at own7; replace hE := hE.trans own7.ext; replace own2 := own2.up own7.ext; replace own3 := own3.up own7.ext; replace ha := ha.up own7.ext; replace hb := hb.up own7.ext)
            | (at_builtin; have _t := tokB; refine wpList_more elemU rfl (.tmp 69) (.tmp 70) rfl rfl (Own.empty (Ext.refl _) 64 1) rfl (own2.reads.ext ((Ext.refl _).alloc _)) (uv_one _) (by omega) (by unfold maxLen; omega) ?_; intro A9 c9 w9 own9 _; simp only [Nat.zero_add, List.nil_append] at own9; clear tokB)
            | (at_builtin; refine wpList_more elemU rfl (.tmp 71) (.tmp 72) rfl rfl own9 rfl (own3.reads.ext own9.ext) (uv_one _) (by omega) (by unfold maxLen; omega) ?_; intro A10 c10 w10 own10 _; rw [← List.map_append] at own10; replace hE := hE.trans own10.ext; replace own7 := own7.up own10.ext; replace own4 := own4.up own10.ext; replace ha := ha.up own10.ext; replace hb := hb.up own10.ext; clear own9 own2 own3)
            | (go_at_call 45; refine (sameU (xs := U1 ++ U2) (ys := U1 ++ U2) own4.reads own10.reads (by omega)).mono ?_; rintro e w11 ⟨rfl, E11⟩; have X_ : Ext w10 w11 := Ext.trans (by repeat with_reducible (first | exact Ext.refl _ | refine Ext.alloc ?_ _ | refine Ext.drew ?_ | refine Ext.drewN ?_ _ | refine Ext.setCell ?_ (by first | exact Nat.le_refl _ | omega | (simp; done) | (simp; omega)) _)) E11; replace hE := hE.up X_; replace own7 := own7.up X_; replace ha := ha.up X_; replace hb := hb.up X_; clear X_)
            | (go_at_call 42; refine (Hc.out _ _ _ own7.bytes).mono ?_; rintro e w12 ⟨A12, c12, A13, c13, rfl, own12, own13⟩; have X_ : Ext w11 w12 := Ext.trans (by repeat with_reducible (first | exact Ext.refl _ | refine Ext.alloc ?_ _ | refine Ext.drew ?_ | refine Ext.drewN ?_ _ | refine Ext.setCell ?_ (by first | exact Nat.le_refl _ | omega | (simp; done) | (simp; omega)) _)) own12.ext; replace hE := hE.up X_; replace ha := ha.up X_; replace hb := hb.up X_; clear X_)
            | (go_at_call 35; (with_reducible refine (same own12.bytes ha).mono ?_); rintro e w' ⟨rfl, rfl⟩; clear own12)
            | (go_at_call 35; (with_reducible refine (same own13.bytes hb).mono ?_); rintro e w' ⟨rfl, rfl⟩))
  go_ret
  exact ⟨by simp, hE⟩

theorem runTogether_walk {k : Int} {A B : Option Addr} {n c m d : Nat} {xs ys : List UInt8} {w : World} (hk : -9223372036854775808 ≤ k ∧ k < 9223372036854775808) (ha : BytesAt w A n c xs) (sa : c * 1 ≤ 140737488351232) (hb : BytesAt w B m d ys) (sb : d * 1 ≤ 140737488351232) :
    Calls Try.prog 10 #[.int .i64 k, .slice A n c, .slice B m d] w fun e w' => e = .returned (.bool true) ∧ Ext w w' := by
  by_cases hn : (2000 : Int) < (n : Int) + m
  · have hE := Ext.refl w
    have hcap := Reads.cap ha
    have hcap2 := Reads.cap hb
    have n1 : (n : Int) ≤ 140737488351232 := by omega
    have n2 : (m : Int) ≤ 140737488351232 := by omega
    clear hk
    go_enter Try.func10, Try.ntmps10
    go_wp2_with (go_at_call 41; refine (alive09 _).mono ?_; rintro e w1 ⟨rfl, E1⟩; have X_ : Ext w w1 := Ext.trans (by repeat with_reducible (first | exact Ext.refl _ | refine Ext.alloc ?_ _ | refine Ext.drew ?_ | refine Ext.drewN ?_ _ | refine Ext.setCell ?_ (by first | exact Nat.le_refl _ | omega | (simp; done) | (simp; omega)) _)) E1; replace hE := hE.up X_; clear X_)
    go_ret
    exact ⟨rfl, hE⟩
  · by_cases h1 : codeV k xs = 0
    · by_cases h2 : codeV k ys = 0
      · exact runTogether_walk_ok ha hb hn h1 h2
      · exact runTogether_walk_bad ha hb hn (.inr h2)
    · exact runTogether_walk_bad ha hb hn (.inl h1)

end Go.Proofs.Ytlmmlmmadgcmcaa
