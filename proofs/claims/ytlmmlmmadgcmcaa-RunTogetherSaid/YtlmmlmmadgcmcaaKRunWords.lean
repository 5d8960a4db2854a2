/- The walk of the law RunWords, out of its callees' contracts. -/
import Derived.Test.YtlmmlmmadgcmcaaW9r
import Derived.Test.YtlmmlmmadgcmcaaW9
import Derived.Test.YtlmmlmmadgcmcaaKRunPacks
namespace Go.Proofs.Ytlmmlmmadgcmcaa
open Go.RowKit
set_option linter.unusedVariables false

theorem wordsV_count (k : Int) (bs : List UInt8) : countV k bs = (wordsV k bs).1.length ∧ codeV k bs = (wordsV k bs).2 := by
  unfold countV wordsV
  by_cases h : codeV k bs = 0 <;> simp [h]

theorem codeV_le (k : Int) (bs : List UInt8) : codeV k bs ≤ 4 := by
  have hf : ∀ (f : Nat) (bs : List UInt8), ∀ x ∈ valsF k f bs, x.2 ≤ 4 := by
    intro f
    induction f with
    | zero => intro bs x hx; simp [valsF] at hx
    | succ f ih =>
      intro bs x hx
      unfold valsF at hx
      have hbd := stepN_bd k bs
      by_cases hb : bs = []
      · rw [if_pos hb] at hx; simp at hx
      · rw [if_neg hb] at hx
        by_cases hc : (stepN k bs).2 = 0
        · rw [if_pos hc] at hx
          rcases List.mem_cons.1 hx with rfl | hx
          · simp
          · exact ih _ x hx
        · rw [if_neg hc] at hx
          simp only [List.mem_singleton] at hx
          subst hx
          simp only
          omega
  unfold codeV
  rcases hl : (valsV k bs).getLast? with _ | x
  · simp
  · have hm := List.mem_of_getLast? hl
    unfold valsV at hm
    by_cases hk : numberB k = false
    · rw [if_pos hk] at hm
      simp only [List.mem_singleton] at hm
      subst hm
      simp
    · rw [if_neg hk] at hm
      exact hf _ _ x hm

theorem wordsV_bad {k : Int} {bs : List UInt8} (h : (wordsV k bs).2 ≠ 0) : (wordsV k bs).1 = [] ∧ canV k bs = false := by
  have h' : codeV k bs ≠ 0 := h
  refine ⟨by unfold wordsV; rw [if_neg h'], ?_⟩
  rcases hc : canV k bs with _ | _
  · rfl
  · unfold canV at hc
    rw [List.all_eq_true] at hc
    refine absurd (codeV_fine (fun j x hx => ?_)) h'
    have := hc x (List.mem_of_getElem? hx)
    simp only [Bool.and_eq_true, decide_eq_true_eq] at this
    exact this.1

set_option maxRecDepth 100000 in
set_option maxHeartbeats 2000000 in
theorem runWords_walk_bad {k i : Int} {A : Option Addr} {n c : Nat} {bs : List UInt8} {w : World} (hb : BytesAt w A n c bs) (hn : ¬ (2000 : Int) < n) {C : Nat} (hC : (wordsV k bs).2 = C) (h0 : C ≠ 0) :
    Calls Try.prog 14 #[.int .i64 k, .slice A n c, .int .i64 i] w fun e w' => e = .returned (.bool true) ∧ Ext w w' := by
  obtain ⟨b1, b2⟩ := wordsV_bad (k := k) (bs := bs) (by rw [hC]; exact h0)
  obtain ⟨n1, n2⟩ := wordsV_count k bs
  have hE := Ext.refl w
  have hw1 := fun W (h : BytesAt W A n c bs) => uWords (k := k) h (by omega)
  have hw2 := fun W (h : BytesAt W A n c bs) => uWordsR (k := k) h (by omega)
  have hw3 := fun W (h : BytesAt W A n c bs) => uCount (k := k) h (by omega)
  have hw4 := fun W (h : BytesAt W A n c bs) => uAt_bad (i := i) h (by omega) hC h0
  have hw5 := fun W (h : BytesAt W A n c bs) => uCanonical (k := k) h (by omega)
  rw [n1, n2] at hw3
  rw [b1, hC] at hw1 hw2 hw3
  rw [b2] at hw5
  have hC4 : (C : Int) < 256 := by have := codeV_le k bs; have e : (wordsV k bs).2 = codeV k bs := rfl; rw [e] at hC; omega
  have q1 : ((C : Int) != 0) = true := by rw [bne_iff_ne]; omega
  have q2 : ((C : Int) != (C : Int)) = false := by simp
  have H1 := Lib.hid hw1
  have H2 := Lib.hid hw2
  have H3 := Lib.hid hw3
  have H4 := Lib.hid hw4
  have H5 := Lib.hid hw5
  clear hw1 hw2 hw3 hw4 hw5 hC h0 b1 b2 n1 n2
  go_enter Try.func14, Try.ntmps14
  go_wp2_with (first | (go_at_call 41; refine (alive09 _).mono ?_; rintro e w1 ⟨rfl, E1⟩; have X_ : Ext w w1 := Ext.trans (by repeat with_reducible (first | exact Ext.refl _ | refine Ext.alloc ?_ _ | refine Ext.drew ?_ | refine Ext.drewN ?_ _ | refine Ext.setCell ?_ (by first | exact Nat.le_refl _ | omega | (simp; done) | (simp; omega)) _)) E1; replace hE := hE.up X_; replace hb := hb.up X_; clear X_) | (go_at_call 44; refine (H1.out _ hb).mono ?_; rintro e w2 ⟨A2, c2, rfl, own2⟩; have X_ : Ext w1 w2 := Ext.trans (by repeat with_reducible (first | exact Ext.refl _ | refine Ext.alloc ?_ _ | refine Ext.drew ?_ | refine Ext.drewN ?_ _ | refine Ext.setCell ?_ (by first | exact Nat.le_refl _ | omega | (simp; done) | (simp; omega)) _)) own2.ext; replace hE := hE.up X_; replace hb := hb.up X_; clear X_) | (go_at_call 54; refine (H2.out _ hb).mono ?_; rintro e w3 ⟨A3, c3, rfl, own3⟩; have X_ : Ext w2 w3 := Ext.trans (by repeat with_reducible (first | exact Ext.refl _ | refine Ext.alloc ?_ _ | refine Ext.drew ?_ | refine Ext.drewN ?_ _ | refine Ext.setCell ?_ (by first | exact Nat.le_refl _ | omega | (simp; done) | (simp; omega)) _)) own3.ext; replace hE := hE.up X_; replace hb := hb.up X_; replace own2 := own2.up X_; clear X_) | (go_at_call 55; refine (H3.out _ hb).mono ?_; rintro e w4 ⟨rfl, E4⟩; have X_ : Ext w3 w4 := Ext.trans (by repeat with_reducible (first | exact Ext.refl _ | refine Ext.alloc ?_ _ | refine Ext.drew ?_ | refine Ext.drewN ?_ _ | refine Ext.setCell ?_ (by first | exact Nat.le_refl _ | omega | (simp; done) | (simp; omega)) _)) E4; replace hE := hE.up X_; replace hb := hb.up X_; replace own2 := own2.up X_; replace own3 := own3.up X_; clear X_) | (go_at_call 56; refine (H4.out _ hb).mono ?_; rintro e w5 ⟨rfl, E5⟩; have X_ : Ext w4 w5 := Ext.trans (by repeat with_reducible (first | exact Ext.refl _ | refine Ext.alloc ?_ _ | refine Ext.drew ?_ | refine Ext.drewN ?_ _ | refine Ext.setCell ?_ (by first | exact Nat.le_refl _ | omega | (simp; done) | (simp; omega)) _)) E5; replace hE := hE.up X_; replace hb := hb.up X_; replace own2 := own2.up X_; replace own3 := own3.up X_; clear X_) | (go_at_call 45; refine (sameU (xs := []) (ys := []) own2.reads own3.reads (by simp)).mono ?_; rintro e w6 ⟨rfl, E6⟩; have X_ : Ext w5 w6 := Ext.trans (by repeat with_reducible (first | exact Ext.refl _ | refine Ext.alloc ?_ _ | refine Ext.drew ?_ | refine Ext.drewN ?_ _ | refine Ext.setCell ?_ (by first | exact Nat.le_refl _ | omega | (simp; done) | (simp; omega)) _)) E6; replace hE := hE.up X_; replace hb := hb.up X_; clear X_) | (go_at_call 53; refine (H5.out _ hb).mono ?_; rintro e w7 ⟨rfl, E7⟩; have X_ : Ext w6 w7 := Ext.trans (by repeat with_reducible (first | exact Ext.refl _ | refine Ext.alloc ?_ _ | refine Ext.drew ?_ | refine Ext.drewN ?_ _ | refine Ext.setCell ?_ (by first | exact Nat.le_refl _ | omega | (simp; done) | (simp; omega)) _)) E7; replace hE := hE.up X_; clear X_))
  go_ret
  exact ⟨rfl, hE⟩

theorem wordsV_ok {k : Int} {bs : List UInt8} (h : (wordsV k bs).2 = 0) : numberB k = true ∧ (∀ x ∈ (wordsV k bs).1, x < 18446744073709551616) := by
  have hc : codeV k bs = 0 := h
  refine ⟨codeV_number hc, fun x hx => ?_⟩
  unfold wordsV at hx
  rw [if_pos hc] at hx
  obtain ⟨v, _, rfl⟩ := List.mem_map.1 hx
  exact (readS_bd k v.1).1

set_option maxRecDepth 100000 in
set_option maxHeartbeats 2000000 in
theorem runWords_walk_out {k i : Int} {A : Option Addr} {n c : Nat} {bs : List UInt8} {w : World} (hb : BytesAt w A n c bs) (hn : ¬ (2000 : Int) < n) (h0 : (wordsV k bs).2 = 0) (hi : i < 0 ∨ ((wordsV k bs).1.length : Int) ≤ i) :
    Calls Try.prog 14 #[.int .i64 k, .slice A n c, .int .i64 i] w fun e w' => e = .returned (.bool true) ∧ Ext w w' := by
  obtain ⟨n1, n2⟩ := wordsV_count k bs
  obtain ⟨hk, h64⟩ := wordsV_ok h0
  have hE := Ext.refl w
  have hl := hb.length
  have hlen : (wordsV k bs).1.length ≤ n + 1 := by rw [← n1]; unfold countV; split; (have := valsV_len k bs; omega); omega
  have hcp := canV_packed (k := k) (bs := bs) h0
  have hpl := packW_le k _ h64
  have hw1 := fun W (h : BytesAt W A n c bs) => uWords (k := k) h (by omega)
  have hw2 := fun W (h : BytesAt W A n c bs) => uWordsR (k := k) h (by omega)
  have hw3 := fun W (h : BytesAt W A n c bs) => uCount (k := k) h (by omega)
  have hw4 := fun W (h : BytesAt W A n c bs) => uAt_out (i := i) h (by omega) h0 hi
  have hw5 := fun W (h : BytesAt W A n c bs) => uCanonical (k := k) h (by omega)
  rw [n1, n2] at hw3
  rw [h0] at hw1 hw2 hw3
  rw [hcp] at hw5
  generalize (wordsV k bs).1 = Ws at *
  generalize hG : packW k Ws = G at *
  have H1 := Lib.hid hw1
  have H2 := Lib.hid hw2
  have H3 := Lib.hid hw3
  have H4 := Lib.hid hw4
  have H5 := Lib.hid hw5
  have H64 := Lib.hid h64
  have HG := Lib.hid hG
  clear hw1 hw2 hw3 hw4 hw5 h0 n1 n2 h64 hcp hG hl
  rcases (by omega : i < 0 ∨ (¬ i < 0 ∧ (Ws.length : Int) ≤ i)) with hi | ⟨hi, hi2⟩
  all_goals
    go_enter Try.func14, Try.ntmps14
    go_wp2_with (first | (go_at_call 41; refine (alive09 _).mono ?_; rintro e w1 ⟨rfl, E1⟩; have X_ : Ext w w1 := Ext.trans (by repeat with_reducible (first | exact Ext.refl _ | refine Ext.alloc ?_ _ | refine Ext.drew ?_ | refine Ext.drewN ?_ _ | refine Ext.setCell ?_ (by first | exact Nat.le_refl _ | omega | (simp; done) | (simp; omega)) _)) E1; replace hE := hE.up X_; replace hb := hb.up X_; clear X_) | (go_at_call 44; refine (H1.out _ hb).mono ?_; rintro e w2 ⟨A2, c2, rfl, own2⟩; have X_ : Ext w1 w2 := Ext.trans (by repeat with_reducible (first | exact Ext.refl _ | refine Ext.alloc ?_ _ | refine Ext.drew ?_ | refine Ext.drewN ?_ _ | refine Ext.setCell ?_ (by first | exact Nat.le_refl _ | omega | (simp; done) | (simp; omega)) _)) own2.ext; replace hE := hE.up X_; replace hb := hb.up X_; clear X_) | (go_at_call 54; refine (H2.out _ hb).mono ?_; rintro e w3 ⟨A3, c3, rfl, own3⟩; have X_ : Ext w2 w3 := Ext.trans (by repeat with_reducible (first | exact Ext.refl _ | refine Ext.alloc ?_ _ | refine Ext.drew ?_ | refine Ext.drewN ?_ _ | refine Ext.setCell ?_ (by first | exact Nat.le_refl _ | omega | (simp; done) | (simp; omega)) _)) own3.ext; replace hE := hE.up X_; replace hb := hb.up X_; replace own2 := own2.up X_; clear X_) | (go_at_call 55; refine (H3.out _ hb).mono ?_; rintro e w4 ⟨rfl, E4⟩; have X_ : Ext w3 w4 := Ext.trans (by repeat with_reducible (first | exact Ext.refl _ | refine Ext.alloc ?_ _ | refine Ext.drew ?_ | refine Ext.drewN ?_ _ | refine Ext.setCell ?_ (by first | exact Nat.le_refl _ | omega | (simp; done) | (simp; omega)) _)) E4; replace hE := hE.up X_; replace hb := hb.up X_; replace own2 := own2.up X_; replace own3 := own3.up X_; clear X_) | (go_at_call 56; refine (H4.out _ hb).mono ?_; rintro e w5 ⟨rfl, E5⟩; have X_ : Ext w4 w5 := Ext.trans (by repeat with_reducible (first | exact Ext.refl _ | refine Ext.alloc ?_ _ | refine Ext.drew ?_ | refine Ext.drewN ?_ _ | refine Ext.setCell ?_ (by first | exact Nat.le_refl _ | omega | (simp; done) | (simp; omega)) _)) E5; replace hE := hE.up X_; replace hb := hb.up X_; replace own2 := own2.up X_; replace own3 := own3.up X_; clear X_) | (go_at_call 45; refine (sameU (xs := Ws) (ys := Ws) own2.reads own3.reads (by omega)).mono ?_; rintro e w6 ⟨rfl, E6⟩; have X_ : Ext w5 w6 := Ext.trans (by repeat with_reducible (first | exact Ext.refl _ | refine Ext.alloc ?_ _ | refine Ext.drew ?_ | refine Ext.drewN ?_ _ | refine Ext.setCell ?_ (by first | exact Nat.le_refl _ | omega | (simp; done) | (simp; omega)) _)) E6; replace hE := hE.up X_; replace hb := hb.up X_; replace own3 := own3.up X_; clear X_) | (go_at_call 53; refine (H5.out _ hb).mono ?_; rintro e w7 ⟨rfl, E7⟩; have X_ : Ext w6 w7 := Ext.trans (by repeat with_reducible (first | exact Ext.refl _ | refine Ext.alloc ?_ _ | refine Ext.drew ?_ | refine Ext.drewN ?_ _ | refine Ext.setCell ?_ (by first | exact Nat.le_refl _ | omega | (simp; done) | (simp; omega)) _)) E7; replace hE := hE.up X_; replace hb := hb.up X_; replace own3 := own3.up X_; clear X_) | (go_at_call 52; refine (uPackR own3.reads H64.out (by omega)).mono ?_; rintro e w8 ⟨A8, c8, rfl, own8⟩; rw [HG.out] at own8 ⊢; have X_ : Ext w7 w8 := Ext.trans (by repeat with_reducible (first | exact Ext.refl _ | refine Ext.alloc ?_ _ | refine Ext.drew ?_ | refine Ext.drewN ?_ _ | refine Ext.setCell ?_ (by first | exact Nat.le_refl _ | omega | (simp; done) | (simp; omega)) _)) own8.ext; replace hE := hE.up X_; replace hb := hb.up X_; clear X_) | (go_at_call 35; refine (same own8.reads hb).mono ?_; rintro e w' ⟨rfl, rfl⟩))
    go_ret
    exact ⟨by simp, hE⟩

set_option maxRecDepth 100000 in
set_option maxHeartbeats 2000000 in
theorem runWords_walk_in {k : Int} {p x : Nat} {A : Option Addr} {n c : Nat} {bs : List UInt8} {w : World} (hb : BytesAt w A n c bs) (hn : ¬ (2000 : Int) < n) (h0 : (wordsV k bs).2 = 0) (hx : (wordsV k bs).1[p]? = some x) :
    Calls Try.prog 14 #[.int .i64 k, .slice A n c, .int .i64 (p : Int)] w fun e w' => e = .returned (.bool true) ∧ Ext w w' := by
  obtain ⟨n1, n2⟩ := wordsV_count k bs
  obtain ⟨hk, h64⟩ := wordsV_ok h0
  have hE := Ext.refl w
  have hl := hb.length
  have hlen : (wordsV k bs).1.length ≤ n + 1 := by rw [← n1]; unfold countV; split; (have := valsV_len k bs; omega); omega
  have hcp := canV_packed (k := k) (bs := bs) h0
  have hpl := packW_le k _ h64
  have hw1 := fun W (h : BytesAt W A n c bs) => uWords (k := k) h (by omega)
  have hw2 := fun W (h : BytesAt W A n c bs) => uWordsR (k := k) h (by omega)
  have hw3 := fun W (h : BytesAt W A n c bs) => uCount (k := k) h (by omega)
  have hw4 := fun W (h : BytesAt W A n c bs) => uAt_in h (by omega) h0 hx
  have hw5 := fun W (h : BytesAt W A n c bs) => uCanonical (k := k) h (by omega)
  rw [n1, n2] at hw3
  rw [h0] at hw1 hw2 hw3
  rw [hcp] at hw5
  generalize (wordsV k bs).1 = Ws at *
  generalize hG : packW k Ws = G at *
  have H1 := Lib.hid hw1
  have H2 := Lib.hid hw2
  have H3 := Lib.hid hw3
  have H4 := Lib.hid hw4
  have H5 := Lib.hid hw5
  have H64 := Lib.hid h64
  have HG := Lib.hid hG
  clear hw1 hw2 hw3 hw4 hw5 h0 n1 n2 h64 hcp hG hl
  have hp : p < Ws.length := (List.getElem?_eq_some_iff.1 hx).1
  have hi : ¬ (p : Int) < 0 := by omega
  have hi2 : ¬ (Ws.length : Int) ≤ p := by omega
  have Hx := Lib.hid hx
  clear hx
  · go_enter Try.func14, Try.ntmps14
    go_wp2_with (first | (go_at_call 41; refine (alive09 _).mono ?_; rintro e w1 ⟨rfl, E1⟩; have X_ : Ext w w1 := Ext.trans (by repeat with_reducible (first | exact Ext.refl _ | refine Ext.alloc ?_ _ | refine Ext.drew ?_ | refine Ext.drewN ?_ _ | refine Ext.setCell ?_ (by first | exact Nat.le_refl _ | omega | (simp; done) | (simp; omega)) _)) E1; replace hE := hE.up X_; replace hb := hb.up X_; clear X_) | (go_at_call 44; refine (H1.out _ hb).mono ?_; rintro e w2 ⟨A2, c2, rfl, own2⟩; have X_ : Ext w1 w2 := Ext.trans (by repeat with_reducible (first | exact Ext.refl _ | refine Ext.alloc ?_ _ | refine Ext.drew ?_ | refine Ext.drewN ?_ _ | refine Ext.setCell ?_ (by first | exact Nat.le_refl _ | omega | (simp; done) | (simp; omega)) _)) own2.ext; replace hE := hE.up X_; replace hb := hb.up X_; clear X_) | (go_at_call 54; refine (H2.out _ hb).mono ?_; rintro e w3 ⟨A3, c3, rfl, own3⟩; have X_ : Ext w2 w3 := Ext.trans (by repeat with_reducible (first | exact Ext.refl _ | refine Ext.alloc ?_ _ | refine Ext.drew ?_ | refine Ext.drewN ?_ _ | refine Ext.setCell ?_ (by first | exact Nat.le_refl _ | omega | (simp; done) | (simp; omega)) _)) own3.ext; replace hE := hE.up X_; replace hb := hb.up X_; replace own2 := own2.up X_; clear X_) | (go_at_call 55; refine (H3.out _ hb).mono ?_; rintro e w4 ⟨rfl, E4⟩; have X_ : Ext w3 w4 := Ext.trans (by repeat with_reducible (first | exact Ext.refl _ | refine Ext.alloc ?_ _ | refine Ext.drew ?_ | refine Ext.drewN ?_ _ | refine Ext.setCell ?_ (by first | exact Nat.le_refl _ | omega | (simp; done) | (simp; omega)) _)) E4; replace hE := hE.up X_; replace hb := hb.up X_; replace own2 := own2.up X_; replace own3 := own3.up X_; clear X_) | (go_at_call 56; refine (H4.out _ hb).mono ?_; rintro e w5 ⟨rfl, E5⟩; have X_ : Ext w4 w5 := Ext.trans (by repeat with_reducible (first | exact Ext.refl _ | refine Ext.alloc ?_ _ | refine Ext.drew ?_ | refine Ext.drewN ?_ _ | refine Ext.setCell ?_ (by first | exact Nat.le_refl _ | omega | (simp; done) | (simp; omega)) _)) E5; replace hE := hE.up X_; replace hb := hb.up X_; replace own2 := own2.up X_; replace own3 := own3.up X_; clear X_) | (go_at_call 45; refine (sameU (xs := Ws) (ys := Ws) own2.reads own3.reads (by omega)).mono ?_; rintro e w6 ⟨rfl, E6⟩; obtain ⟨b, off, y, rfl, hy, hcell⟩ := WordsAt.word own3.reads hp; have hyx : y = x := Option.some.inj (hy.symm.trans Hx.out); subst hyx; clear hy; have X_ : Ext w5 w6 := Ext.trans (by repeat with_reducible (first | exact Ext.refl _ | refine Ext.alloc ?_ _ | refine Ext.drew ?_ | refine Ext.drewN ?_ _ | refine Ext.setCell ?_ (by first | exact Nat.le_refl _ | omega | (simp; done) | (simp; omega)) _)) E6; replace hE := hE.up X_; replace hb := hb.up X_; replace own3 := own3.up X_; replace hcell := X_.of_cell hcell; clear X_) | (go_at_call 53; refine (H5.out _ hb).mono ?_; rintro e w7 ⟨rfl, E7⟩; have X_ : Ext w6 w7 := Ext.trans (by repeat with_reducible (first | exact Ext.refl _ | refine Ext.alloc ?_ _ | refine Ext.drew ?_ | refine Ext.drewN ?_ _ | refine Ext.setCell ?_ (by first | exact Nat.le_refl _ | omega | (simp; done) | (simp; omega)) _)) E7; replace hE := hE.up X_; replace hb := hb.up X_; replace own3 := own3.up X_; clear X_) | (go_at_call 52; refine (uPackR own3.reads H64.out (by omega)).mono ?_; rintro e w8 ⟨A8, c8, rfl, own8⟩; rw [HG.out] at own8 ⊢; have X_ : Ext w7 w8 := Ext.trans (by repeat with_reducible (first | exact Ext.refl _ | refine Ext.alloc ?_ _ | refine Ext.drew ?_ | refine Ext.drewN ?_ _ | refine Ext.setCell ?_ (by first | exact Nat.le_refl _ | omega | (simp; done) | (simp; omega)) _)) own8.ext; replace hE := hE.up X_; replace hb := hb.up X_; clear X_) | (go_at_call 35; refine (same own8.reads hb).mono ?_; rintro e w' ⟨rfl, rfl⟩))
    go_ret
    exact ⟨by simp, hE⟩

theorem runWords_walk {k i : Int} {A : Option Addr} {n c : Nat} {bs : List UInt8} {w : World} (hk : -9223372036854775808 ≤ k ∧ k < 9223372036854775808) (hb : BytesAt w A n c bs) (hi : -9223372036854775808 ≤ i ∧ i < 9223372036854775808) :
    Calls Try.prog 14 #[.int .i64 k, .slice A n c, .int .i64 i] w fun e w' => e = .returned (.bool true) ∧ Ext w w' := by
  by_cases hn : (2000 : Int) < n
  · have hE := Ext.refl w
    have hcap := Reads.cap hb
    clear hi hk
    go_enter Try.func14, Try.ntmps14
    go_wp2_with (go_at_call 41; refine (alive09 _).mono ?_; rintro e w1 ⟨rfl, E1⟩; have X_ : Ext w w1 := Ext.trans (by repeat with_reducible (first | exact Ext.refl _ | refine Ext.alloc ?_ _ | refine Ext.drew ?_ | refine Ext.drewN ?_ _ | refine Ext.setCell ?_ (by first | exact Nat.le_refl _ | omega | (simp; done) | (simp; omega)) _)) E1; replace hE := hE.up X_; clear X_)
    go_ret
    exact ⟨rfl, hE⟩
  · by_cases h0 : (wordsV k bs).2 = 0
    · by_cases hr : i < 0 ∨ ((wordsV k bs).1.length : Int) ≤ i
      · exact runWords_walk_out hb hn h0 hr
      · obtain ⟨p, rfl⟩ := Int.eq_ofNat_of_zero_le (show 0 ≤ i by omega)
        exact runWords_walk_in hb hn h0 (List.getElem?_eq_getElem (by omega))
    · exact runWords_walk_bad hb hn rfl h0

end Go.Proofs.Ytlmmlmmadgcmcaa
