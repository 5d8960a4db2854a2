/- The walk of the law RunCuts, out of its callees' contracts. -/
import Derived.Test.YtlmmlmmadgcmcaaW9
import Derived.Test.YtlmmlmmadgcmcaaW9r
import Derived.Test.YtlmmlmmadgcmcaaKRunPacks
import Derived.Test.YtlmmlmmadgcmcaaKRunWords
namespace Go.Proofs.Ytlmmlmmadgcmcaa
open Go.RowKit
set_option linter.unusedVariables false

theorem uCut_bad {A : Option Addr} {m c : Nat} {bs : List UInt8} {k n : Int} {w : World} (hb : BytesAt w A m c bs) (hm : m ≤ 1000000000) (hn : -9223372036854775808 ≤ n ∧ n < 9223372036854775808) {C : Nat} (hC : codeV k bs = C) (h0 : C ≠ 0) :
    Calls Try.prog 42 #[.int .i64 k, .slice A m c, .int .i64 n] w fun e w' => e = .returned (.tuple #[.slice none 0 0, .slice none 0 0, .int .u8 (C : Int)]) ∧ Ext w w' := by
  subst hC
  refine (uCut hb hm hn).mono ?_
  rintro e w' (⟨_, h1, h2⟩ | ⟨h, _⟩ | ⟨h, _⟩)
  · exact ⟨h1, h2⟩
  · exact absurd h h0
  · exact absurd h h0

theorem uCut_none {A : Option Addr} {m c : Nat} {bs : List UInt8} {k n : Int} {w : World} (hb : BytesAt w A m c bs) (hm : m ≤ 1000000000) (hn : -9223372036854775808 ≤ n ∧ n < 9223372036854775808) (hC : codeV k bs = 0) (h0 : n < 0 ∨ ((valsV k bs).length : Int) < n) :
    Calls Try.prog 42 #[.int .i64 k, .slice A m c, .int .i64 n] w fun e w' => e = .returned (.tuple #[.slice none 0 0, .slice none 0 0, .int .u8 11]) ∧ Ext w w' := by
  refine (uCut hb hm hn).mono ?_
  rintro e w' (⟨h, _⟩ | ⟨_, _, h1, h2⟩ | ⟨_, h1, h2, _⟩)
  · exact absurd hC h
  · exact ⟨h1, h2⟩
  · omega

theorem uCut_ok {A : Option Addr} {m c : Nat} {bs : List UInt8} {k : Int} {q : Nat} {w : World} (hb : BytesAt w A m c bs) (hm : m ≤ 1000000000) (hC : codeV k bs = 0) (h0 : q ≤ (valsV k bs).length) {s : Nat} (hs : sumL ((valsV k bs).take q) = s) :
    Calls Try.prog 42 #[.int .i64 k, .slice A m c, .int .i64 (q : Int)] w fun e w' => ∃ A1 c1 A2 c2, e = .returned (.tuple #[.slice A1 s c1, .slice A2 (m - s) c2, .int .u8 0]) ∧ Own w w' 5 1 A1 s c1 ((bs.take s).map bv) ∧ Own w w' 5 1 A2 (m - s) c2 ((bs.drop s).map bv) := by
  have hl := hb.length
  have hv := valsV_len k bs
  refine (uCut hb hm (n := (q : Int)) (by omega)).mono ?_
  rintro e w' (⟨h, _⟩ | ⟨_, h, _⟩ | ⟨_, h1, h2, s', A1, c1, A2, c2, h3, h4, h5, h6⟩)
  · exact absurd hC h
  · omega
  · rw [Int.toNat_natCast, hs] at h3
    subst h3
    rw [hl] at h4 h6
    exact ⟨A1, c1, A2, c2, h4, h5, h6⟩

theorem endsV_fine {k : Int} {bs : List UInt8} (h : codeV k bs = 0) : (endsV k bs).1 = endsOf 0 (valsV k bs) ∧ (endsV k bs).2 = 0 := by
  unfold endsV
  rw [if_pos h, h]
  exact ⟨rfl, rfl⟩

set_option maxRecDepth 100000 in
set_option maxHeartbeats 2000000 in
theorem runCuts_walk_bad {k i : Int} {A : Option Addr} {n c : Nat} {bs : List UInt8} {w : World} (hb : BytesAt w A n c bs) (hn : ¬ (2000 : Int) < n) (hi : -9223372036854775808 ≤ i ∧ i < 9223372036854775808) {C : Nat} (hC : codeV k bs = C) (h0 : C ≠ 0) :
    Calls Try.prog 9 #[.int .i64 k, .slice A n c, .int .i64 i] w fun e w' => e = .returned (.bool true) ∧ Ext w w' := by
  have hE := Ext.refl w
  have e1 : (endsV k bs).1 = [] ∧ (endsV k bs).2 = C := by unfold endsV; rw [hC, if_neg h0]; exact ⟨rfl, rfl⟩
  have hw1 := fun W (h : BytesAt W A n c bs) => uCut_bad (n := i) h (by omega) hi hC h0
  have hw2 := fun W (h : BytesAt W A n c bs) => uEndsRA (k := k) h (by omega)
  rw [e1.1, e1.2] at hw2
  have hC4 : (C : Int) < 256 := by have := codeV_le k bs; omega
  have q1 : ((C : Int) != 0) = true := by rw [bne_iff_ne]; omega
  have H1 := Lib.hid hw1
  have H2 := Lib.hid hw2
  clear hw1 hw2 hC h0 e1
  go_enter Try.func9, Try.ntmps9
  go_wp2_with (first | (go_at_call 41; refine (alive09 _).mono ?_; rintro e w1 ⟨rfl, E1⟩; have X_ : Ext w w1 := Ext.trans (by repeat with_reducible (first | exact Ext.refl _ | refine Ext.alloc ?_ _ | refine Ext.drew ?_ | refine Ext.drewN ?_ _ | refine Ext.setCell ?_ (by first | exact Nat.le_refl _ | omega | (simp; done) | (simp; omega)) _)) E1; replace hE := hE.up X_; replace hb := hb.up X_; clear X_) | (go_at_call 42; refine (H1.out _ hb).mono ?_; rintro e w2 ⟨rfl, E2⟩; have X_ : Ext w1 w2 := Ext.trans (by repeat with_reducible (first | exact Ext.refl _ | refine Ext.alloc ?_ _ | refine Ext.drew ?_ | refine Ext.drewN ?_ _ | refine Ext.setCell ?_ (by first | exact Nat.le_refl _ | omega | (simp; done) | (simp; omega)) _)) E2; replace hE := hE.up X_; replace hb := hb.up X_; clear X_) | (go_at_call 43; refine (H2.out _ hb).mono ?_; rintro e w3 ⟨A3, c3, rfl, own3⟩; have X_ : Ext w2 w3 := Ext.trans (by repeat with_reducible (first | exact Ext.refl _ | refine Ext.alloc ?_ _ | refine Ext.drew ?_ | refine Ext.drewN ?_ _ | refine Ext.setCell ?_ (by first | exact Nat.le_refl _ | omega | (simp; done) | (simp; omega)) _)) own3.ext; replace hE := hE.up X_; replace hb := hb.up X_; clear X_))
  go_ret
  exact ⟨rfl, hE⟩

set_option maxRecDepth 100000 in
set_option maxHeartbeats 2000000 in
theorem runCuts_walk_none {k i : Int} {A : Option Addr} {n c : Nat} {bs : List UInt8} {w : World} (hb : BytesAt w A n c bs) (hn : ¬ (2000 : Int) < n) (hi : -9223372036854775808 ≤ i ∧ i < 9223372036854775808) (hC : codeV k bs = 0) (h0 : i < 0 ∨ ((valsV k bs).length : Int) < i) :
    Calls Try.prog 9 #[.int .i64 k, .slice A n c, .int .i64 i] w fun e w' => e = .returned (.bool true) ∧ Ext w w' := by
  have hE := Ext.refl w
  obtain ⟨e1, e2⟩ := endsV_fine hC
  have e3 : (endsV k bs).1.length = (valsV k bs).length := by rw [e1, endsOf_len]
  have hw1 := fun W (h : BytesAt W A n c bs) => uCut_none (n := i) h (by omega) hi hC h0
  have hw2 := fun W (h : BytesAt W A n c bs) => uEndsRA (k := k) h (by omega)
  rw [e2, e3] at hw2
  generalize (valsV k bs).length = L at *
  generalize (endsV k bs).1 = Es at *
  have H1 := Lib.hid hw1
  have H2 := Lib.hid hw2
  clear hw1 hw2 hC e1 e2 e3
  rcases (by omega : i < 0 ∨ (¬ i < 0 ∧ (L : Int) < i)) with hi | ⟨hi, hi2⟩
  all_goals
    go_enter Try.func9, Try.ntmps9
    go_wp2_with (first | (go_at_call 41; refine (alive09 _).mono ?_; rintro e w1 ⟨rfl, E1⟩; have X_ : Ext w w1 := Ext.trans (by repeat with_reducible (first | exact Ext.refl _ | refine Ext.alloc ?_ _ | refine Ext.drew ?_ | refine Ext.drewN ?_ _ | refine Ext.setCell ?_ (by first | exact Nat.le_refl _ | omega | (simp; done) | (simp; omega)) _)) E1; replace hE := hE.up X_; replace hb := hb.up X_; clear X_) | (go_at_call 42; refine (H1.out _ hb).mono ?_; rintro e w2 ⟨rfl, E2⟩; have X_ : Ext w1 w2 := Ext.trans (by repeat with_reducible (first | exact Ext.refl _ | refine Ext.alloc ?_ _ | refine Ext.drew ?_ | refine Ext.drewN ?_ _ | refine Ext.setCell ?_ (by first | exact Nat.le_refl _ | omega | (simp; done) | (simp; omega)) _)) E2; replace hE := hE.up X_; replace hb := hb.up X_; clear X_) | (go_at_call 43; refine (H2.out _ hb).mono ?_; rintro e w3 ⟨A3, c3, rfl, own3⟩; have X_ : Ext w2 w3 := Ext.trans (by repeat with_reducible (first | exact Ext.refl _ | refine Ext.alloc ?_ _ | refine Ext.drew ?_ | refine Ext.drewN ?_ _ | refine Ext.setCell ?_ (by first | exact Nat.le_refl _ | omega | (simp; done) | (simp; omega)) _)) own3.ext; replace hE := hE.up X_; replace hb := hb.up X_; clear X_))
    go_ret
    exact ⟨rfl, hE⟩

set_option maxRecDepth 100000 in
set_option maxHeartbeats 2000000 in
theorem runCuts_walk_ok {k : Int} {q : Nat} {A : Option Addr} {n c : Nat} {bs : List UInt8} {w : World} (hb : BytesAt w A n c bs) (hn : ¬ (2000 : Int) < n) (hC : codeV k bs = 0) (h0 : q ≤ (valsV k bs).length) :
    Calls Try.prog 9 #[.int .i64 k, .slice A n c, .int .i64 (q : Int)] w fun e w' => e = .returned (.bool true) ∧ Ext w w' := by
  have hE := Ext.refl w
  have hl := hb.length
  obtain ⟨e1, e2⟩ := endsV_fine hC
  have e3 : (endsV k bs).1.length = (valsV k bs).length := by rw [e1, endsOf_len]
  have hat : ∀ p, p + 1 = q → (endsV k bs).1[p]? = some (sumL ((valsV k bs).take q)) := fun p hp => by
    rw [e1, endsOf_at _ 0 p (by omega), Nat.zero_add, hp]
  have hs0 : q = 0 → sumL ((valsV k bs).take q) = 0 := fun h => by subst h; rfl
  have hsn : sumL ((valsV k bs).take q) ≤ n := by rw [← hl]; exact Nat.le_trans (sumL_take _ _) (sumL_valsV k bs)
  have hw1 := fun W (h : BytesAt W A n c bs) => uCut_ok h (by omega) hC h0 rfl
  have hw2 := fun W (h : BytesAt W A n c bs) => uEndsRA (k := k) h (by omega)
  have hlv := valsV_len k bs
  rw [hl] at hlv
  rw [e2, e3] at hw2
  generalize sumL ((valsV k bs).take q) = S at *
  generalize (valsV k bs).length = L at *
  generalize (endsV k bs).1 = Es at *
  obtain ⟨A8, k8, r8⟩ := cut_to elemB hb .i64 (m := S) hsn
  obtain ⟨A9, k9, r9⟩ := cut_from elemB hb .i64 (l := S) hsn
  have r8' : BytesAt w A8 S c (bs.take S) := by unfold BytesAt; rw [List.map_take]; simpa using r8
  have r9' : BytesAt w A9 (n - S) (c - S) (bs.drop S) := by unfold BytesAt; rw [List.map_drop]; simpa using r9
  have H1 := Lib.hid hw1
  have H2 := Lib.hid hw2
  have Hat := Lib.hid hat
  have Hl3 := Lib.hid e3
  have hq : ¬ (q : Int) < 0 := by omega
  have hqL : ¬ (L : Int) < q := by omega
  clear hw1 hw2 hC e1 e2 e3 hat r8 r9 hl
  rcases q with _ | p
  · have hcap := Reads.cap hb
    have hmax := Reads.max hb
    have hb0 : ∀ W, BytesAt W A 0 c [] := fun W => Reads.of_empty _ _ hmax 1
    have hS : S = 0 := hs0 rfl
    subst hS
    clear hs0
    simp only [Nat.sub_zero] at H1
    go_enter Try.func9, Try.ntmps9
    go_wp2_with (first | (go_at_call 41; refine (alive09 _).mono ?_; rintro e w1 ⟨rfl, E1⟩; have X_ : Ext w w1 := Ext.trans (by repeat with_reducible (first | exact Ext.refl _ | refine Ext.alloc ?_ _ | refine Ext.drew ?_ | refine Ext.drewN ?_ _ | refine Ext.setCell ?_ (by first | exact Nat.le_refl _ | omega | (simp; done) | (simp; omega)) _)) E1; replace hE := hE.up X_; replace hb := hb.up X_; replace r8' := r8'.up X_; replace r9' := r9'.up X_; clear X_) | (go_at_call 42; refine (H1.out _ hb).mono ?_; rintro e w2 ⟨A1, c1, A2, c2, rfl, own1, own2⟩; have X_ : Ext w1 w2 := Ext.trans (by repeat with_reducible (first | exact Ext.refl _ | refine Ext.alloc ?_ _ | refine Ext.drew ?_ | refine Ext.drewN ?_ _ | refine Ext.setCell ?_ (by first | exact Nat.le_refl _ | omega | (simp; done) | (simp; omega)) _)) own1.ext; replace hE := hE.up X_; replace hb := hb.up X_; replace r8' := r8'.up X_; replace r9' := r9'.up X_; clear X_) | (go_at_call 43; refine (H2.out _ hb).mono ?_; rintro e w3 ⟨A3, c3, rfl, own3⟩; have X_ : Ext w2 w3 := Ext.trans (by repeat with_reducible (first | exact Ext.refl _ | refine Ext.alloc ?_ _ | refine Ext.drew ?_ | refine Ext.drewN ?_ _ | refine Ext.setCell ?_ (by first | exact Nat.le_refl _ | omega | (simp; done) | (simp; omega)) _)) own3.ext; replace hE := hE.up X_; replace hb := hb.up X_; replace own1 := own1.up X_; replace own2 := own2.up X_; replace r8' := r8'.up X_; replace r9' := r9'.up X_; clear X_) | (go_at_call 35; (with_reducible refine (same (xs := bs.take 0) (ys := []) own1.bytes (hb0 _)).mono ?_); rintro e w' ⟨rfl, rfl⟩) | (go_at_call 35; (with_reducible refine (same (xs := bs.drop 0) (ys := bs) own2.bytes hb).mono ?_); rintro e w' ⟨rfl, rfl⟩))
    go_ret
    exact ⟨by simp, hE⟩
  · clear hs0
    have e3 : (p : Int) + 1 - 1 = p := by omega
    have hp9 : (p : Int) ≤ 2001 := by omega
    have hp1 : ¬ (p : Int) + 1 < 0 := by omega
    have hp2 : (0 : Int) < (p : Int) + 1 := by omega
    have hp3 : ¬ (L : Int) < (p : Int) + 1 := by omega
    go_enter Try.func9, Try.ntmps9
    go_wp2_with (first | (go_at_call 41; refine (alive09 _).mono ?_; rintro e w1 ⟨rfl, E1⟩; have X_ : Ext w w1 := Ext.trans (by repeat with_reducible (first | exact Ext.refl _ | refine Ext.alloc ?_ _ | refine Ext.drew ?_ | refine Ext.drewN ?_ _ | refine Ext.setCell ?_ (by first | exact Nat.le_refl _ | omega | (simp; done) | (simp; omega)) _)) E1; replace hE := hE.up X_; replace hb := hb.up X_; replace r8' := r8'.up X_; replace r9' := r9'.up X_; clear X_) | (go_at_call 42; refine (H1.out _ hb).mono ?_; rintro e w2 ⟨A1, c1, A2, c2, rfl, own1, own2⟩; have X_ : Ext w1 w2 := Ext.trans (by repeat with_reducible (first | exact Ext.refl _ | refine Ext.alloc ?_ _ | refine Ext.drew ?_ | refine Ext.drewN ?_ _ | refine Ext.setCell ?_ (by first | exact Nat.le_refl _ | omega | (simp; done) | (simp; omega)) _)) own1.ext; replace hE := hE.up X_; replace hb := hb.up X_; replace r8' := r8'.up X_; replace r9' := r9'.up X_; clear X_) | (go_at_call 43; refine (H2.out _ hb).mono ?_; rintro e w3 ⟨A3, c3, rfl, own3⟩; obtain ⟨b, off, y, rfl, hy, hcell⟩ := IntsAt.num own3.reads (k := p) (by omega); have hyS : y = S := Option.some.inj (hy.symm.trans (Hat.out p rfl)); subst hyS; clear hy; have X_ : Ext w2 w3 := Ext.trans (by repeat with_reducible (first | exact Ext.refl _ | refine Ext.alloc ?_ _ | refine Ext.drew ?_ | refine Ext.drewN ?_ _ | refine Ext.setCell ?_ (by first | exact Nat.le_refl _ | omega | (simp; done) | (simp; omega)) _)) own3.ext; replace hE := hE.up X_; replace hb := hb.up X_; replace own1 := own1.up X_; replace own2 := own2.up X_; replace r8' := r8'.up X_; replace r9' := r9'.up X_; clear X_) | (go_at_call 35; (with_reducible refine (same own1.bytes r8').mono ?_); rintro e w' ⟨rfl, rfl⟩) | (go_at_call 35; (with_reducible refine (same own2.bytes r9').mono ?_); rintro e w' ⟨rfl, rfl⟩))
    go_ret
    exact ⟨by simp, hE⟩

theorem runCuts_walk {k i : Int} {A : Option Addr} {n c : Nat} {bs : List UInt8} {w : World} (hk : -9223372036854775808 ≤ k ∧ k < 9223372036854775808) (hb : BytesAt w A n c bs) (hi : -9223372036854775808 ≤ i ∧ i < 9223372036854775808) :
    Calls Try.prog 9 #[.int .i64 k, .slice A n c, .int .i64 i] w fun e w' => e = .returned (.bool true) ∧ Ext w w' := by
  by_cases hn : (2000 : Int) < n
  · have hE := Ext.refl w
    have hcap := Reads.cap hb
    clear hi hk
    go_enter Try.func9, Try.ntmps9
    go_wp2_with (go_at_call 41; refine (alive09 _).mono ?_; rintro e w1 ⟨rfl, E1⟩; have X_ : Ext w w1 := Ext.trans (by repeat with_reducible (first | exact Ext.refl _ | refine Ext.alloc ?_ _ | refine Ext.drew ?_ | refine Ext.drewN ?_ _ | refine Ext.setCell ?_ (by first | exact Nat.le_refl _ | omega | (simp; done) | (simp; omega)) _)) E1; replace hE := hE.up X_; clear X_)
    go_ret
    exact ⟨rfl, hE⟩
  · by_cases h0 : codeV k bs = 0
    · by_cases hr : i < 0 ∨ ((valsV k bs).length : Int) < i
      · exact runCuts_walk_none hb hn hi h0 hr
      · obtain ⟨p, rfl⟩ := Int.eq_ofNat_of_zero_le (show 0 ≤ i by omega)
        exact runCuts_walk_ok hb hn h0 (by omega)
    · exact runCuts_walk_bad hb hn hi rfl h0

end Go.Proofs.Ytlmmlmmadgcmcaa
