/- The walk of the law ScalarSame, out of its callees' contracts. -/
import Derived.Test.YtlmmlmmadgcmcaaKScalarReads
namespace Go.Proofs.Ytlmmlmmadgcmcaa
open Go.RowKit
set_option linter.unusedVariables false

theorem sSameE {A B : Option Addr} {n c m d : Nat} {xs ys : List UInt8} {k : Int} {w : World} {R : Bool} (ha : BytesAt w A n c xs) (hb : BytesAt w B m d ys) (h : decide ((readS k xs).2 = 0 ∧ (readS k ys).2 = 0 ∧ (readS k xs).1 = (readS k ys).1) = R) :
    Calls Try.prog 39 #[.int .i64 k, .slice A n c, .slice B m d] w fun e w' => e = .returned (.bool R) ∧ Ext w w' := by
  subst h
  exact sSame ha hb

theorem sSameSelf {A : Option Addr} {n c V : Nat} {xs : List UInt8} {k : Int} {w : World} (ha : BytesAt w A n c xs) (h : readS k xs = (V, 0)) :
    Calls Try.prog 39 #[.int .i64 k, .slice A n c, .slice A n c] w fun e w' => e = .returned (.bool true) ∧ Ext w w' :=
  sSameE ha ha (by rw [h]; simp)

theorem sameE {A B : Option Addr} {n c m d : Nat} {xs ys : List UInt8} {w : World} {R : Bool} (ha : BytesAt w A n c xs) (hb : BytesAt w B m d ys) (h : decide (xs = ys) = R) :
    Calls Try.prog 35 #[.slice A n c, .slice B m d] w fun e w' => e = .returned (.bool R) ∧ w = w' := by
  subst h
  exact same ha hb

theorem putS_inj {k : Int} (hk : numberB k = true) {x y : Nat} (hx : x < 18446744073709551616) (hy : y < 18446744073709551616) : putS k x = putS k y ↔ canonN k x = canonN k y := by
  constructor
  · intro h
    have h1 := readS_put hk hx
    have h2 := readS_put hk hy
    rw [h, h2] at h1
    simpa using h1.symm
  · intro h
    rw [← putS_canon k hx, h, putS_canon k hy]

set_option maxRecDepth 100000 in
set_option maxHeartbeats 1000000 in
theorem scalarSame_walk {k : Int} {x y : Nat} {A B : Option Addr} {n c m d : Nat} {xs ys : List UInt8} {w : World} (hk : -9223372036854775808 ≤ k ∧ k < 9223372036854775808) (hx : x < 18446744073709551616) (hy : y < 18446744073709551616) (ha : BytesAt w A n c xs) (sa : c * 1 ≤ 140737488351232) (hb : BytesAt w B m d ys) (sb : d * 1 ≤ 140737488351232) :
    Calls Try.prog 8 #[.int .i64 k, .int .u64 (x : Int), .int .u64 (y : Int), .slice A n c, .slice B m d] w fun e w' => e = .returned (.bool true) ∧ Ext w w' := by
  have hca := Reads.cap ha
  have hcb := Reads.cap hb
  have hE := Ext.refl w
  by_cases hn : (1000 : Int) < (n : Int) + m
  · go_enter Try.func8, Try.ntmps8
    go_wp2_with (go_at_call 30; refine (alive08 _).mono ?_; rintro e w1 ⟨rfl, E1⟩; have X_ : Ext w w1 := Ext.trans (by repeat with_reducible (first | exact Ext.refl _ | refine Ext.alloc ?_ _ | refine Ext.drew ?_ | refine Ext.drewN ?_ _ | refine Ext.setCell ?_ (by first | exact Nat.le_refl _ | omega | (simp; done) | (simp; omega)) _)) E1; replace hE := hE.up X_; clear X_)
    go_ret
    exact ⟨rfl, hE⟩
  · rcases hr : readS k xs with ⟨V, C⟩
    rcases hs : readS k ys with ⟨W, D⟩
    have h1 := readS_bd k xs
    have h2 := readS_bd k ys
    rw [hr] at h1
    rw [hs] at h2
    simp only at h1 h2
    obtain ⟨b1, b2⟩ := h1
    obtain ⟨b3, b4⟩ := h2
    have hsm := @sSameE A B n c m d xs ys k
    rw [hr, hs] at hsm
    simp only at hsm
    have Hsm := Lib.hid (fun (w : World) (R : Bool) => @hsm w R)
    have Hr := Lib.hid hr
    have Hs := Lib.hid hs
    clear hr hs hsm
    rcases hnum : numberB k with _ | _
    · have e1 := Hr.out
      have e2 := Hs.out
      rw [readS_no hnum] at e1 e2
      cases e1
      cases e2
      go_enter Try.func8, Try.ntmps8
      go_wp2_with (first | (go_at_call 30; refine (alive08 _).mono ?_; rintro e w1 ⟨rfl, E1⟩; have X_ : Ext w w1 := Ext.trans (by repeat with_reducible (first | exact Ext.refl _ | refine Ext.alloc ?_ _ | refine Ext.drew ?_ | refine Ext.drewN ?_ _ | refine Ext.setCell ?_ (by first | exact Nat.le_refl _ | omega | (simp; done) | (simp; omega)) _)) E1; replace hE := hE.up X_; replace ha := ha.up X_; replace hb := hb.up X_; clear X_) | (go_at_call 36; (with_reducible refine (sRead ha Hr.out).mono ?_); rintro e w2 ⟨rfl, E2⟩; have X_ : Ext w1 w2 := Ext.trans (by repeat with_reducible (first | exact Ext.refl _ | refine Ext.alloc ?_ _ | refine Ext.drew ?_ | refine Ext.drewN ?_ _ | refine Ext.setCell ?_ (by first | exact Nat.le_refl _ | omega | (simp; done) | (simp; omega)) _)) E2; replace hE := hE.up X_; replace ha := ha.up X_; replace hb := hb.up X_; clear X_; clear Hr) | (go_at_call 36; (with_reducible refine (sRead hb Hs.out).mono ?_); rintro e w3 ⟨rfl, E3⟩; have X_ : Ext w2 w3 := Ext.trans (by repeat with_reducible (first | exact Ext.refl _ | refine Ext.alloc ?_ _ | refine Ext.drew ?_ | refine Ext.drewN ?_ _ | refine Ext.setCell ?_ (by first | exact Nat.le_refl _ | omega | (simp; done) | (simp; omega)) _)) E3; replace hE := hE.up X_; replace ha := ha.up X_; replace hb := hb.up X_; clear X_) | (go_at_call 39; refine (Hsm.out _ false ha hb (by simp)).mono ?_; rintro e w4 ⟨rfl, E4⟩; have X_ : Ext w3 w4 := Ext.trans (by repeat with_reducible (first | exact Ext.refl _ | refine Ext.alloc ?_ _ | refine Ext.drew ?_ | refine Ext.drewN ?_ _ | refine Ext.setCell ?_ (by first | exact Nat.le_refl _ | omega | (simp; done) | (simp; omega)) _)) E4; replace hE := hE.up X_; replace ha := ha.up X_; replace hb := hb.up X_; clear X_) | (go_at_call 31; refine (sPut_no hx hnum).mono ?_; rintro e w5 ⟨rfl, E5⟩; have X_ : Ext w4 w5 := Ext.trans (by repeat with_reducible (first | exact Ext.refl _ | refine Ext.alloc ?_ _ | refine Ext.drew ?_ | refine Ext.drewN ?_ _ | refine Ext.setCell ?_ (by first | exact Nat.le_refl _ | omega | (simp; done) | (simp; omega)) _)) E5; replace hE := hE.up X_; clear X_; clear hx) | (go_at_call 31; refine (sPut_no hy hnum).mono ?_; rintro e w6 ⟨rfl, E6⟩; have X_ : Ext w5 w6 := Ext.trans (by repeat with_reducible (first | exact Ext.refl _ | refine Ext.alloc ?_ _ | refine Ext.drew ?_ | refine Ext.drewN ?_ _ | refine Ext.setCell ?_ (by first | exact Nat.le_refl _ | omega | (simp; done) | (simp; omega)) _)) E6; replace hE := hE.up X_; clear X_))
      go_ret
      exact ⟨rfl, hE⟩
    · have hc := canonN_lt k hx
      have hd := canonN_lt k hy
      have hp := readS_put hnum hx
      have hq := readS_put hnum hy
      have hcan : canonB k (putS k x) = true := by unfold canonB; rw [hp]; simp [putS_canon k hx]
      have hinj : decide (putS k x = putS k y) = ((canonN k x : Int) == (canonN k y : Int)) := by rw [Bool.eq_iff_iff]; simp [putS_inj hnum hx hy]; omega
      have hx0 := hx
      have Hp := Lib.hid hp
      have Hq := Lib.hid hq
      have Hinj := Lib.hid hinj
      have Hp2 := Lib.hid hp
      clear hp hq hinj
      by_cases hC : C = 0
      · subst hC
        by_cases hD : D = 0
        · subst hD
          have hR : decide (0 = 0 ∧ 0 = 0 ∧ V = W) = ((V : Int) == (W : Int)) := by rw [Bool.eq_iff_iff]; simp; omega
          have HR := Lib.hid hR
          clear hR
          go_enter Try.func8, Try.ntmps8
          go_wp2_with (first | (go_at_call 30; refine (alive08 _).mono ?_; rintro e w1 ⟨rfl, E1⟩; have X_ : Ext w w1 := Ext.trans (by repeat with_reducible (first | exact Ext.refl _ | refine Ext.alloc ?_ _ | refine Ext.drew ?_ | refine Ext.drewN ?_ _ | refine Ext.setCell ?_ (by first | exact Nat.le_refl _ | omega | (simp; done) | (simp; omega)) _)) E1; replace hE := hE.up X_; replace ha := ha.up X_; replace hb := hb.up X_; clear X_) | (go_at_call 36; (with_reducible refine (sRead ha Hr.out).mono ?_); rintro e w2 ⟨rfl, E2⟩; have X_ : Ext w1 w2 := Ext.trans (by repeat with_reducible (first | exact Ext.refl _ | refine Ext.alloc ?_ _ | refine Ext.drew ?_ | refine Ext.drewN ?_ _ | refine Ext.setCell ?_ (by first | exact Nat.le_refl _ | omega | (simp; done) | (simp; omega)) _)) E2; replace hE := hE.up X_; replace ha := ha.up X_; replace hb := hb.up X_; clear X_; clear Hr) | (go_at_call 36; (with_reducible refine (sRead hb Hs.out).mono ?_); rintro e w3 ⟨rfl, E3⟩; have X_ : Ext w2 w3 := Ext.trans (by repeat with_reducible (first | exact Ext.refl _ | refine Ext.alloc ?_ _ | refine Ext.drew ?_ | refine Ext.drewN ?_ _ | refine Ext.setCell ?_ (by first | exact Nat.le_refl _ | omega | (simp; done) | (simp; omega)) _)) E3; replace hE := hE.up X_; replace ha := ha.up X_; replace hb := hb.up X_; clear X_; clear Hs) | (go_at_call 39; (with_reducible refine (Hsm.out _ ((V : Int) == (W : Int)) ha hb HR.out).mono ?_); rintro e w4 ⟨rfl, E4⟩; have X_ : Ext w3 w4 := Ext.trans (by repeat with_reducible (first | exact Ext.refl _ | refine Ext.alloc ?_ _ | refine Ext.drew ?_ | refine Ext.drewN ?_ _ | refine Ext.setCell ?_ (by first | exact Nat.le_refl _ | omega | (simp; done) | (simp; omega)) _)) E4; replace hE := hE.up X_; clear X_; clear ha hb) | (go_at_call 31; (with_reducible refine (sPut hx hnum rfl).mono ?_); rintro e w5 ⟨A5, c5, rfl, own5⟩; have X_ : Ext w4 w5 := Ext.trans (by repeat with_reducible (first | exact Ext.refl _ | refine Ext.alloc ?_ _ | refine Ext.drew ?_ | refine Ext.drewN ?_ _ | refine Ext.setCell ?_ (by first | exact Nat.le_refl _ | omega | (simp; done) | (simp; omega)) _)) own5.ext; replace hE := hE.up X_; clear X_; clear hx) | (go_at_call 31; (with_reducible refine (sPut hy hnum rfl).mono ?_); rintro e w6 ⟨A6, c6, rfl, own6⟩; have X_ : Ext w5 w6 := Ext.trans (by repeat with_reducible (first | exact Ext.refl _ | refine Ext.alloc ?_ _ | refine Ext.drew ?_ | refine Ext.drewN ?_ _ | refine Ext.setCell ?_ (by first | exact Nat.le_refl _ | omega | (simp; done) | (simp; omega)) _)) own6.ext; replace hE := hE.up X_; replace own5 := own5.up X_; clear X_) | (go_at_call 36; (with_reducible refine (sRead (Own.bytes own5) Hp.out).mono ?_); rintro e w7 ⟨rfl, E7⟩; have X_ : Ext w6 w7 := Ext.trans (by repeat with_reducible (first | exact Ext.refl _ | refine Ext.alloc ?_ _ | refine Ext.drew ?_ | refine Ext.drewN ?_ _ | refine Ext.setCell ?_ (by first | exact Nat.le_refl _ | omega | (simp; done) | (simp; omega)) _)) E7; replace hE := hE.up X_; replace own5 := own5.up X_; replace own6 := own6.up X_; clear X_; clear Hp) | (go_at_call 36; (with_reducible refine (sRead (Own.bytes own6) Hq.out).mono ?_); rintro e w8 ⟨rfl, E8⟩; have X_ : Ext w7 w8 := Ext.trans (by repeat with_reducible (first | exact Ext.refl _ | refine Ext.alloc ?_ _ | refine Ext.drew ?_ | refine Ext.drewN ?_ _ | refine Ext.setCell ?_ (by first | exact Nat.le_refl _ | omega | (simp; done) | (simp; omega)) _)) E8; replace hE := hE.up X_; replace own5 := own5.up X_; replace own6 := own6.up X_; clear X_) | (go_at_call 35; refine (sameE own5.bytes own6.bytes Hinj.out).mono ?_; rintro e w' ⟨rfl, rfl⟩) | (go_at_call 38; refine (sCanonicalE own5.bytes hcan).mono ?_; rintro e w9 ⟨rfl, E9⟩; have X_ : Ext w8 w9 := Ext.trans (by repeat with_reducible (first | exact Ext.refl _ | refine Ext.alloc ?_ _ | refine Ext.drew ?_ | refine Ext.drewN ?_ _ | refine Ext.setCell ?_ (by first | exact Nat.le_refl _ | omega | (simp; done) | (simp; omega)) _)) E9; replace hE := hE.up X_; replace own5 := own5.up X_; clear X_) | (go_at_call 39; refine (sSameSelf own5.bytes Hp2.out).mono ?_; rintro e w10 ⟨rfl, E10⟩; have X_ : Ext w9 w10 := Ext.trans (by repeat with_reducible (first | exact Ext.refl _ | refine Ext.alloc ?_ _ | refine Ext.drew ?_ | refine Ext.drewN ?_ _ | refine Ext.setCell ?_ (by first | exact Nat.le_refl _ | omega | (simp; done) | (simp; omega)) _)) E10; replace hE := hE.up X_; clear X_) | (go_at_call 40; refine (kCanonR _ _ hx0 _).mono ?_; rintro e w' ⟨rfl, rfl⟩))
          all_goals
            go_ret
            exact ⟨rfl, hE⟩
        · have hR : decide (0 = 0 ∧ D = 0 ∧ V = W) = false := by simp [hD]
          have q : ((D : Int) == 0) = false := by simp; omega
          have HR := Lib.hid hR
          clear hR hD
          go_enter Try.func8, Try.ntmps8
          go_wp2_with (first | (go_at_call 30; refine (alive08 _).mono ?_; rintro e w1 ⟨rfl, E1⟩; have X_ : Ext w w1 := Ext.trans (by repeat with_reducible (first | exact Ext.refl _ | refine Ext.alloc ?_ _ | refine Ext.drew ?_ | refine Ext.drewN ?_ _ | refine Ext.setCell ?_ (by first | exact Nat.le_refl _ | omega | (simp; done) | (simp; omega)) _)) E1; replace hE := hE.up X_; replace ha := ha.up X_; replace hb := hb.up X_; clear X_) | (go_at_call 36; (with_reducible refine (sRead ha Hr.out).mono ?_); rintro e w2 ⟨rfl, E2⟩; have X_ : Ext w1 w2 := Ext.trans (by repeat with_reducible (first | exact Ext.refl _ | refine Ext.alloc ?_ _ | refine Ext.drew ?_ | refine Ext.drewN ?_ _ | refine Ext.setCell ?_ (by first | exact Nat.le_refl _ | omega | (simp; done) | (simp; omega)) _)) E2; replace hE := hE.up X_; replace ha := ha.up X_; replace hb := hb.up X_; clear X_; clear Hr) | (go_at_call 36; (with_reducible refine (sRead hb Hs.out).mono ?_); rintro e w3 ⟨rfl, E3⟩; have X_ : Ext w2 w3 := Ext.trans (by repeat with_reducible (first | exact Ext.refl _ | refine Ext.alloc ?_ _ | refine Ext.drew ?_ | refine Ext.drewN ?_ _ | refine Ext.setCell ?_ (by first | exact Nat.le_refl _ | omega | (simp; done) | (simp; omega)) _)) E3; replace hE := hE.up X_; replace ha := ha.up X_; replace hb := hb.up X_; clear X_; clear Hs) | (go_at_call 39; (with_reducible refine (Hsm.out _ false ha hb HR.out).mono ?_); rintro e w4 ⟨rfl, E4⟩; have X_ : Ext w3 w4 := Ext.trans (by repeat with_reducible (first | exact Ext.refl _ | refine Ext.alloc ?_ _ | refine Ext.drew ?_ | refine Ext.drewN ?_ _ | refine Ext.setCell ?_ (by first | exact Nat.le_refl _ | omega | (simp; done) | (simp; omega)) _)) E4; replace hE := hE.up X_; clear X_; clear ha hb) | (go_at_call 31; (with_reducible refine (sPut hx hnum rfl).mono ?_); rintro e w5 ⟨A5, c5, rfl, own5⟩; have X_ : Ext w4 w5 := Ext.trans (by repeat with_reducible (first | exact Ext.refl _ | refine Ext.alloc ?_ _ | refine Ext.drew ?_ | refine Ext.drewN ?_ _ | refine Ext.setCell ?_ (by first | exact Nat.le_refl _ | omega | (simp; done) | (simp; omega)) _)) own5.ext; replace hE := hE.up X_; clear X_; clear hx) | (go_at_call 31; (with_reducible refine (sPut hy hnum rfl).mono ?_); rintro e w6 ⟨A6, c6, rfl, own6⟩; have X_ : Ext w5 w6 := Ext.trans (by repeat with_reducible (first | exact Ext.refl _ | refine Ext.alloc ?_ _ | refine Ext.drew ?_ | refine Ext.drewN ?_ _ | refine Ext.setCell ?_ (by first | exact Nat.le_refl _ | omega | (simp; done) | (simp; omega)) _)) own6.ext; replace hE := hE.up X_; replace own5 := own5.up X_; clear X_) | (go_at_call 36; (with_reducible refine (sRead (Own.bytes own5) Hp.out).mono ?_); rintro e w7 ⟨rfl, E7⟩; have X_ : Ext w6 w7 := Ext.trans (by repeat with_reducible (first | exact Ext.refl _ | refine Ext.alloc ?_ _ | refine Ext.drew ?_ | refine Ext.drewN ?_ _ | refine Ext.setCell ?_ (by first | exact Nat.le_refl _ | omega | (simp; done) | (simp; omega)) _)) E7; replace hE := hE.up X_; replace own5 := own5.up X_; replace own6 := own6.up X_; clear X_; clear Hp) | (go_at_call 36; (with_reducible refine (sRead (Own.bytes own6) Hq.out).mono ?_); rintro e w8 ⟨rfl, E8⟩; have X_ : Ext w7 w8 := Ext.trans (by repeat with_reducible (first | exact Ext.refl _ | refine Ext.alloc ?_ _ | refine Ext.drew ?_ | refine Ext.drewN ?_ _ | refine Ext.setCell ?_ (by first | exact Nat.le_refl _ | omega | (simp; done) | (simp; omega)) _)) E8; replace hE := hE.up X_; replace own5 := own5.up X_; replace own6 := own6.up X_; clear X_) | (go_at_call 35; refine (sameE own5.bytes own6.bytes Hinj.out).mono ?_; rintro e w' ⟨rfl, rfl⟩) | (go_at_call 38; refine (sCanonicalE own5.bytes hcan).mono ?_; rintro e w9 ⟨rfl, E9⟩; have X_ : Ext w8 w9 := Ext.trans (by repeat with_reducible (first | exact Ext.refl _ | refine Ext.alloc ?_ _ | refine Ext.drew ?_ | refine Ext.drewN ?_ _ | refine Ext.setCell ?_ (by first | exact Nat.le_refl _ | omega | (simp; done) | (simp; omega)) _)) E9; replace hE := hE.up X_; replace own5 := own5.up X_; clear X_) | (go_at_call 39; refine (sSameSelf own5.bytes Hp2.out).mono ?_; rintro e w10 ⟨rfl, E10⟩; have X_ : Ext w9 w10 := Ext.trans (by repeat with_reducible (first | exact Ext.refl _ | refine Ext.alloc ?_ _ | refine Ext.drew ?_ | refine Ext.drewN ?_ _ | refine Ext.setCell ?_ (by first | exact Nat.le_refl _ | omega | (simp; done) | (simp; omega)) _)) E10; replace hE := hE.up X_; clear X_) | (go_at_call 40; refine (kCanonR _ _ hx0 _).mono ?_; rintro e w' ⟨rfl, rfl⟩))
          all_goals
            go_ret
            exact ⟨rfl, hE⟩
      · have hR : decide (C = 0 ∧ D = 0 ∧ V = W) = false := by simp [hC]
        have q : ((C : Int) == 0) = false := by simp; omega
        have HR := Lib.hid hR
        clear hR hC
        go_enter Try.func8, Try.ntmps8
        go_wp2_with (first | (go_at_call 30; refine (alive08 _).mono ?_; rintro e w1 ⟨rfl, E1⟩; have X_ : Ext w w1 := Ext.trans (by repeat with_reducible (first | exact Ext.refl _ | refine Ext.alloc ?_ _ | refine Ext.drew ?_ | refine Ext.drewN ?_ _ | refine Ext.setCell ?_ (by first | exact Nat.le_refl _ | omega | (simp; done) | (simp; omega)) _)) E1; replace hE := hE.up X_; replace ha := ha.up X_; replace hb := hb.up X_; clear X_) | (go_at_call 36; (with_reducible refine (sRead ha Hr.out).mono ?_); rintro e w2 ⟨rfl, E2⟩; have X_ : Ext w1 w2 := Ext.trans (by repeat with_reducible (first | exact Ext.refl _ | refine Ext.alloc ?_ _ | refine Ext.drew ?_ | refine Ext.drewN ?_ _ | refine Ext.setCell ?_ (by first | exact Nat.le_refl _ | omega | (simp; done) | (simp; omega)) _)) E2; replace hE := hE.up X_; replace ha := ha.up X_; replace hb := hb.up X_; clear X_; clear Hr) | (go_at_call 36; (with_reducible refine (sRead hb Hs.out).mono ?_); rintro e w3 ⟨rfl, E3⟩; have X_ : Ext w2 w3 := Ext.trans (by repeat with_reducible (first | exact Ext.refl _ | refine Ext.alloc ?_ _ | refine Ext.drew ?_ | refine Ext.drewN ?_ _ | refine Ext.setCell ?_ (by first | exact Nat.le_refl _ | omega | (simp; done) | (simp; omega)) _)) E3; replace hE := hE.up X_; replace ha := ha.up X_; replace hb := hb.up X_; clear X_; clear Hs) | (go_at_call 39; (with_reducible refine (Hsm.out _ false ha hb HR.out).mono ?_); rintro e w4 ⟨rfl, E4⟩; have X_ : Ext w3 w4 := Ext.trans (by repeat with_reducible (first | exact Ext.refl _ | refine Ext.alloc ?_ _ | refine Ext.drew ?_ | refine Ext.drewN ?_ _ | refine Ext.setCell ?_ (by first | exact Nat.le_refl _ | omega | (simp; done) | (simp; omega)) _)) E4; replace hE := hE.up X_; clear X_; clear ha hb) | (go_at_call 31; (with_reducible refine (sPut hx hnum rfl).mono ?_); rintro e w5 ⟨A5, c5, rfl, own5⟩; have X_ : Ext w4 w5 := Ext.trans (by repeat with_reducible (first | exact Ext.refl _ | refine Ext.alloc ?_ _ | refine Ext.drew ?_ | refine Ext.drewN ?_ _ | refine Ext.setCell ?_ (by first | exact Nat.le_refl _ | omega | (simp; done) | (simp; omega)) _)) own5.ext; replace hE := hE.up X_; clear X_; clear hx) | (go_at_call 31; (with_reducible refine (sPut hy hnum rfl).mono ?_); rintro e w6 ⟨A6, c6, rfl, own6⟩; have X_ : Ext w5 w6 := Ext.trans (by repeat with_reducible (first | exact Ext.refl _ | refine Ext.alloc ?_ _ | refine Ext.drew ?_ | refine Ext.drewN ?_ _ | refine Ext.setCell ?_ (by first | exact Nat.le_refl _ | omega | (simp; done) | (simp; omega)) _)) own6.ext; replace hE := hE.up X_; replace own5 := own5.up X_; clear X_) | (go_at_call 36; (with_reducible refine (sRead (Own.bytes own5) Hp.out).mono ?_); rintro e w7 ⟨rfl, E7⟩; have X_ : Ext w6 w7 := Ext.trans (by repeat with_reducible (first | exact Ext.refl _ | refine Ext.alloc ?_ _ | refine Ext.drew ?_ | refine Ext.drewN ?_ _ | refine Ext.setCell ?_ (by first | exact Nat.le_refl _ | omega | (simp; done) | (simp; omega)) _)) E7; replace hE := hE.up X_; replace own5 := own5.up X_; replace own6 := own6.up X_; clear X_; clear Hp) | (go_at_call 36; (with_reducible refine (sRead (Own.bytes own6) Hq.out).mono ?_); rintro e w8 ⟨rfl, E8⟩; have X_ : Ext w7 w8 := Ext.trans (by repeat with_reducible (first | exact Ext.refl _ | refine Ext.alloc ?_ _ | refine Ext.drew ?_ | refine Ext.drewN ?_ _ | refine Ext.setCell ?_ (by first | exact Nat.le_refl _ | omega | (simp; done) | (simp; omega)) _)) E8; replace hE := hE.up X_; replace own5 := own5.up X_; replace own6 := own6.up X_; clear X_) | (go_at_call 35; refine (sameE own5.bytes own6.bytes Hinj.out).mono ?_; rintro e w' ⟨rfl, rfl⟩) | (go_at_call 38; refine (sCanonicalE own5.bytes hcan).mono ?_; rintro e w9 ⟨rfl, E9⟩; have X_ : Ext w8 w9 := Ext.trans (by repeat with_reducible (first | exact Ext.refl _ | refine Ext.alloc ?_ _ | refine Ext.drew ?_ | refine Ext.drewN ?_ _ | refine Ext.setCell ?_ (by first | exact Nat.le_refl _ | omega | (simp; done) | (simp; omega)) _)) E9; replace hE := hE.up X_; replace own5 := own5.up X_; clear X_) | (go_at_call 39; refine (sSameSelf own5.bytes Hp2.out).mono ?_; rintro e w10 ⟨rfl, E10⟩; have X_ : Ext w9 w10 := Ext.trans (by repeat with_reducible (first | exact Ext.refl _ | refine Ext.alloc ?_ _ | refine Ext.drew ?_ | refine Ext.drewN ?_ _ | refine Ext.setCell ?_ (by first | exact Nat.le_refl _ | omega | (simp; done) | (simp; omega)) _)) E10; replace hE := hE.up X_; clear X_) | (go_at_call 40; refine (kCanonR _ _ hx0 _).mono ?_; rintro e w' ⟨rfl, rfl⟩))
        all_goals
          go_ret
          exact ⟨rfl, hE⟩

end Go.Proofs.Ytlmmlmmadgcmcaa
