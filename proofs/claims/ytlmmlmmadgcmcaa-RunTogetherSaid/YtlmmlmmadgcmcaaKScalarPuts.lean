/- The walk of the law ScalarPuts, out of its callees' contracts. -/
import Derived.Test.YtlmmlmmadgcmcaaW8
namespace Go.Proofs.Ytlmmlmmadgcmcaa
open Go.RowKit
set_option linter.unusedVariables false

theorem readS_alive : readS 1 [255, 255, 255, 255, 15] = (18446744073709551615, 0) := by decide +kernel

theorem putS_alive : (putS 1 18446744073709551615).length = 10 := by decide +kernel

theorem alive08 (w : World) : Calls Try.prog 30 #[] w fun e w' => e = .returned (.bool true) ∧ Ext w w' := by
  obtain ⟨X, hX⟩ : ∃ X : Nat, X = 18446744073709551615 := ⟨_, rfl⟩
  have hr := readS_alive
  have hp := putS_alive
  rw [← hX] at hr hp
  have hlt : X < 18446744073709551616 := by omega
  have q : ((X : Int) == 18446744073709551615) = true := by rw [hX]; rfl
  have hs := fun (W : World) (h : BytesAt (W.alloc (.cells #[.int .u8 255, .int .u8 255, .int .u8 255, .int .u8 255, .int .u8 15] 5)) (some ⟨W.heap.size, 0, none⟩) 5 5 [255, 255, 255, 255, 15]) => sRead (k := 1) h hr
  have Hs := Lib.hid hs
  have Hp := Lib.hid hp
  clear hX hr hs hp
  go_enter Try.func30, Try.ntmps30
  go_wp2_with fail
  refine (Hs.out _ (bytes_lit _ _ _ [255, 255, 255, 255, 15] 5 rfl (by simp [bv]) rfl (by simp [maxLen]))).mono ?_
  rintro e w1 ⟨rfl, E1⟩
  have hE : Ext w w1 := Ext.trans (by repeat with_reducible (first | exact Ext.refl _ | refine Ext.alloc ?_ _ | refine Ext.drew ?_ | refine Ext.drewN ?_ _ | refine Ext.setCell ?_ (by first | exact Nat.le_refl _ | omega | (simp; done) | (simp; omega)) _)) E1
  go_wp2_with fail
  refine (sPut hlt rfl rfl).mono ?_
  rintro e w2 ⟨A2, c2, rfl, own2⟩
  rw [Hp.out] at own2 ⊢
  go_wp2
  go_ret
  exact ⟨rfl, hE.trans own2.ext⟩

theorem scalarPuts_walk {k : Int} {x : Nat} {w : World} (hk : -9223372036854775808 ≤ k ∧ k < 9223372036854775808) (hx : x < 18446744073709551616) :
    Calls Try.prog 6 #[.int .i64 k, .int .u64 (x : Int)] w fun e w' => e = .returned (.bool true) ∧ Ext w w' := by
  have hE := Ext.refl w
  rcases hn : numberB k with _ | _
  · have kn := fun W : World => kNumberR k W
    rw [hn] at kn
    have Kn := Lib.hid kn
    clear kn
    go_enter Try.func6, Try.ntmps6
    go_wp2_with (first | (go_at_call 30; refine (alive08 _).mono ?_; rintro e w1 ⟨rfl, E1⟩; have X_ : Ext w w1 := Ext.trans (by repeat with_reducible (first | exact Ext.refl _ | refine Ext.alloc ?_ _ | refine Ext.drew ?_ | refine Ext.drewN ?_ _ | refine Ext.setCell ?_ (by first | exact Nat.le_refl _ | omega | (simp; done) | (simp; omega)) _)) E1; replace hE := hE.up X_; clear X_) | (go_at_call 31; refine (sPut_no hx hn).mono ?_; rintro e w2 ⟨rfl, E2⟩; have X_ : Ext w1 w2 := Ext.trans (by repeat with_reducible (first | exact Ext.refl _ | refine Ext.alloc ?_ _ | refine Ext.drew ?_ | refine Ext.drewN ?_ _ | refine Ext.setCell ?_ (by first | exact Nat.le_refl _ | omega | (simp; done) | (simp; omega)) _)) E2; replace hE := hE.up X_; clear X_) | (go_at_call 32; refine (Kn.out _).mono ?_; rintro e w' ⟨rfl, rfl⟩) | (go_at_call 33; refine (sSize_no hx hn).mono ?_; rintro e w3 ⟨rfl, E3⟩; have X_ : Ext w2 w3 := Ext.trans (by repeat with_reducible (first | exact Ext.refl _ | refine Ext.alloc ?_ _ | refine Ext.drew ?_ | refine Ext.drewN ?_ _ | refine Ext.setCell ?_ (by first | exact Nat.le_refl _ | omega | (simp; done) | (simp; omega)) _)) E3; replace hE := hE.up X_; clear X_))
    go_ret
    exact ⟨rfl, hE⟩
  · have kn := fun W : World => kNumberR k W
    rw [hn] at kn
    have Kn := Lib.hid kn
    clear kn
    go_enter Try.func6, Try.ntmps6
    go_wp2_with (first | (go_at_call 30; refine (alive08 _).mono ?_; rintro e w1 ⟨rfl, E1⟩; have X_ : Ext w w1 := Ext.trans (by repeat with_reducible (first | exact Ext.refl _ | refine Ext.alloc ?_ _ | refine Ext.drew ?_ | refine Ext.drewN ?_ _ | refine Ext.setCell ?_ (by first | exact Nat.le_refl _ | omega | (simp; done) | (simp; omega)) _)) E1; replace hE := hE.up X_; clear X_) | (go_at_call 31; refine (sPut hx hn rfl).mono ?_; rintro e w2 ⟨A2, c2, rfl, own2⟩; have X_ : Ext w1 w2 := Ext.trans (by repeat with_reducible (first | exact Ext.refl _ | refine Ext.alloc ?_ _ | refine Ext.drew ?_ | refine Ext.drewN ?_ _ | refine Ext.setCell ?_ (by first | exact Nat.le_refl _ | omega | (simp; done) | (simp; omega)) _)) own2.ext; replace hE := hE.up X_; clear X_) | (go_at_call 32; refine (Kn.out _).mono ?_; rintro e w' ⟨rfl, rfl⟩) | (go_at_call 34; refine (sPutR hx).mono ?_; rintro e w3 ⟨A3, c3, rfl, own3⟩; have X_ : Ext w2 w3 := Ext.trans (by repeat with_reducible (first | exact Ext.refl _ | refine Ext.alloc ?_ _ | refine Ext.drew ?_ | refine Ext.drewN ?_ _ | refine Ext.setCell ?_ (by first | exact Nat.le_refl _ | omega | (simp; done) | (simp; omega)) _)) own3.ext; replace hE := hE.up X_; replace own2 := own2.up X_; clear X_) | (go_at_call 35; refine (same own2.reads own3.reads).mono ?_; rintro e w' ⟨rfl, rfl⟩; clear own2 own3) | (go_at_call 33; refine (sSize hx hn).mono ?_; rintro e w4 ⟨rfl, E4⟩; have X_ : Ext w3 w4 := Ext.trans (by repeat with_reducible (first | exact Ext.refl _ | refine Ext.alloc ?_ _ | refine Ext.drew ?_ | refine Ext.drewN ?_ _ | refine Ext.setCell ?_ (by first | exact Nat.le_refl _ | omega | (simp; done) | (simp; omega)) _)) E4; replace hE := hE.up X_; clear X_))
    go_ret
    exact ⟨rfl, hE⟩

end Go.Proofs.Ytlmmlmmadgcmcaa
