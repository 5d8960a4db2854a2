/- The walk of the law ValidChecks, out of its callees' contracts. -/
import Derived.Test.YtpgbhgimjpbhoaaW11r
import Derived.Test.YtpgbhgimjpbhoaaKSchemaChecks
namespace Go.Proofs.Ytpgbhgimjpbhoaa
open Go.RowKit
set_option linter.unusedVariables false

theorem valid_a : validB [⟨⟨#[109]⟩, [⟨⟨#[97]⟩, 1, 17, false, false, 0⟩]⟩] 0 [10, 2, 10, 0] 2 = true ∧ validB [⟨⟨#[109]⟩, [⟨⟨#[97]⟩, 1, 17, false, false, 0⟩]⟩] 0 [10, 2, 10, 0] 1 = false := by decide +kernel

set_option maxHeartbeats 1000000 in
theorem alive11 (w : World) : Calls Try.prog 24 #[] w fun e w' => e = .returned (.bool true) ∧ Ext w w' := by
  have hs := schema_lit (w := w) (nm := ⟨#[109]⟩) (f := ⟨⟨#[97]⟩, 1, 17, false, false, 0⟩) (by constructor <;> decide) (by decide)
  have hv := valid_a
  have h1 := fun (W : World) (A : Option Addr) (n c : Nat) (S : MsgV) (e : S.d = ⟨⟨#[109]⟩, [⟨⟨#[97]⟩, 1, 17, false, false, 0⟩]⟩) (h : SchemaAt W A n c [S]) (B : Option Addr) (hb : BytesAt W B 4 4 [10, 2, 10, 0]) => vIs (root := 0) (d := 2) h hb (by omega)
  have h2 := fun (W : World) (A : Option Addr) (n c : Nat) (S : MsgV) (e : S.d = ⟨⟨#[109]⟩, [⟨⟨#[97]⟩, 1, 17, false, false, 0⟩]⟩) (h : SchemaAt W A n c [S]) (B : Option Addr) (hb : BytesAt W B 4 4 [10, 2, 10, 0]) => vIs (root := 0) (d := 1) h hb (by omega)
  have e1 : ∀ (S : MsgV) (e : S.d = ⟨⟨#[109]⟩, [⟨⟨#[97]⟩, 1, 17, false, false, 0⟩]⟩), validB (List.map MsgV.d [S]) 0 [10, 2, 10, 0] 2 = true ∧ validB (List.map MsgV.d [S]) 0 [10, 2, 10, 0] 1 = false := fun S e => by
    rw [List.map_cons, List.map_nil, e]
    exact hv
  have Hs := Lib.hid hs
  have H1 := Lib.hid h1
  have H2 := Lib.hid h2
  have He := Lib.hid e1
  clear hs hv h1 h2 e1
  go_enter Try.func24, Try.ntmps24
  go_wp2_with fail
  refine (H1.out _ _ _ _ _ rfl (Hs.out.up (by repeat with_reducible (first | exact Ext.refl _ | refine Ext.alloc ?_ _ | refine Ext.drew ?_ | refine Ext.drewN ?_ _ | refine Ext.setCell ?_ (by first | exact Nat.le_refl _ | omega | (simp; done) | (simp; omega)) _))) _ (bytes_lit _ _ _ [10, 2, 10, 0] 4 (by simp) (by simp [bv]) rfl (by simp [maxLen]))).mono ?_
  rintro e w1 ⟨rfl, E1⟩
  rw [(He.out _ rfl).1]
  have X1 : Ext w w1 := Ext.trans (by repeat with_reducible (first | exact Ext.refl _ | refine Ext.alloc ?_ _ | refine Ext.drew ?_ | refine Ext.drewN ?_ _ | refine Ext.setCell ?_ (by first | exact Nat.le_refl _ | omega | (simp; done) | (simp; omega)) _)) E1
  have Hs1 := Hs.out.up (Ext.trans (by repeat with_reducible (first | exact Ext.refl _ | refine Ext.alloc ?_ _ | refine Ext.drew ?_ | refine Ext.drewN ?_ _ | refine Ext.setCell ?_ (by first | exact Nat.le_refl _ | omega | (simp; done) | (simp; omega)) _)) E1)
  go_wp2_with fail
  refine (H2.out _ _ _ _ _ rfl (Hs1.up (by repeat with_reducible (first | exact Ext.refl _ | refine Ext.alloc ?_ _ | refine Ext.drew ?_ | refine Ext.drewN ?_ _ | refine Ext.setCell ?_ (by first | exact Nat.le_refl _ | omega | (simp; done) | (simp; omega)) _))) _ (bytes_lit _ _ _ [10, 2, 10, 0] 4 (by simp) (by simp [bv]) rfl (by simp [maxLen]))).mono ?_
  rintro e w2 ⟨rfl, E2⟩
  rw [(He.out _ rfl).2]
  go_wp2
  go_ret
  exact ⟨rfl, X1.trans (Ext.trans (by repeat with_reducible (first | exact Ext.refl _ | refine Ext.alloc ?_ _ | refine Ext.drew ?_ | refine Ext.drewN ?_ _ | refine Ext.setCell ?_ (by first | exact Nat.le_refl _ | omega | (simp; done) | (simp; omega)) _)) E2)⟩

set_option maxRecDepth 100000 in
set_option maxHeartbeats 2000000 in
theorem validChecks_walk {A : Option Addr} {n c : Nat} {S : List MsgV} {root : Int} {B : Option Addr} {n' c' : Nat} {bs : List UInt8} {d : Int} {w : World} (hs : SchemaAt w A n c S) (hroot : -9223372036854775808 ≤ root ∧ root < 9223372036854775808) (hb : BytesAt w B n' c' bs) (hd : -9223372036854775808 ≤ d ∧ d < 9223372036854775808) :
    Calls Try.prog 4 #[.slice A n c, .int .i64 root, .slice B n' c', .int .i64 d] w fun e w' => e = .returned (.bool true) ∧ Ext w w' := by
  have hE := Ext.refl w
  have hcap := Reads.cap hb
  by_cases hn : (1500 : Int) < n'
  · clear hroot hd
    go_enter Try.func4, Try.ntmps4
    go_wp2_with (first | (go_at_call 24; refine (alive11 _).mono ?_; rintro e w1 ⟨rfl, E1⟩; have X_ : Ext w w1 := Ext.trans (by repeat with_reducible (first | exact Ext.refl _ | refine Ext.alloc ?_ _ | refine Ext.drew ?_ | refine Ext.drewN ?_ _ | refine Ext.setCell ?_ (by first | exact Nat.le_refl _ | omega | (simp; done) | (simp; omega)) _)) E1; replace hE := hE.up X_; replace hs := hs.up X_; clear X_) | (go_at_call 12; refine (few07 hs).mono ?_; rintro e w2 ⟨x, rfl, E2⟩; have X_ : Ext w1 w2 := Ext.trans (by repeat with_reducible (first | exact Ext.refl _ | refine Ext.alloc ?_ _ | refine Ext.drew ?_ | refine Ext.drewN ?_ _ | refine Ext.setCell ?_ (by first | exact Nat.le_refl _ | omega | (simp; done) | (simp; omega)) _)) E2; replace hE := hE.up X_; clear X_))
    all_goals
      go_ret
      exact ⟨rfl, hE⟩
  · have h1 := fun W (h : SchemaAt W A n c S) (hb : BytesAt W B n' c' bs) => vCheck (root := root) (d := d) h hb (by omega)
    have h2 := fun W (h : SchemaAt W A n c S) (hb : BytesAt W B n' c' bs) => vCheckR (root := root) (d := d) h hb (by omega)
    have h3 := fun W (h : SchemaAt W A n c S) (hb : BytesAt W B n' c' bs) => vIs (root := root) (d := d) h hb (by omega)
    have h4 := fun W (h : SchemaAt W A n c S) => vArgs (root := root) (d := d) h
    have h5 := fun W (h : SchemaAt W A n c S) => vArgsR (root := root) (d := d) h
    have hle := checkB_le (S.map MsgV.d) root bs d
    have hal := argsV_le (S.map MsgV.d) root d
    have hv : validB (S.map MsgV.d) root bs d = (((checkB (S.map MsgV.d) root bs d).2 : Int) == 0) := by
      unfold validB
      rw [Bool.eq_iff_iff, decide_eq_true_iff, beq_iff_eq]
      omega
    rw [hv] at h3
    generalize checkB (S.map MsgV.d) root bs d = V at *
    generalize argsV (S.map MsgV.d) root d = a at *
    obtain ⟨P, C⟩ := V
    simp only at h1 h2 h3 hle
    have hlei : (C : Int) < 256 := by omega
    have hali : (a : Int) < 256 := by omega
    have hcc : ((((C : Int) == 0)) == ((C : Int) == 0)) = true := by simp
    have H1 := Lib.hid h1
    have H2 := Lib.hid h2
    have H3 := Lib.hid h3
    have H4 := Lib.hid h4
    have H5 := Lib.hid h5
    clear h1 h2 h3 h4 h5 hv hroot hd
    by_cases hC : C = 0
    · have q : ((C : Int) == 0) = true := by rw [beq_iff_eq]; omega
      clear hC
      go_enter Try.func4, Try.ntmps4
      go_wp2_with (first | (go_at_call 24; refine (alive11 _).mono ?_; rintro e w1 ⟨rfl, E1⟩; have X_ : Ext w w1 := Ext.trans (by repeat with_reducible (first | exact Ext.refl _ | refine Ext.alloc ?_ _ | refine Ext.drew ?_ | refine Ext.drewN ?_ _ | refine Ext.setCell ?_ (by first | exact Nat.le_refl _ | omega | (simp; done) | (simp; omega)) _)) E1; replace hE := hE.up X_; replace hs := hs.up X_; replace hb := hb.up X_; clear X_) | (go_at_call 12; refine (few07 hs).mono ?_; rintro e w2 ⟨x, rfl, E2⟩; have X_ : Ext w1 w2 := Ext.trans (by repeat with_reducible (first | exact Ext.refl _ | refine Ext.alloc ?_ _ | refine Ext.drew ?_ | refine Ext.drewN ?_ _ | refine Ext.setCell ?_ (by first | exact Nat.le_refl _ | omega | (simp; done) | (simp; omega)) _)) E2; replace hE := hE.up X_; replace hs := hs.up X_; replace hb := hb.up X_; clear X_) | (go_at_call 25; refine (H1.out _ hs hb).mono ?_; rintro e w3 ⟨rfl, E3⟩; have X_ : Ext w2 w3 := Ext.trans (by repeat with_reducible (first | exact Ext.refl _ | refine Ext.alloc ?_ _ | refine Ext.drew ?_ | refine Ext.drewN ?_ _ | refine Ext.setCell ?_ (by first | exact Nat.le_refl _ | omega | (simp; done) | (simp; omega)) _)) E3; replace hE := hE.up X_; replace hs := hs.up X_; replace hb := hb.up X_; clear X_) | (go_at_call 26; refine (H2.out _ hs hb).mono ?_; rintro e w4 ⟨rfl, E4⟩; have X_ : Ext w3 w4 := Ext.trans (by repeat with_reducible (first | exact Ext.refl _ | refine Ext.alloc ?_ _ | refine Ext.drew ?_ | refine Ext.drewN ?_ _ | refine Ext.setCell ?_ (by first | exact Nat.le_refl _ | omega | (simp; done) | (simp; omega)) _)) E4; replace hE := hE.up X_; replace hs := hs.up X_; replace hb := hb.up X_; clear X_) | (go_at_call 27; refine (H3.out _ hs hb).mono ?_; rintro e w5 ⟨rfl, E5⟩; have X_ : Ext w4 w5 := Ext.trans (by repeat with_reducible (first | exact Ext.refl _ | refine Ext.alloc ?_ _ | refine Ext.drew ?_ | refine Ext.drewN ?_ _ | refine Ext.setCell ?_ (by first | exact Nat.le_refl _ | omega | (simp; done) | (simp; omega)) _)) E5; replace hE := hE.up X_; replace hs := hs.up X_; clear X_) | (go_at_call 28; refine (H4.out _ hs).mono ?_; rintro e w6 ⟨rfl, E6⟩; have X_ : Ext w5 w6 := Ext.trans (by repeat with_reducible (first | exact Ext.refl _ | refine Ext.alloc ?_ _ | refine Ext.drew ?_ | refine Ext.drewN ?_ _ | refine Ext.setCell ?_ (by first | exact Nat.le_refl _ | omega | (simp; done) | (simp; omega)) _)) E6; replace hE := hE.up X_; replace hs := hs.up X_; clear X_) | (go_at_call 29; refine (H5.out _ hs).mono ?_; rintro e w7 ⟨rfl, E7⟩; have X_ : Ext w6 w7 := Ext.trans (by repeat with_reducible (first | exact Ext.refl _ | refine Ext.alloc ?_ _ | refine Ext.drew ?_ | refine Ext.drewN ?_ _ | refine Ext.setCell ?_ (by first | exact Nat.le_refl _ | omega | (simp; done) | (simp; omega)) _)) E7; replace hE := hE.up X_; clear X_))
      all_goals
        go_ret
        exact ⟨by simp, hE⟩
    · have q : ((C : Int) == 0) = false := by rw [beq_eq_false_iff_ne]; omega
      clear hC
      go_enter Try.func4, Try.ntmps4
      go_wp2_with (first | (go_at_call 24; refine (alive11 _).mono ?_; rintro e w1 ⟨rfl, E1⟩; have X_ : Ext w w1 := Ext.trans (by repeat with_reducible (first | exact Ext.refl _ | refine Ext.alloc ?_ _ | refine Ext.drew ?_ | refine Ext.drewN ?_ _ | refine Ext.setCell ?_ (by first | exact Nat.le_refl _ | omega | (simp; done) | (simp; omega)) _)) E1; replace hE := hE.up X_; replace hs := hs.up X_; replace hb := hb.up X_; clear X_) | (go_at_call 12; refine (few07 hs).mono ?_; rintro e w2 ⟨x, rfl, E2⟩; have X_ : Ext w1 w2 := Ext.trans (by repeat with_reducible (first | exact Ext.refl _ | refine Ext.alloc ?_ _ | refine Ext.drew ?_ | refine Ext.drewN ?_ _ | refine Ext.setCell ?_ (by first | exact Nat.le_refl _ | omega | (simp; done) | (simp; omega)) _)) E2; replace hE := hE.up X_; replace hs := hs.up X_; replace hb := hb.up X_; clear X_) | (go_at_call 25; refine (H1.out _ hs hb).mono ?_; rintro e w3 ⟨rfl, E3⟩; have X_ : Ext w2 w3 := Ext.trans (by repeat with_reducible (first | exact Ext.refl _ | refine Ext.alloc ?_ _ | refine Ext.drew ?_ | refine Ext.drewN ?_ _ | refine Ext.setCell ?_ (by first | exact Nat.le_refl _ | omega | (simp; done) | (simp; omega)) _)) E3; replace hE := hE.up X_; replace hs := hs.up X_; replace hb := hb.up X_; clear X_) | (go_at_call 26; refine (H2.out _ hs hb).mono ?_; rintro e w4 ⟨rfl, E4⟩; have X_ : Ext w3 w4 := Ext.trans (by repeat with_reducible (first | exact Ext.refl _ | refine Ext.alloc ?_ _ | refine Ext.drew ?_ | refine Ext.drewN ?_ _ | refine Ext.setCell ?_ (by first | exact Nat.le_refl _ | omega | (simp; done) | (simp; omega)) _)) E4; replace hE := hE.up X_; replace hs := hs.up X_; replace hb := hb.up X_; clear X_) | (go_at_call 27; refine (H3.out _ hs hb).mono ?_; rintro e w5 ⟨rfl, E5⟩; have X_ : Ext w4 w5 := Ext.trans (by repeat with_reducible (first | exact Ext.refl _ | refine Ext.alloc ?_ _ | refine Ext.drew ?_ | refine Ext.drewN ?_ _ | refine Ext.setCell ?_ (by first | exact Nat.le_refl _ | omega | (simp; done) | (simp; omega)) _)) E5; replace hE := hE.up X_; replace hs := hs.up X_; clear X_) | (go_at_call 28; refine (H4.out _ hs).mono ?_; rintro e w6 ⟨rfl, E6⟩; have X_ : Ext w5 w6 := Ext.trans (by repeat with_reducible (first | exact Ext.refl _ | refine Ext.alloc ?_ _ | refine Ext.drew ?_ | refine Ext.drewN ?_ _ | refine Ext.setCell ?_ (by first | exact Nat.le_refl _ | omega | (simp; done) | (simp; omega)) _)) E6; replace hE := hE.up X_; replace hs := hs.up X_; clear X_) | (go_at_call 29; refine (H5.out _ hs).mono ?_; rintro e w7 ⟨rfl, E7⟩; have X_ : Ext w6 w7 := Ext.trans (by repeat with_reducible (first | exact Ext.refl _ | refine Ext.alloc ?_ _ | refine Ext.drew ?_ | refine Ext.drewN ?_ _ | refine Ext.setCell ?_ (by first | exact Nat.le_refl _ | omega | (simp; done) | (simp; omega)) _)) E7; replace hE := hE.up X_; clear X_))
      all_goals
        go_ret
        exact ⟨by simp, hE⟩

end Go.Proofs.Ytpgbhgimjpbhoaa
