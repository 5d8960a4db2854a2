/- The walk of the law ValidDepths, out of its callees' contracts. -/
import Derived.Test.YtpgbhgimjpbhoaaKValidChecks
namespace Go.Proofs.Ytpgbhgimjpbhoaa
open Go.RowKit
set_option linter.unusedVariables false

/-- Valid bytes are valid just from their depth on. -/
theorem valid_at {S : List MsgD} {root : Int} {bs : List UInt8} (h : (checkB S root bs 64).2 = 0) {k : Nat} (hk : k ≤ 64) : deepV S 64 root.toNat bs ≤ 64 ∧ validB S root bs (k : Int) = decide (deepV S 64 root.toNat bs ≤ k) := by
  have ha : argsV S root 64 = 0 := by
    by_cases c : argsV S root 64 = 0
    · exact c
    · unfold checkB at h
      rw [if_neg c] at h
      exact absurd h c
  have hak : argsV S root (k : Int) = 0 := by
    unfold argsV at ha ⊢
    by_cases c : rightS S = false
    · rw [if_pos c] at ha; omega
    · rw [if_neg c] at ha ⊢
      by_cases c2 : root < 0 ∨ (S.length : Int) ≤ root ∨ (64 : Int) < 0 ∨ 64 < (64 : Int)
      · rw [if_pos c2] at ha; omega
      · rw [if_neg (by omega)]
  unfold checkB at h
  rw [if_pos ha, show (64 : Int).toNat = 64 from rfl] at h
  have hm := firstV_mono S 64 64 root.toNat bs (Nat.le_refl _) h
  refine ⟨hm.2.2, ?_⟩
  unfold validB checkB
  rw [if_pos hak, Int.toNat_natCast, Bool.eq_iff_iff, decide_eq_true_iff, decide_eq_true_iff]
  constructor
  · intro hv
    have h1 := firstV_mono S k 64 root.toNat bs hk hv
    omega
  · intro hd
    exact firstV_deep S 64 k root.toNat bs hk h hd

set_option maxRecDepth 100000 in
theorem vDepthR {A : Option Addr} {n c : Nat} {S : List MsgV} {root : Int} {B : Option Addr} {n' c' : Nat} {bs : List UInt8} {w : World} (hs : SchemaAt w A n c S) (hb : BytesAt w B n' c' bs) (hn : n' ≤ 1000000000) (h : (checkB (S.map MsgV.d) root bs 64).2 = 0) :
    Calls Try.prog 31 #[.slice A n c, .int .i64 root, .slice B n' c'] w fun e w' => e = .returned (.int .i64 (deepV (S.map MsgV.d) 64 root.toNat bs : Nat)) ∧ Ext w w' := by
  have hv := fun (k : Nat) (hk : k ≤ 64) => valid_at (k := k) h hk
  have h64 := (hv 0 (by omega)).1
  have his := fun (k : Nat) (b : Bool) (hk : k ≤ 64) (hb2 : decide (deepV (S.map MsgV.d) 64 root.toNat bs ≤ k) = b) (W : World) (h1 : SchemaAt W A n c S) (h2 : BytesAt W B n' c' bs) => show Calls Try.prog 64 #[.slice A n c, .int .i64 root, .slice B n' c', .int .i64 (k : Int)] W fun e w' => e = .returned (.bool b) ∧ Ext W w' by
    have h3 := vIsR (root := root) (d := (k : Int)) h1 h2 hn
    rw [(hv k hk).2, hb2] at h3
    exact h3
  generalize deepV (S.map MsgV.d) 64 root.toNat bs = D at *
  have His := Lib.hid his
  clear his hv h
  go_enter Try.func31, Try.ntmps31
  go_wp2
  go_loopw [7] (fun i wr => ∃ k : Nat, k ≤ D ∧ i = .int .i64 (k : Int) ∧ Ext w wr) (fun i _ => 64 - (intOf i).toNat)
  case atStart => exact ⟨0, Nat.zero_le _, rfl, Ext.refl _⟩
  case round =>
    obtain ⟨k, hk, rfl, hE⟩ := hrel
    have hs2 := hs.up hE
    have hb2 := hb.up hE
    by_cases h6 : k = 64
    · have h6i : ¬ (k : Int) < 64 := by omega
      have hD : D = 64 := by omega
      have HD := Lib.hid hD
      clear h6 hD
      go_wp2
      go_ret
      rw [HD.out]
      exact ⟨rfl, hE⟩
    · have h6i : (k : Int) < 64 := by omega
      by_cases hd : D ≤ k
      · obtain rfl : D = k := by omega
        have hc := His.out D true (by omega) (by simp)
        have Hc := Lib.hid hc
        clear hc hd h6
        go_wp2_with (go_at_call 64; refine (Hc.out _ hs2 hb2).mono ?_; rintro e w1 ⟨rfl, E1⟩)
        go_ret
        exact ⟨rfl, hE.trans E1⟩
      · have hc := His.out k false (by omega) (by simp; omega)
        have Hc := Lib.hid hc
        clear hc h6
        go_wp2_with (go_at_call 64; refine (Hc.out _ hs2 hb2).mono ?_; rintro e w1 ⟨rfl, E1⟩)
        go_roundw
        case rel => exact ⟨k + 1, by omega, by go_num, hE.trans E1⟩
        case measure => simp [intOf]; omega

theorem depthV_le (S : List MsgD) (root : Int) (bs : List UInt8) : (depthV S root bs).2 ≤ 12 := by
  have := checkB_le S root bs 64
  unfold depthV
  split
  · simp
  · exact this

set_option maxRecDepth 100000 in
set_option maxHeartbeats 2000000 in
theorem validDepths_walk {A : Option Addr} {n c : Nat} {S : List MsgV} {root : Int} {B : Option Addr} {n' c' : Nat} {bs : List UInt8} {w : World} (hs : SchemaAt w A n c S) (hroot : -9223372036854775808 ≤ root ∧ root < 9223372036854775808) (hb : BytesAt w B n' c' bs) :
    Calls Try.prog 5 #[.slice A n c, .int .i64 root, .slice B n' c'] w fun e w' => e = .returned (.bool true) ∧ Ext w w' := by
  have hE := Ext.refl w
  have hcap := Reads.cap hb
  by_cases hn : (700 : Int) < n'
  · clear hroot
    go_enter Try.func5, Try.ntmps5
    go_wp2_with (first | (go_at_call 24; refine (alive11 _).mono ?_; rintro e w1 ⟨rfl, E1⟩; have X_ : Ext w w1 := Ext.trans (by repeat with_reducible (first | exact Ext.refl _ | refine Ext.alloc ?_ _ | refine Ext.drew ?_ | refine Ext.drewN ?_ _ | refine Ext.setCell ?_ (by first | exact Nat.le_refl _ | omega | (simp; done) | (simp; omega)) _)) E1; replace hE := hE.up X_; replace hs := hs.up X_; clear X_) | (go_at_call 12; refine (few07 hs).mono ?_; rintro e w2 ⟨x, rfl, E2⟩; have X_ : Ext w1 w2 := Ext.trans (by repeat with_reducible (first | exact Ext.refl _ | refine Ext.alloc ?_ _ | refine Ext.drew ?_ | refine Ext.drewN ?_ _ | refine Ext.setCell ?_ (by first | exact Nat.le_refl _ | omega | (simp; done) | (simp; omega)) _)) E2; replace hE := hE.up X_; clear X_))
    all_goals
      go_ret
      exact ⟨rfl, hE⟩
  · have h1 := fun W (h : SchemaAt W A n c S) (hb : BytesAt W B n' c' bs) => vDepth (root := root) h hb (by omega)
    have h2 := fun W (h : SchemaAt W A n c S) (hb : BytesAt W B n' c' bs) => vCheckR (root := root) (d := 64) h hb (by omega)
    have hle := checkB_le (S.map MsgV.d) root bs 64
    by_cases hC : (checkB (S.map MsgV.d) root bs 64).2 = 0
    · have h3 := fun W (h : SchemaAt W A n c S) (hb : BytesAt W B n' c' bs) => vDepthR (root := root) h hb (by omega) hC
      have e1 : depthV (S.map MsgV.d) root bs = (deepV (S.map MsgV.d) 64 root.toNat bs, 0) := by unfold depthV; rw [if_pos hC]
      rw [e1] at h1
      rw [hC] at h2
      generalize (checkB (S.map MsgV.d) root bs 64).1 = P at *
      generalize deepV (S.map MsgV.d) 64 root.toNat bs = D at *
      have H1 := Lib.hid h1
      have H2 := Lib.hid h2
      have H3 := Lib.hid h3
      clear h1 h2 h3 hroot hC e1 hle
      go_enter Try.func5, Try.ntmps5
      go_wp2_with (first | (go_at_call 24; refine (alive11 _).mono ?_; rintro e w1 ⟨rfl, E1⟩; have X_ : Ext w w1 := Ext.trans (by repeat with_reducible (first | exact Ext.refl _ | refine Ext.alloc ?_ _ | refine Ext.drew ?_ | refine Ext.drewN ?_ _ | refine Ext.setCell ?_ (by first | exact Nat.le_refl _ | omega | (simp; done) | (simp; omega)) _)) E1; replace hE := hE.up X_; replace hs := hs.up X_; replace hb := hb.up X_; clear X_) | (go_at_call 12; refine (few07 hs).mono ?_; rintro e w2 ⟨x, rfl, E2⟩; have X_ : Ext w1 w2 := Ext.trans (by repeat with_reducible (first | exact Ext.refl _ | refine Ext.alloc ?_ _ | refine Ext.drew ?_ | refine Ext.drewN ?_ _ | refine Ext.setCell ?_ (by first | exact Nat.le_refl _ | omega | (simp; done) | (simp; omega)) _)) E2; replace hE := hE.up X_; replace hs := hs.up X_; replace hb := hb.up X_; clear X_) | (go_at_call 30; refine (H1.out _ hs hb).mono ?_; rintro e w3 ⟨rfl, E3⟩; have X_ : Ext w2 w3 := Ext.trans (by repeat with_reducible (first | exact Ext.refl _ | refine Ext.alloc ?_ _ | refine Ext.drew ?_ | refine Ext.drewN ?_ _ | refine Ext.setCell ?_ (by first | exact Nat.le_refl _ | omega | (simp; done) | (simp; omega)) _)) E3; replace hE := hE.up X_; replace hs := hs.up X_; replace hb := hb.up X_; clear X_) | (go_at_call 26; refine (H2.out _ hs hb).mono ?_; rintro e w4 ⟨rfl, E4⟩; have X_ : Ext w3 w4 := Ext.trans (by repeat with_reducible (first | exact Ext.refl _ | refine Ext.alloc ?_ _ | refine Ext.drew ?_ | refine Ext.drewN ?_ _ | refine Ext.setCell ?_ (by first | exact Nat.le_refl _ | omega | (simp; done) | (simp; omega)) _)) E4; replace hE := hE.up X_; replace hs := hs.up X_; replace hb := hb.up X_; clear X_) | (go_at_call 31; refine (H3.out _ hs hb).mono ?_; rintro e w5 ⟨rfl, E5⟩; have X_ : Ext w4 w5 := Ext.trans (by repeat with_reducible (first | exact Ext.refl _ | refine Ext.alloc ?_ _ | refine Ext.drew ?_ | refine Ext.drewN ?_ _ | refine Ext.setCell ?_ (by first | exact Nat.le_refl _ | omega | (simp; done) | (simp; omega)) _)) E5; replace hE := hE.up X_; clear X_))
      all_goals
        go_ret
        exact ⟨by simp, hE⟩
    · have e1 : depthV (S.map MsgV.d) root bs = (0, (checkB (S.map MsgV.d) root bs 64).2) := by unfold depthV; rw [if_neg hC]
      rw [e1] at h1
      generalize (checkB (S.map MsgV.d) root bs 64).1 = P at *
      generalize (checkB (S.map MsgV.d) root bs 64).2 = C at *
      have hlei : (C : Int) < 256 := by omega
      have q : ((C : Int) != 0) = true := by rw [bne_iff_ne]; omega
      have H1 := Lib.hid h1
      have H2 := Lib.hid h2
      clear h1 h2 hroot hC e1
      go_enter Try.func5, Try.ntmps5
      go_wp2_with (first | (go_at_call 24; refine (alive11 _).mono ?_; rintro e w1 ⟨rfl, E1⟩; have X_ : Ext w w1 := Ext.trans (by repeat with_reducible (first | exact Ext.refl _ | refine Ext.alloc ?_ _ | refine Ext.drew ?_ | refine Ext.drewN ?_ _ | refine Ext.setCell ?_ (by first | exact Nat.le_refl _ | omega | (simp; done) | (simp; omega)) _)) E1; replace hE := hE.up X_; replace hs := hs.up X_; replace hb := hb.up X_; clear X_) | (go_at_call 12; refine (few07 hs).mono ?_; rintro e w2 ⟨x, rfl, E2⟩; have X_ : Ext w1 w2 := Ext.trans (by repeat with_reducible (first | exact Ext.refl _ | refine Ext.alloc ?_ _ | refine Ext.drew ?_ | refine Ext.drewN ?_ _ | refine Ext.setCell ?_ (by first | exact Nat.le_refl _ | omega | (simp; done) | (simp; omega)) _)) E2; replace hE := hE.up X_; replace hs := hs.up X_; replace hb := hb.up X_; clear X_) | (go_at_call 30; refine (H1.out _ hs hb).mono ?_; rintro e w3 ⟨rfl, E3⟩; have X_ : Ext w2 w3 := Ext.trans (by repeat with_reducible (first | exact Ext.refl _ | refine Ext.alloc ?_ _ | refine Ext.drew ?_ | refine Ext.drewN ?_ _ | refine Ext.setCell ?_ (by first | exact Nat.le_refl _ | omega | (simp; done) | (simp; omega)) _)) E3; replace hE := hE.up X_; replace hs := hs.up X_; replace hb := hb.up X_; clear X_) | (go_at_call 26; refine (H2.out _ hs hb).mono ?_; rintro e w4 ⟨rfl, E4⟩; have X_ : Ext w3 w4 := Ext.trans (by repeat with_reducible (first | exact Ext.refl _ | refine Ext.alloc ?_ _ | refine Ext.drew ?_ | refine Ext.drewN ?_ _ | refine Ext.setCell ?_ (by first | exact Nat.le_refl _ | omega | (simp; done) | (simp; omega)) _)) E4; replace hE := hE.up X_; replace hs := hs.up X_; replace hb := hb.up X_; clear X_))
      all_goals
        go_ret
        exact ⟨by simp, hE⟩

end Go.Proofs.Ytpgbhgimjpbhoaa
