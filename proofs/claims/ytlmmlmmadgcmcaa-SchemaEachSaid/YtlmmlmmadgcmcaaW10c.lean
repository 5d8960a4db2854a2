/- Contracts of layer 10: all views. -/
import Derived.Test.YtlmmlmmadgcmcaaW10b
import Derived.Test.YtlmmlmmadgcmcaaS10b
namespace Go.Proofs.Ytlmmlmmadgcmcaa
open Go.RowKit Go.Shelf
set_option linter.unusedVariables false

def viewC (v : ViewD) : List Value := [.int .i64 (v.r.n : Int), .int .i64 (v.r.w : Int), .int .i64 (v.r.f : Int), .int .i64 (v.r.a : Int), .int .i64 (v.r.t : Int), .int .i64 v.field, .bool v.run]

theorem viewC_one (v : ViewD) : ∀ u ∈ viewC v, u.oneCell' = true := by
  intro u hu
  simp only [viewC, List.mem_cons, List.not_mem_nil, or_false] at hu
  rcases hu with rfl | rfl | rfl | rfl | rfl | rfl | rfl <;> rfl

theorem elemView : Elem Try.prog 56 48 7 56 := Elem.mk' (z := .agg #[.int .i64 0, .int .i64 0, .int .i64 0, .int .i64 0, .int .i64 0, .int .i64 0, .bool false]) Try.underlying56 (by kernel_rfl) rfl (by omega)

theorem elemViewR : Elem Try.prog 59 53 7 56 := Elem.mk' (z := .agg #[.int .i64 0, .int .i64 0, .int .i64 0, .int .i64 0, .int .i64 0, .int .i64 0, .bool false]) Try.underlying59 (by kernel_rfl) rfl (by omega)

theorem vLookN {s : ByteArray} {A B : Option Addr} {n c m d : Nat} {l : List FieldD} {bs : List UInt8} {p : Nat} {w : World} {v : ViewD} {C : Nat} (hf : FieldsAt w A n c l) (hn : n ≤ 1000000000000) (hb : BytesAt w B m d bs) (hm : m ≤ 1000000000000) (hp : p < m) (h : lookV l bs p = (v, C)) :
    Calls Try.prog 25 #[.agg #[.string s, .slice A n c], .slice B m d, .int .i64 (p : Int)] w fun e w' => e = .returned (.tuple #[viewV v, .int .u8 (C : Int)]) ∧ Ext w w' :=
  vLook hf hn hb hm (by rw [lookI_nat (by rw [hb.length]; exact hp)]; exact h)

theorem vLookRN {s : ByteArray} {A B : Option Addr} {n c m d : Nat} {l : List FieldD} {bs : List UInt8} {p : Nat} {w : World} {v : ViewD} {C : Nat} (hf : FieldsAt w A n c l) (hn : n ≤ 1000000000000) (hb : BytesAt w B m d bs) (hm : m ≤ 1000000000000) (hp : p < m) (h : lookV l bs p = (v, C)) :
    Calls Try.prog 26 #[.agg #[.string s, .slice A n c], .slice B m d, .int .i64 (p : Int)] w fun e w' => e = .returned (.tuple #[viewV v, .int .i64 (C : Int)]) ∧ Ext w w' :=
  vLookR hf hn hb hm (by rw [lookI_nat (by rw [hb.length]; exact hp)]; exact h)

set_option maxHeartbeats 1000000 in
theorem vAllV {s : ByteArray} {A B : Option Addr} {n c m d : Nat} {fs : List FieldD} {bs : List UInt8} {w : World} {L : List ViewD} {P C : Nat} (hf : FieldsAt w A n c fs) (hn : n ≤ 1000000000000) (hb : BytesAt w B m d bs) (hm : m ≤ 1000000000) (h : viewsV fs bs = (L, P, C)) :
    Calls Try.prog 27 #[.agg #[.string s, .slice A n c], .slice B m d] w fun e w' => ∃ A' c', e = .returned (.tuple #[.slice A' L.length c', .int .i64 (P : Int), .int .u8 (C : Int)]) ∧ Own w w' 48 7 A' L.length c' (L.flatMap viewC) := by
  have hlen := hb.length
  have hO := lookV_onward fs bs
  rw [hlen] at hO
  have hS : viewsV fs bs = scan (lookV fs bs) ViewD.to m 0 := by unfold viewsV; rw [hlen]
  rw [hS] at h
  have HO := Lib.hid hO
  have HS := Lib.hid h
  clear hlen hO hS h
  have B0 := Ext.new_blk (Ext.refl (w.alloc (.cells #[.string s, .slice A n c] 37)))
  have hE0 : Ext w (w.alloc (.cells #[.string s, .slice A n c] 37)) := (by repeat with_reducible (first | exact Ext.refl _ | refine Ext.alloc ?_ _ | refine Ext.drew ?_ | refine Ext.drewN ?_ _ | refine Ext.setCell ?_ (by first | exact Nat.le_refl _ | omega | (simp; done) | (simp; omega)) _))
  go_enter Try.func27, Try.ntmps27
  go_wp2
  go_loopw [7, 8] (fun u i wr => ∃ (p : Nat) (A2 : Option Addr) (c2 : Nat) (l : List ViewD), p ≤ m ∧ i = .int .i64 p ∧ u = .slice A2 l.length c2 ∧ Own (w.alloc (.cells #[.string s, .slice A n c] 37)) wr 48 7 A2 l.length c2 (l.flatMap viewC) ∧
      l.length ≤ p ∧ Hid ((L, P, C) = pre l (scan (lookV fs bs) ViewD.to m p))) (fun _ i _ => m - (intOf i).toNat)
  case atStart => exact ⟨0, none, 0, [], Nat.zero_le _, rfl, rfl, Own.nil (Ext.refl _) 48 7, Nat.zero_le _, by rw [pre_scan HO.out]; exact HS.out.symm⟩
  case round =>
    obtain ⟨p, A2, c2, l, hp, rfl, rfl, own, hlp, hA⟩ := hrel
    have B1 := B0.up own.ext
    have k0 : wr.cell? ⟨w.heap.size, 0, none⟩ = some (.string s) := B1.cell 0
    have k1 : wr.cell? ⟨w.heap.size, 1, none⟩ = some (.slice A n c) := B1.cell 1
    have kl := B1.lt
    clear B1
    have hfw := hf.up (hE0.trans own.ext)
    have hbw := hb.up (hE0.trans own.ext)
    by_cases hm2 : (p : Int) < m
    · rcases hv : lookV fs bs p with ⟨v, D⟩
      by_cases hC : D = 0
      · subst hC
        have h2 := HO.out p (by omega) (by rw [hv])
        rw [hv] at h2
        simp only at h2
        have hsc := scan_ok HO.out (show p < m by omega) hv
        obtain ⟨⟨rn, rw_, rf, ra, rt⟩, vf, vr⟩ := v
        unfold ViewD.to at h2
        simp only at h2
        have Hv := Lib.hid hv
        have Hsc := Lib.hid hsc
        clear hv hsc
        go_wp2_with (first | (go_at_call 25; refine (vLookN hfw (by omega) hbw (by omega) (by omega) Hv.out).mono ?_; rintro e w1 ⟨rfl, E1⟩; unfold viewV; have X_ : Ext wr w1 := Ext.trans (by repeat with_reducible (first | exact Ext.refl _ | refine Ext.alloc ?_ _ | refine Ext.drew ?_ | refine Ext.drewN ?_ _ | refine Ext.setCell ?_ (by first | exact Nat.le_refl _ | omega | (simp; done) | (simp; omega)) _)) E1; replace own := own.up X_; have hE := X_; clear X_))
        go_region_law ((refine step_oneN (cs := viewC ⟨⟨rn, rw_, rf, ra, rt⟩, vf, vr⟩) elemView rfl (.tmp 26) (.tmp 28) rfl rfl (own.up (by repeat with_reducible (first | exact Ext.refl _ | refine Ext.alloc ?_ _ | refine Ext.drew ?_ | refine Ext.drewN ?_ _ | refine Ext.setCell ?_ (by first | exact Nat.le_refl _ | omega | (simp; done) | (simp; omega)) _))) rfl (by first | rfl | simp) rfl (viewC_one _) (by omega) (by unfold maxLen; omega) ?_; intro A4 c4 w4 own4 g4; have k4 : w4.cell? ⟨w1.heap.size, 4, none⟩ = some (.int .i64 (rt : Int)) := (grown_cell own g4 (Nat.le_refl _) (by simp <;> omega)).trans (by simp)))
        all_goals
          go_simp
          go_wp2
          go_roundw
          case rel =>
            refine ⟨rt, A4, c4, l ++ [⟨⟨rn, rw_, rf, ra, rt⟩, vf, vr⟩], by omega, rfl, ret_len (by simp), by simpa using own4, by simp; omega, ?_⟩
            have e := hA.out
            rw [Hsc.out, pre_pre] at e
            exact e
          case measure => simp [intOf]; omega
      · have q : ((D : Int) != 0) = true := by simp; omega
        have hA' := hA.out
        rw [scan_fail (show p < m by omega) hv hC, pre_fail _ hC] at hA'
        have Hv := Lib.hid hv
        cases hA'
        clear hv
        go_wp2_with (first | (go_at_call 25; refine (vLookN hfw (by omega) hbw (by omega) (by omega) Hv.out).mono ?_; rintro e w1 ⟨rfl, E1⟩; unfold viewV; have X_ : Ext wr w1 := Ext.trans (by repeat with_reducible (first | exact Ext.refl _ | refine Ext.alloc ?_ _ | refine Ext.drew ?_ | refine Ext.drewN ?_ _ | refine Ext.setCell ?_ (by first | exact Nat.le_refl _ | omega | (simp; done) | (simp; omega)) _)) E1; replace own := own.up X_; have hE := X_; clear X_))
        go_ret3
        exact ⟨none, 0, rfl, Own.nil (hE0.trans (own.ext.trans (by repeat with_reducible (first | exact Ext.refl _ | refine Ext.alloc ?_ _ | refine Ext.drew ?_ | refine Ext.drewN ?_ _ | refine Ext.setCell ?_ (by first | exact Nat.le_refl _ | omega | (simp; done) | (simp; omega)) _)))) 48 7⟩
    · have hA' := hA.out
      rw [scan_end (by omega), pre_end] at hA'
      cases hA'
      go_wp2
      go_ret3
      exact ⟨A2, c2, rfl, own.since hE0⟩

set_option maxHeartbeats 1000000 in
theorem vAllVR {s : ByteArray} {A B : Option Addr} {n c m d : Nat} {fs : List FieldD} {bs : List UInt8} {w : World} {L : List ViewD} {P C : Nat} (hf : FieldsAt w A n c fs) (hn : n ≤ 1000000000000) (hb : BytesAt w B m d bs) (hm : m ≤ 1000000000) (h : viewsV fs bs = (L, P, C)) :
    Calls Try.prog 28 #[.agg #[.string s, .slice A n c], .slice B m d] w fun e w' => ∃ A' c', e = .returned (.tuple #[.slice A' L.length c', .int .i64 (P : Int), .int .i64 (C : Int)]) ∧ Own w w' 53 7 A' L.length c' (L.flatMap viewC) := by
  have hlen := hb.length
  have hO := lookV_onward fs bs
  rw [hlen] at hO
  have hS : viewsV fs bs = scan (lookV fs bs) ViewD.to m 0 := by unfold viewsV; rw [hlen]
  rw [hS] at h
  have HO := Lib.hid hO
  have HS := Lib.hid h
  clear hlen hO hS h
  have B0 := Ext.new_blk (Ext.refl (w.alloc (.cells #[.string s, .slice A n c] 37)))
  have hE0 : Ext w (w.alloc (.cells #[.string s, .slice A n c] 37)) := (by repeat with_reducible (first | exact Ext.refl _ | refine Ext.alloc ?_ _ | refine Ext.drew ?_ | refine Ext.drewN ?_ _ | refine Ext.setCell ?_ (by first | exact Nat.le_refl _ | omega | (simp; done) | (simp; omega)) _))
  go_enter Try.func28, Try.ntmps28
  go_wp2
  go_loopw [7, 8] (fun u i wr => ∃ (p : Nat) (A2 : Option Addr) (c2 : Nat) (l : List ViewD), p ≤ m ∧ i = .int .i64 p ∧ u = .slice A2 l.length c2 ∧ Own (w.alloc (.cells #[.string s, .slice A n c] 37)) wr 53 7 A2 l.length c2 (l.flatMap viewC) ∧
      l.length ≤ p ∧ Hid ((L, P, C) = pre l (scan (lookV fs bs) ViewD.to m p))) (fun _ i _ => m - (intOf i).toNat)
  case atStart => exact ⟨0, none, 0, [], Nat.zero_le _, rfl, rfl, Own.nil (Ext.refl _) 53 7, Nat.zero_le _, by rw [pre_scan HO.out]; exact HS.out.symm⟩
  case round =>
    obtain ⟨p, A2, c2, l, hp, rfl, rfl, own, hlp, hA⟩ := hrel
    have B1 := B0.up own.ext
    have k0 : wr.cell? ⟨w.heap.size, 0, none⟩ = some (.string s) := B1.cell 0
    have k1 : wr.cell? ⟨w.heap.size, 1, none⟩ = some (.slice A n c) := B1.cell 1
    have kl := B1.lt
    clear B1
    have hfw := hf.up (hE0.trans own.ext)
    have hbw := hb.up (hE0.trans own.ext)
    by_cases hm2 : (p : Int) < m
    · rcases hv : lookV fs bs p with ⟨v, D⟩
      by_cases hC : D = 0
      · subst hC
        have h2 := HO.out p (by omega) (by rw [hv])
        rw [hv] at h2
        simp only at h2
        have hsc := scan_ok HO.out (show p < m by omega) hv
        obtain ⟨⟨rn, rw_, rf, ra, rt⟩, vf, vr⟩ := v
        unfold ViewD.to at h2
        simp only at h2
        have Hv := Lib.hid hv
        have Hsc := Lib.hid hsc
        clear hv hsc
        go_wp2_with (first | (go_at_call 26; refine (vLookRN hfw (by omega) hbw (by omega) (by omega) Hv.out).mono ?_; rintro e w1 ⟨rfl, E1⟩; unfold viewV; have X_ : Ext wr w1 := Ext.trans (by repeat with_reducible (first | exact Ext.refl _ | refine Ext.alloc ?_ _ | refine Ext.drew ?_ | refine Ext.drewN ?_ _ | refine Ext.setCell ?_ (by first | exact Nat.le_refl _ | omega | (simp; done) | (simp; omega)) _)) E1; replace own := own.up X_; have hE := X_; clear X_) | (at_builtin; refine wpList_oneN (cs := viewC ⟨⟨rn, rw_, rf, ra, rt⟩, vf, vr⟩) elemViewR rfl (.tmp 26) (.tmp 28) rfl rfl (own.up (by repeat with_reducible (first | exact Ext.refl _ | refine Ext.alloc ?_ _ | refine Ext.drew ?_ | refine Ext.drewN ?_ _ | refine Ext.setCell ?_ (by first | exact Nat.le_refl _ | omega | (simp; done) | (simp; omega)) _))) rfl (by first | rfl | simp) rfl (viewC_one _) (by omega) (by unfold maxLen; omega) ?_; intro A4 c4 w4 own4 g4; have k4 : w4.cell? ⟨w1.heap.size, 4, none⟩ = some (.int .i64 (rt : Int)) := (grown_cell own g4 (Nat.le_refl _) (by simp <;> omega)).trans (by simp)))
        all_goals
          go_roundw
          case rel =>
            refine ⟨rt, A4, c4, l ++ [⟨⟨rn, rw_, rf, ra, rt⟩, vf, vr⟩], by omega, rfl, ret_len (by simp), by simpa using own4, by simp; omega, ?_⟩
            have e := hA.out
            rw [Hsc.out, pre_pre] at e
            exact e
          case measure => simp [intOf]; omega
      · have q : ((D : Int) != 0) = true := by simp; omega
        have hA' := hA.out
        rw [scan_fail (show p < m by omega) hv hC, pre_fail _ hC] at hA'
        have Hv := Lib.hid hv
        cases hA'
        clear hv
        go_wp2_with (first | (go_at_call 26; refine (vLookRN hfw (by omega) hbw (by omega) (by omega) Hv.out).mono ?_; rintro e w1 ⟨rfl, E1⟩; unfold viewV; have X_ : Ext wr w1 := Ext.trans (by repeat with_reducible (first | exact Ext.refl _ | refine Ext.alloc ?_ _ | refine Ext.drew ?_ | refine Ext.drewN ?_ _ | refine Ext.setCell ?_ (by first | exact Nat.le_refl _ | omega | (simp; done) | (simp; omega)) _)) E1; replace own := own.up X_; have hE := X_; clear X_))
        go_ret3
        exact ⟨none, 0, rfl, Own.nil (hE0.trans (own.ext.trans (by repeat with_reducible (first | exact Ext.refl _ | refine Ext.alloc ?_ _ | refine Ext.drew ?_ | refine Ext.drewN ?_ _ | refine Ext.setCell ?_ (by first | exact Nat.le_refl _ | omega | (simp; done) | (simp; omega)) _)))) 53 7⟩
    · have hA' := hA.out
      rw [scan_end (by omega), pre_end] at hA'
      cases hA'
      go_wp2
      go_ret3
      exact ⟨A2, c2, rfl, own.since hE0⟩

end Go.Proofs.Ytlmmlmmadgcmcaa
