/- Contracts of layer 5: all records. -/
import Derived.Test.YtcipokmklkognaaW5b
namespace Go.Proofs.Ytcipokmklkognaa
open Go.RowKit
set_option linter.unusedVariables false

def recC (r : Rec) : List Value := [.int .i64 (r.n : Int), .int .i64 (r.w : Int), .int .i64 (r.f : Int), .int .i64 (r.a : Int), .int .i64 (r.t : Int)]

theorem recC_length (l : List Rec) : (l.flatMap recC).length = l.length * 5 := by
  induction l with
  | nil => rfl
  | cons r l ih => rw [List.flatMap_cons, List.length_append, ih, List.length_cons]; simp [recC]; omega

theorem recC_one (r : Rec) : ∀ u ∈ recC r, u.oneCell' = true := by
  intro u hu
  simp only [recC, List.mem_cons, List.not_mem_nil, or_false] at hu
  rcases hu with rfl | rfl | rfl | rfl | rfl <;> rfl

theorem elemRec : Elem Try.prog 75 69 5 40 := Elem.mk' (z := .agg #[.int .i64 0, .int .i64 0, .int .i64 0, .int .i64 0, .int .i64 0]) Try.underlying75 (by kernel_rfl) rfl (by omega)

theorem elemRecR : Elem Try.prog 78 72 5 40 := Elem.mk' (z := .agg #[.int .i64 0, .int .i64 0, .int .i64 0, .int .i64 0, .int .i64 0]) Try.underlying78 (by kernel_rfl) rfl (by omega)

set_option maxHeartbeats 1000000 in
theorem rSplit {A : Option Addr} {n c : Nat} {bs : List UInt8} {w : World} (hb : BytesAt w A n c bs) (hn : n ≤ 1000000000) :
    Calls Try.prog 49 #[.slice A n c] w fun e w' => ∃ A' c', e = .returned (.tuple #[.slice A' (splitV bs).1.length c', .int .i64 ((splitV bs).2.1 : Int), .int .u8 ((splitV bs).2.2 : Int)]) ∧ Own w w' 69 5 A' (splitV bs).1.length c' ((splitV bs).1.flatMap recC) := by
  have hlen := hb.length
  have hO := nextV_onward bs
  rw [hlen] at hO
  have hS : splitV bs = scan (nextV bs) Rec.t n 0 := by unfold splitV; rw [hlen]
  have HO := Lib.hid hO
  have HS := Lib.hid hS
  clear hlen hO hS
  go_enter Try.func49, Try.ntmps49
  go_wp2
  go_loopw [5, 6] (fun u i wr => ∃ (p : Nat) (A2 : Option Addr) (c2 : Nat) (l : List Rec), p ≤ n ∧ i = .int .i64 p ∧ u = .slice A2 l.length c2 ∧ Own w wr 69 5 A2 l.length c2 (l.flatMap recC) ∧
      l.length ≤ p ∧ Hid (splitV bs = pre l (scan (nextV bs) Rec.t n p))) (fun _ i _ => n - (intOf i).toNat)
  case atStart => exact ⟨0, none, 0, [], Nat.zero_le _, rfl, rfl, Own.nil (Ext.refl _) 69 5, Nat.zero_le _, by rw [pre_scan HO.out]; exact HS.out⟩
  case round =>
    obtain ⟨p, A2, c2, l, hp, rfl, rfl, own, hlp, hA⟩ := hrel
    by_cases hm : (p : Int) < n
    · rcases hv : nextV bs p with ⟨r, C⟩
      by_cases hC : C = 0
      · subst hC
        have h2 := HO.out p (by omega) (by rw [hv])
        rw [hv] at h2
        simp only at h2
        have hsc := scan_ok HO.out (show p < n by omega) hv
        obtain ⟨rn, rw_, rf, ra, rt⟩ := r
        simp only at h2
        have Hv := Lib.hid hv
        have Hsc := Lib.hid hsc
        clear hv hsc
        go_wp2_with (first | (go_at_call 47; refine (rNext (hb.ext (own.ext.trans (by repeat with_reducible (first | exact Ext.refl _ | refine Ext.alloc ?_ _ | refine Ext.drew ?_ | refine Ext.drewN ?_ _ | refine Ext.setCell ?_ (by first | exact Nat.le_refl _ | omega | (simp; done) | (simp; omega)) _)))) (by omega) (by omega) Hv.out).mono ?_; rintro e w1 ⟨rfl, E1⟩; unfold recV; have X_ : Ext wr w1 := Ext.trans (by repeat with_reducible (first | exact Ext.refl _ | refine Ext.alloc ?_ _ | refine Ext.drew ?_ | refine Ext.drewN ?_ _ | refine Ext.setCell ?_ (by first | exact Nat.le_refl _ | omega | (simp; done) | (simp; omega)) _)) E1; replace own := own.up X_; have hE := X_; clear X_))
        go_region_law ((refine step_oneN (cs := recC ⟨rn, rw_, rf, ra, rt⟩) elemRec rfl (.tmp 23) (.tmp 25) rfl rfl (own.up (by repeat with_reducible (first | exact Ext.refl _ | refine Ext.alloc ?_ _ | refine Ext.drew ?_ | refine Ext.drewN ?_ _ | refine Ext.setCell ?_ (by first | exact Nat.le_refl _ | omega | (simp; done) | (simp; omega)) _))) rfl (by first | rfl | simp) rfl (recC_one _) (by omega) (by unfold maxLen; omega) ?_; intro A4 c4 w4 own4 g4; have k4 : w4.cell? ⟨w1.heap.size, 4, none⟩ = some (.int .i64 (rt : Int)) := (grown_cell own g4 (Nat.le_refl _) (by simp <;> omega)).trans (by simp)))
        all_goals
          go_simp
          go_wp2
          go_roundw
          case rel =>
            refine ⟨rt, A4, c4, l ++ [⟨rn, rw_, rf, ra, rt⟩], by omega, rfl, ret_len (by simp), by simpa using own4, by simp; omega, ?_⟩
            have e := hA.out
            rw [Hsc.out, pre_pre] at e
            exact e
          case measure => simp [intOf]; omega
      · have q : ((C : Int) != 0) = true := by simp; omega
        have fin := scan_fail (to := Rec.t) (show p < n by omega) hv hC
        have hA' := hA.out
        rw [fin, pre_fail _ hC] at hA'
        have Hf := Lib.hid hA'
        have Hv := Lib.hid hv
        clear hA' fin hv
        go_wp2_with (first | (go_at_call 47; refine (rNext (hb.ext (own.ext.trans (by repeat with_reducible (first | exact Ext.refl _ | refine Ext.alloc ?_ _ | refine Ext.drew ?_ | refine Ext.drewN ?_ _ | refine Ext.setCell ?_ (by first | exact Nat.le_refl _ | omega | (simp; done) | (simp; omega)) _)))) (by omega) (by omega) Hv.out).mono ?_; rintro e w1 ⟨rfl, E1⟩; unfold recV; have X_ : Ext wr w1 := Ext.trans (by repeat with_reducible (first | exact Ext.refl _ | refine Ext.alloc ?_ _ | refine Ext.drew ?_ | refine Ext.drewN ?_ _ | refine Ext.setCell ?_ (by first | exact Nat.le_refl _ | omega | (simp; done) | (simp; omega)) _)) E1; replace own := own.up X_; have hE := X_; clear X_))
        go_ret3
        rw [Hf.out]
        exact ⟨none, 0, rfl, Own.nil (own.ext.trans (by repeat with_reducible (first | exact Ext.refl _ | refine Ext.alloc ?_ _ | refine Ext.drew ?_ | refine Ext.drewN ?_ _ | refine Ext.setCell ?_ (by first | exact Nat.le_refl _ | omega | (simp; done) | (simp; omega)) _))) 69 5⟩
    · have hA' := hA.out
      rw [scan_end (by omega), pre_end] at hA'
      have Hf := Lib.hid hA'
      clear hA'
      go_wp2
      go_ret3
      rw [Hf.out]
      exact ⟨A2, c2, rfl, own⟩

set_option maxHeartbeats 1000000 in
theorem rSplitR {A : Option Addr} {n c : Nat} {bs : List UInt8} {w : World} (hb : BytesAt w A n c bs) (hn : n ≤ 1000000000) :
    Calls Try.prog 50 #[.slice A n c] w fun e w' => ∃ A' c', e = .returned (.tuple #[.slice A' (splitV bs).1.length c', .int .i64 ((splitV bs).2.1 : Int), .int .i64 ((splitV bs).2.2 : Int)]) ∧ Own w w' 72 5 A' (splitV bs).1.length c' ((splitV bs).1.flatMap recC) := by
  have hlen := hb.length
  have hO := nextV_onward bs
  rw [hlen] at hO
  have hS : splitV bs = scan (nextV bs) Rec.t n 0 := by unfold splitV; rw [hlen]
  have HO := Lib.hid hO
  have HS := Lib.hid hS
  clear hlen hO hS
  go_enter Try.func50, Try.ntmps50
  go_wp2
  go_loopw [5, 6] (fun u i wr => ∃ (p : Nat) (A2 : Option Addr) (c2 : Nat) (l : List Rec), p ≤ n ∧ i = .int .i64 p ∧ u = .slice A2 l.length c2 ∧ Own w wr 72 5 A2 l.length c2 (l.flatMap recC) ∧
      l.length ≤ p ∧ Hid (splitV bs = pre l (scan (nextV bs) Rec.t n p))) (fun _ i _ => n - (intOf i).toNat)
  case atStart => exact ⟨0, none, 0, [], Nat.zero_le _, rfl, rfl, Own.nil (Ext.refl _) 72 5, Nat.zero_le _, by rw [pre_scan HO.out]; exact HS.out⟩
  case round =>
    obtain ⟨p, A2, c2, l, hp, rfl, rfl, own, hlp, hA⟩ := hrel
    by_cases hm : (p : Int) < n
    · rcases hv : nextV bs p with ⟨r, C⟩
      by_cases hC : C = 0
      · subst hC
        have h2 := HO.out p (by omega) (by rw [hv])
        rw [hv] at h2
        simp only at h2
        have hsc := scan_ok HO.out (show p < n by omega) hv
        obtain ⟨rn, rw_, rf, ra, rt⟩ := r
        simp only at h2
        have Hv := Lib.hid hv
        have Hsc := Lib.hid hsc
        clear hv hsc
        go_wp2_with (first | (go_at_call 48; refine (rNextR (hb.ext (own.ext.trans (by repeat with_reducible (first | exact Ext.refl _ | refine Ext.alloc ?_ _ | refine Ext.drew ?_ | refine Ext.drewN ?_ _ | refine Ext.setCell ?_ (by first | exact Nat.le_refl _ | omega | (simp; done) | (simp; omega)) _)))) (by omega) (by omega) Hv.out).mono ?_; rintro e w1 ⟨rfl, E1⟩; unfold recV; have X_ : Ext wr w1 := Ext.trans (by repeat with_reducible (first | exact Ext.refl _ | refine Ext.alloc ?_ _ | refine Ext.drew ?_ | refine Ext.drewN ?_ _ | refine Ext.setCell ?_ (by first | exact Nat.le_refl _ | omega | (simp; done) | (simp; omega)) _)) E1; replace own := own.up X_; have hE := X_; clear X_) | (at_builtin; refine wpList_oneN (cs := recC ⟨rn, rw_, rf, ra, rt⟩) elemRecR rfl (.tmp 23) (.tmp 25) rfl rfl (own.up (by repeat with_reducible (first | exact Ext.refl _ | refine Ext.alloc ?_ _ | refine Ext.drew ?_ | refine Ext.drewN ?_ _ | refine Ext.setCell ?_ (by first | exact Nat.le_refl _ | omega | (simp; done) | (simp; omega)) _))) rfl (by first | rfl | simp) rfl (recC_one _) (by omega) (by unfold maxLen; omega) ?_; intro A4 c4 w4 own4 g4; have k4 : w4.cell? ⟨w1.heap.size, 4, none⟩ = some (.int .i64 (rt : Int)) := (grown_cell own g4 (Nat.le_refl _) (by simp <;> omega)).trans (by simp)))
        go_roundw
        case rel =>
          refine ⟨rt, A4, c4, l ++ [⟨rn, rw_, rf, ra, rt⟩], by omega, rfl, ret_len (by simp), by simpa using own4, by simp; omega, ?_⟩
          have e := hA.out
          rw [Hsc.out, pre_pre] at e
          exact e
        case measure => simp [intOf]; omega
      · have q : ((C : Int) != 0) = true := by simp; omega
        have fin := scan_fail (to := Rec.t) (show p < n by omega) hv hC
        have hA' := hA.out
        rw [fin, pre_fail _ hC] at hA'
        have Hf := Lib.hid hA'
        have Hv := Lib.hid hv
        clear hA' fin hv
        go_wp2_with (first | (go_at_call 48; refine (rNextR (hb.ext (own.ext.trans (by repeat with_reducible (first | exact Ext.refl _ | refine Ext.alloc ?_ _ | refine Ext.drew ?_ | refine Ext.drewN ?_ _ | refine Ext.setCell ?_ (by first | exact Nat.le_refl _ | omega | (simp; done) | (simp; omega)) _)))) (by omega) (by omega) Hv.out).mono ?_; rintro e w1 ⟨rfl, E1⟩; unfold recV; have X_ : Ext wr w1 := Ext.trans (by repeat with_reducible (first | exact Ext.refl _ | refine Ext.alloc ?_ _ | refine Ext.drew ?_ | refine Ext.drewN ?_ _ | refine Ext.setCell ?_ (by first | exact Nat.le_refl _ | omega | (simp; done) | (simp; omega)) _)) E1; replace own := own.up X_; have hE := X_; clear X_))
        go_ret3
        rw [Hf.out]
        exact ⟨none, 0, rfl, Own.nil (own.ext.trans (by repeat with_reducible (first | exact Ext.refl _ | refine Ext.alloc ?_ _ | refine Ext.drew ?_ | refine Ext.drewN ?_ _ | refine Ext.setCell ?_ (by first | exact Nat.le_refl _ | omega | (simp; done) | (simp; omega)) _))) 72 5⟩
    · have hA' := hA.out
      rw [scan_end (by omega), pre_end] at hA'
      have Hf := Lib.hid hA'
      clear hA'
      go_wp2
      go_ret3
      rw [Hf.out]
      exact ⟨A2, c2, rfl, own⟩

theorem rSplitE {A : Option Addr} {n c : Nat} {bs : List UInt8} {w : World} {l : List Rec} {p C : Nat} (hb : BytesAt w A n c bs) (hn : n ≤ 1000000000) (h : splitV bs = (l, p, C)) :
    Calls Try.prog 49 #[.slice A n c] w fun e w' => ∃ A' c', e = .returned (.tuple #[.slice A' l.length c', .int .i64 (p : Int), .int .u8 (C : Int)]) ∧ Own w w' 69 5 A' l.length c' (l.flatMap recC) := by
  have := rSplit hb hn
  rw [h] at this
  exact this

theorem rSplitRE {A : Option Addr} {n c : Nat} {bs : List UInt8} {w : World} {l : List Rec} {p C : Nat} (hb : BytesAt w A n c bs) (hn : n ≤ 1000000000) (h : splitV bs = (l, p, C)) :
    Calls Try.prog 50 #[.slice A n c] w fun e w' => ∃ A' c', e = .returned (.tuple #[.slice A' l.length c', .int .i64 (p : Int), .int .i64 (C : Int)]) ∧ Own w w' 72 5 A' l.length c' (l.flatMap recC) := by
  have := rSplitR hb hn
  rw [h] at this
  exact this

end Go.Proofs.Ytcipokmklkognaa
