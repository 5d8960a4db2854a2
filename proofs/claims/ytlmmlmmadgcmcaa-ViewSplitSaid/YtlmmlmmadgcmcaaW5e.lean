/- Contracts of layer 5: a record's bytes. -/
import Derived.Test.YtlmmlmmadgcmcaaS5c
namespace Go.Proofs.Ytlmmlmmadgcmcaa
open Go.RowKit
set_option linter.unusedVariables false

theorem spanB_at {w : World} {A : Option Addr} {n c : Nat} {bs : List UInt8} (hb : BytesAt w A n c bs) {l m : Nat} (hl : l ≤ m) (hm : m ≤ n) :
    ∃ A', (∀ W : World, (Instr.slice 43 (.slice A n c) (some (.int .i64 (l : Int))) (some (.int .i64 (m : Int))) none).run Try.prog W = .ok (.slice A' (m - l) (c - l)) W) ∧ BytesAt w A' (m - l) (c - l) (spanB bs l m) := by
  obtain ⟨A', h1, h2⟩ := cut_both elemB hb .i64 .i64 hl hm
  exact ⟨A', h1, by simpa [BytesAt, spanB, List.map_drop, List.map_take] using h2⟩

theorem rSpan {A : Option Addr} {n c a t : Nat} {bs : List UInt8} {w : World} (hb : BytesAt w A n c bs) (hn : n ≤ 1000000000) (ha : a ≤ t) (ht : t ≤ n) :
    Calls Try.prog 109 #[.slice A n c, .int .i64 (a : Int), .int .i64 (t : Int)] w fun e w' => ∃ A' c', e = .returned (.slice A' (t - a) c') ∧ Own w w' 5 1 A' (t - a) c' ((spanB bs a t).map bv) := by
  obtain ⟨A2, hcut, hb2⟩ := spanB_at hb ha ht
  have h0 : ¬ (a : Int) < 0 := by omega
  have h1 : ¬ (t : Int) < a := by omega
  have h2 : ¬ (n : Int) < t := by omega
  go_enter Try.func109, Try.ntmps109
  go_wp2_with (go_at_call 88; refine (clone hb2 (by omega)).mono ?_; rintro e w' ⟨A3, c3, rfl, own3⟩)
  go_ret
  exact ⟨A3, c3, rfl, own3⟩

theorem rWhole {A : Option Addr} {n c : Nat} {bs : List UInt8} {w : World} {r : Rec} (hb : BytesAt w A n c bs) (hn : n ≤ 1000000000) (ha : r.f ≤ r.t) (ht : r.t ≤ n) :
    Calls Try.prog 91 #[.slice A n c, recV r] w fun e w' => ∃ A' c', e = .returned (.slice A' (r.t - r.f) c') ∧ Own w w' 5 1 A' (r.t - r.f) c' ((spanB bs r.f r.t).map bv) := by
  unfold recV
  go_enter Try.func91, Try.ntmps91
  go_wp2_with (go_at_call 109; refine (rSpan (hb.up (by repeat with_reducible (first | exact Ext.refl _ | refine Ext.alloc ?_ _ | refine Ext.drew ?_ | refine Ext.drewN ?_ _ | refine Ext.setCell ?_ (by first | exact Nat.le_refl _ | omega | (simp; done) | (simp; omega)) _))) hn ha ht).mono ?_; rintro e w' ⟨A3, c3, rfl, own3⟩)
  go_ret
  exact ⟨A3, c3, rfl, own3.since (by repeat with_reducible (first | exact Ext.refl _ | refine Ext.alloc ?_ _ | refine Ext.drew ?_ | refine Ext.drewN ?_ _ | refine Ext.setCell ?_ (by first | exact Nat.le_refl _ | omega | (simp; done) | (simp; omega)) _))⟩

end Go.Proofs.Ytlmmlmmadgcmcaa
