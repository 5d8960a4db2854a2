/- The walk of the law SchemaChecks, out of its callees' contracts. -/
import Derived.Test.YtpicpebolghcfaaGreatDoorQjW7

namespace Go.Proofs.YtpicpebolghcfaaGreatDoor
open Go.RowKit
set_option linter.unusedVariables false

def SomeBool (w : World) (e : Ending) (w' : World) : Prop := ∃ b : Bool, e = .returned (.bool b) ∧ Ext w w'

set_option maxRecDepth 100000 in
set_option maxHeartbeats 1000000 in
theorem few07 {A : Option Addr} {n c : Nat} {S : List MsgV} {w : World} (hs : SchemaAt w A n c S) :
    Calls Tryz.prog 7 #[.slice A n c] w (SomeBool w) := by
  have hmax := Reads.max hs.1
  have hcap := Reads.cap hs.1
  unfold maxLen at hmax
  go_enter Tryz.func7, Tryz.ntmps7
  go_wp2
  go_loopw [3, 4] (fun u i wr => ∃ (k : Nat) (x : Int), k ≤ n ∧ i = .int .i64 k ∧ u = .int .i64 x ∧ Ext w wr) (fun _ i _ => n - (intOf i).toNat)
  case atStart => exact ⟨0, 0, Nat.zero_le _, rfl, rfl, Ext.refl _⟩
  case round =>
    obtain ⟨k, x, hk, rfl, rfl, hE⟩ := hrel
    by_cases hlt : k < n
    · have hlt2 : (k : Int) < n := by omega
      obtain ⟨bs, off, m, rfl, hm, hmf, hms, hb, c0, c1⟩ := (hs.up hE).msg hlt
      obtain ⟨⟨mn, mfs⟩, mA, mnn, mc⟩ := m
      simp only at c0 c1 hmf hms
      have hmm2 := Reads.cap hmf.1
      have hmm3 := Reads.max hmf.1
      unfold maxLen at hmm3
      clear hm
      go_wp2
      go_quiet (fail)
      go_wp2
      obtain ⟨wo, hwo⟩ : ∃ wo : World, wo = wr := ⟨_, rfl⟩
      have hEo : Ext w wo := by rw [hwo]; exact hE
      have hmo : FieldsAt wo mA mnn mc mfs := by rw [hwo]; exact hmf
      have x0 : wo.cell? ⟨bs, off + k * 2 + 1, none⟩ = some (.slice mA mnn mc) := by rw [hwo]; exact c1
      have hbo : bs < wo.heap.size := by rw [hwo]; exact hb
      subst hwo
      go_loopw [3, 5] (fun u i wq => ∃ (q : Nat) (y : Int), q ≤ mnn ∧ i = .int .i64 q ∧ u = .int .i64 y ∧ Ext wo wq) (fun _ i _ => mnn - (intOf i).toNat)
      case atStart => exact ⟨0, _, Nat.zero_le _, rfl, rfl, (by repeat with_reducible (first | exact Ext.refl _ | refine Ext.alloc ?_ _ | refine Ext.drew ?_ | refine Ext.drewN ?_ _ | refine Ext.setCell ?_ (by first | exact Nat.le_refl _ | omega | (simp; done) | (simp; omega)) _))⟩
      case round =>
        obtain ⟨q, y, hq, rfl, rfl, hEq⟩ := hrel
        rename World => wq
        have y0 := hEq.of_cell x0
        have hbq : bs < wq.heap.size := Nat.lt_of_lt_of_le hbo hEq.size
        by_cases hltq : q < mnn
        · have hltq2 : (q : Int) < mnn := by omega
          obtain ⟨bf, of', f, rfl, hf, hfo, hbf, d0, d1, d2, d3, d4, d5⟩ := (hmo.up hEq).field hltq
          obtain ⟨fn, fx, fk, fr, fp, fo⟩ := f
          simp only at d0
          clear d1 d2 d3 d4 d5 hf hfo
          go_wp2
          go_roundw
          case rel => exact ⟨q + 1, _, by omega, by go_num, rfl, hEq⟩
          case measure => simp [intOf]; omega
        · have hqn : q = mnn := by omega
          subst hqn
          go_wp2
          go_roundw
          case rel => exact ⟨k + 1, _, by omega, by go_num, rfl, hEo.trans hEq⟩
          case measure => simp [intOf]; omega
    · have hkn : k = n := by omega
      subst hkn
      go_wp2
      go_ret
      exact ⟨_, rfl, hE⟩

end Go.Proofs.YtpicpebolghcfaaGreatDoor
