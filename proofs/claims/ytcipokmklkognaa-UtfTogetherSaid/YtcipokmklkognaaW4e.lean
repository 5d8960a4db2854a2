/- The contract of layer 4's reference: the first place that isn't right. -/
import Derived.Test.YtcipokmklkognaaW4d
namespace Go.Proofs.Ytcipokmklkognaa
open Go.RowKit
set_option linter.unusedVariables false

theorem uFirstR {A : Option Addr} {n c : Nat} {bs : List UInt8} {w : World} {room : Int} (hb : BytesAt w A n c bs) (hn : n ≤ 9000000000000000000) (hr : -9223372036854775808 ≤ room ∧ room < 9223372036854775808) :
    Calls Try.prog 16 #[.slice A n c, .int .i64 room] w fun e w' => e = .returned (.tuple #[.int .i64 ((walkV bs room.toNat).1 : Nat), .int .i64 ((walkV bs room.toNat).2 : Nat)]) ∧ Ext w w' := by
  have hl := hb.length
  have hcap := Reads.cap hb
  go_enter Try.func16, Try.ntmps16
  go_wp2
  go_loopw [6, 7] (fun u v wr => ∃ p k : Nat, u = .int .i64 (p : Nat) ∧ v = .int .i64 (k : Nat) ∧ Walked bs room.toNat p k ∧ Ext w wr) (fun u _ _ => n - (intOf u).toNat)
  case atStart => exact ⟨0, 0, rfl, rfl, Walked.zero _ _, Ext.refl _⟩
  case round =>
    obtain ⟨p, k, rfl, rfl, hW, hE⟩ := hrel
    have hpn : p ≤ n := by have := hW.1; omega
    have hkp := hW.2.2.1
    have hnl := nextV_le (bs.drop p)
    rw [List.length_drop, hl] at hnl
    obtain ⟨hnl1, hnl2⟩ := hnl
    have hst := hW.stop
    have hsp := hW.step
    have HW := Lib.hid hW
    clear hW
    generalize hN : nextV (bs.drop p) = N at hnl1 hnl2 hst hsp
    have hcall : Calls Try.prog 56 #[.slice A n c, .int .i64 (p : Nat)] wr fun e w' => e = .returned (.int .i64 (N : Nat)) ∧ Ext wr w' := by
      have := uNextR (hb.ext hE) hpn hn
      rwa [hN] at this
    by_cases h0 : N = 0
    · have q : ((N : Int) == 0) = true := by simp; omega
      have hf := hst (.inl h0)
      have Hf := Lib.hid hf
      clear hst hsp hf h0 hN hl
      go_wp2_with (go_at_call 56; refine hcall.mono ?_; rintro e w1 ⟨rfl, E1⟩)
      go_ret2
      rw [Hf.out]
      exact ⟨rfl, hE.trans E1⟩
    · have q : ((N : Int) == 0) = false := by simp; omega
      by_cases h1 : room < (p : Int) + N
      · have hf := hst (.inr (by omega))
        have Hf := Lib.hid hf
        clear hst hsp hf h0 hN hl
        go_wp2_with (go_at_call 56; refine hcall.mono ?_; rintro e w1 ⟨rfl, E1⟩)
        go_ret2
        rw [Hf.out]
        exact ⟨rfl, hE.trans E1⟩
      · have hs := hsp (by omega)
        have Hs := Lib.hid hs
        clear hst hsp hs hN hl
        go_wp2_with (go_at_call 56; refine hcall.mono ?_; rintro e w1 ⟨rfl, E1⟩)
        go_roundw
        case rel => exact ⟨p + N, k + 1, by go_num, by go_num, Hs.out, hE.trans E1⟩
        case measure => simp [intOf]; omega

end Go.Proofs.Ytcipokmklkognaa
