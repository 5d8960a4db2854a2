/- The walk of the law UtfCuts, out of its callees' contracts. -/
import Derived.Test.YtcipokmklkognaaKUtfFirst
namespace Go.Proofs.Ytcipokmklkognaa
open Go.RowKit
set_option linter.unusedVariables false

theorem utfCuts_walk {A : Option Addr} {n c : Nat} {bs : List UInt8} {room : Int} {w : World} (hb : BytesAt w A n c bs) (hr : -9223372036854775808 ≤ room ∧ room < 9223372036854775808) :
    Calls Try.prog 8 #[.slice A n c, .int .i64 room] w fun e w' => e = .returned (.bool true) ∧ Ext w w' := by
  have hmax := Reads.max hb
  have hcap := Reads.cap hb
  unfold maxLen at hmax
  by_cases hn : (2000 : Int) < n
  · go_enter Try.func8, Try.ntmps8
    go_wp2_with (go_at_call 15; refine (alive04 _).mono ?_; rintro e w1 ⟨rfl, E1⟩)
    go_ret
    exact ⟨rfl, E1⟩
  · have hl := hb.length
    have hle := (walkV_le bs room.toNat).1
    rw [hl] at hle
    obtain ⟨A2, hcut, hr2⟩ := cut_to elemB hb .i64 (m := (walkV bs room.toNat).1) hle
    have hb2 : BytesAt w A2 (walkV bs room.toNat).1 c (cutT bs room) := by
      have h := hr2
      simp only [Nat.mul_one, ← List.map_take] at h
      exact h
    clear hr2 hl
    have HB := Lib.hid hb2
    clear hb2
    have hm : (2000 : Int) < n → False := hn
    have hC : ∀ {w0 : World}, Ext w w0 → Calls Try.prog 44 #[.slice A n c, .int .i64 room] w0 fun e w' => ∃ A' c', e = .returned (.slice A' (walkV bs room.toNat).1 c') ∧ Own w0 w' 5 1 A' (walkV bs room.toNat).1 c' ((cutT bs room).map bv) := fun h => uCut (hb.ext h) (by omega) hr
    have hF : ∀ {w0 : World}, Ext w w0 → Calls Try.prog 16 #[.slice A n c, .int .i64 room] w0 fun e w' => e = .returned (.tuple #[.int .i64 ((walkV bs room.toNat).1 : Nat), .int .i64 ((walkV bs room.toNat).2 : Nat)]) ∧ Ext w0 w' := fun h => uFirstR (hb.ext h) (by omega) hr
    generalize walkV bs room.toNat = P at hle hcut HB hC hF
    generalize cutT bs room = ts at HB hC
    obtain ⟨P, K⟩ := P
    simp only at hle hcut HB hC hF
    clear hm
    go_enter Try.func8, Try.ntmps8
    go_wp2_with (first
      | (go_at_call 15; refine (alive04 _).mono ?_; rintro e w1 ⟨rfl, E1⟩)
      | (go_at_call 16; refine (hF E1).mono ?_; rintro e w2 ⟨rfl, E2⟩; have hE := E1.trans E2))
    go_region_with (first
      | (go_at_call 44; refine (hC hE.drew).mono ?_; rintro e w3 ⟨A3, c3, rfl, own3⟩)
      | (go_at_call 43; refine (same own3.reads (HB.out.ext (hE.drew.trans own3.ext))).mono ?_; rintro e w4 ⟨rfl, rfl⟩))
    all_goals go_simp
    all_goals go_wp2
    all_goals go_ret
    all_goals exact ⟨ret_bool (by simp), hE.drew.trans own3.ext⟩

end Go.Proofs.Ytcipokmklkognaa
