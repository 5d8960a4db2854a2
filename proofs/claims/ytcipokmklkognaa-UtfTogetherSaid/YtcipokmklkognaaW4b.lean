/- Contracts of layer 4: the walk over code points; a code point's bytes. -/
import Derived.Test.YtcipokmklkognaaW4
namespace Go.Proofs.Ytcipokmklkognaa
open Go.RowKit
set_option linter.unusedVariables false

theorem ret_ii {a a' b b' : Int} (h1 : a = a') (h2 : b = b') : Ending.returned (.tuple #[.int .i64 a, .int .i64 b]) = .returned (.tuple #[.int .i64 a', .int .i64 b']) := by rw [h1, h2]

/-- The walk, so far: at p, with k code points behind it. -/
def Walked (bs : List UInt8) (room p k : Nat) : Prop :=
  p ≤ bs.length ∧ p ≤ room ∧ k ≤ p ∧ walkV bs room = (p + (walkV (bs.drop p) (room - p)).1, k + (walkV (bs.drop p) (room - p)).2)

theorem Walked.zero (bs : List UInt8) (room : Nat) : Walked bs room 0 0 := ⟨Nat.zero_le _, Nat.zero_le _, Nat.le_refl _, by simp⟩

theorem Walked.stop {bs : List UInt8} {room p k : Nat} (h : Walked bs room p k) (hs : nextV (bs.drop p) = 0 ∨ room < p + nextV (bs.drop p)) : walkV bs room = (p, k) := by
  rw [h.2.2.2, walkV_stop (bs := bs.drop p) (room := room - p) (by have := h.2.1; omega)]
  rfl

theorem Walked.step {bs : List UInt8} {room p k : Nat} (h : Walked bs room p k) (hs : ¬ (nextV (bs.drop p) = 0 ∨ room < p + nextV (bs.drop p))) : Walked bs room (p + nextV (bs.drop p)) (k + 1) := by
  have hl := nextV_le (bs.drop p)
  rw [List.length_drop] at hl
  obtain ⟨h1, h2, h3, h4⟩ := h
  refine ⟨by omega, by omega, by omega, ?_⟩
  rw [h4, walkV_step (bs := bs.drop p) (room := room - p) (by omega), List.drop_drop, Nat.sub_sub]
  simp only [Prod.mk.injEq]
  omega

/-- As many bytes as have room. -/
theorem uWalk {A : Option Addr} {n c : Nat} {bs : List UInt8} {w : World} {room : Int} (hb : BytesAt w A n c bs) (hr : -9223372036854775808 ≤ room ∧ room < 9223372036854775808) :
    Calls Try.prog 57 #[.slice A n c, .int .i64 room] w fun e w' => e = .returned (.tuple #[.int .i64 ((walkV bs room.toNat).1 : Nat), .int .i64 ((walkV bs room.toNat).2 : Nat)]) ∧ w = w' := by
  have hl := hb.length
  have hmax := Reads.max hb
  have hcap := Reads.cap hb
  unfold maxLen at hmax
  go_enter Try.func57, Try.ntmps57
  go_wp2
  go_loop [6, 7] (fun u v => ∃ p k : Nat, u = .int .i64 (p : Nat) ∧ v = .int .i64 (k : Nat) ∧ Walked bs room.toNat p k) (fun u _ => n - (intOf u).toNat)
  case atStart => exact ⟨0, 0, rfl, rfl, Walked.zero _ _⟩
  case round =>
    obtain ⟨p, k, rfl, rfl, hW⟩ := hrel
    obtain ⟨A2, hcut, hr2⟩ := cut_from elemB hb .i64 (l := p) (by have := hW.1; omega)
    have hb2 : BytesAt w A2 (n - p) (c - p) (bs.drop p) := by
      have h := hr2
      simp only [Nat.mul_one, ← List.map_drop] at h
      exact h
    have hpn : p ≤ n := by have := hW.1; omega
    have hkp := hW.2.2.1
    have hnl := nextV_le (bs.drop p)
    rw [List.length_drop, hl] at hnl
    obtain ⟨hnl1, hnl2⟩ := hnl
    have hst := hW.stop
    have hsp := hW.step
    have HW := Lib.hid hW
    clear hr2 hW
    generalize hN : nextV (bs.drop p) = N at hnl1 hnl2 hst hsp
    have hcall : ∀ w0, w0 = w → Calls Try.prog 77 #[.slice A2 (n - p) (c - p)] w0 fun e w' => e = .returned (.int .i64 (N : Nat)) ∧ w0 = w' := by
      intro w0 h
      subst h
      have := uNext hb2
      rwa [hN] at this
    by_cases h0 : N = 0
    · have q : ((N : Int) == 0) = true := by simp; omega
      have hf := hst (.inl h0)
      have Hf := Lib.hid hf
      clear hst hsp hf h0 hN hl
      go_wp2_with (go_at_call 77; refine (hcall _ rfl).mono ?_; rintro e w1 ⟨rfl, rfl⟩)
      go_ret2
      rw [Hf.out]
      exact ⟨rfl, rfl⟩
    · have q : ((N : Int) == 0) = false := by simp; omega
      by_cases h1 : room < (p : Int) + N
      · have hf := hst (.inr (by omega))
        have Hf := Lib.hid hf
        clear hst hsp hf h0 hN hl
        go_wp2_with (go_at_call 77; refine (hcall _ rfl).mono ?_; rintro e w1 ⟨rfl, rfl⟩)
        go_ret2
        rw [Hf.out]
        exact ⟨rfl, rfl⟩
      · have hs := hsp (by omega)
        have Hs := Lib.hid hs
        clear hst hsp hs hN hl
        go_wp2_with (go_at_call 77; refine (hcall _ rfl).mono ?_; rintro e w1 ⟨rfl, rfl⟩)
        go_round
        case rel => exact ⟨p + N, k + 1, by go_num, by go_num, Hs.out⟩
        case measure => simp [intOf]; omega

theorem uFirst {A : Option Addr} {n c : Nat} {bs : List UInt8} {w : World} (hb : BytesAt w A n c bs) :
    Calls Try.prog 17 #[.slice A n c] w fun e w' => e = .returned (.int .i64 ((walkV bs bs.length).1 : Nat)) ∧ w = w' := by
  have hl := hb.length
  have hmax := Reads.max hb
  have hcap := Reads.cap hb
  unfold maxLen at hmax
  have hw := uWalk (room := (n : Int)) hb (by omega)
  rw [show ((n : Int)).toNat = bs.length from hl.symm] at hw
  clear hl
  go_enter Try.func17, Try.ntmps17
  go_wp2_with (go_at_call 57; refine hw.mono ?_; rintro e w1 ⟨rfl, rfl⟩)
  go_ret
  exact ⟨rfl, rfl⟩

theorem uCount {A : Option Addr} {n c : Nat} {bs : List UInt8} {w : World} (hb : BytesAt w A n c bs) :
    Calls Try.prog 18 #[.slice A n c] w fun e w' => e = .returned (.int .i64 ((walkV bs bs.length).2 : Nat)) ∧ w = w' := by
  have hl := hb.length
  have hmax := Reads.max hb
  have hcap := Reads.cap hb
  unfold maxLen at hmax
  have hw := uWalk (room := (n : Int)) hb (by omega)
  rw [show ((n : Int)).toNat = bs.length from hl.symm] at hw
  clear hl
  go_enter Try.func18, Try.ntmps18
  go_wp2_with (go_at_call 57; refine hw.mono ?_; rintro e w1 ⟨rfl, rfl⟩)
  go_ret
  exact ⟨rfl, rfl⟩

theorem uRight {A : Option Addr} {n c : Nat} {bs : List UInt8} {w : World} (hb : BytesAt w A n c bs) :
    Calls Try.prog 19 #[.slice A n c] w fun e w' => e = .returned (.bool (rightT bs)) ∧ w = w' := by
  have hl := hb.length
  have hr : rightT bs = (((walkV bs bs.length).1 : Int) == (n : Int)) := by
    unfold rightT
    rw [Bool.eq_iff_iff]
    simp
    omega
  rw [hr]
  clear hr hl
  go_enter Try.func19, Try.ntmps19
  go_wp2_with (go_at_call 17; refine (uFirst hb).mono ?_; rintro e w1 ⟨rfl, rfl⟩)
  go_ret
  exact ⟨rfl, rfl⟩

/-- A text, cut. -/
def cutT (bs : List UInt8) (room : Int) : List UInt8 := bs.take (walkV bs room.toNat).1

theorem uCut {A : Option Addr} {n c : Nat} {bs : List UInt8} {w : World} {room : Int} (hb : BytesAt w A n c bs) (hn : n ≤ 100000000000) (hr : -9223372036854775808 ≤ room ∧ room < 9223372036854775808) :
    Calls Try.prog 44 #[.slice A n c, .int .i64 room] w fun e w' => ∃ A' c', e = .returned (.slice A' (walkV bs room.toNat).1 c') ∧ Own w w' 5 1 A' (walkV bs room.toNat).1 c' ((cutT bs room).map bv) := by
  have hl := hb.length
  have hle := (walkV_le bs room.toNat).1
  rw [hl] at hle
  have hw := uWalk hb hr
  unfold cutT
  generalize walkV bs room.toNat = P at hw hle
  obtain ⟨P, K⟩ := P
  simp only at hw hle ⊢
  obtain ⟨A2, hcut, hr2⟩ := cut_to elemB hb .i64 (m := P) hle
  have hb2 : BytesAt w A2 P c (bs.take P) := by
    have h := hr2
    simp only [Nat.mul_one, ← List.map_take] at h
    exact h
  clear hr2 hl
  go_enter Try.func44, Try.ntmps44
  go_wp2_with (first | (go_at_call 57; refine hw.mono ?_; rintro e w1 ⟨rfl, rfl⟩) | (go_at_call 71; refine (clone hb2 (by omega)).mono ?_; rintro e w2 ⟨A3, c3, rfl, own3⟩))
  go_ret
  exact ⟨A3, c3, rfl, own3⟩

end Go.Proofs.Ytcipokmklkognaa
