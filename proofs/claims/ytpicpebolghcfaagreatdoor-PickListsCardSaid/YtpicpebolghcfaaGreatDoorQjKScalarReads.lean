/- The walk of the law ScalarPuts, out of its callees' contracts. -/
import Derived.Test.YtpicpebolghcfaaGreatDoorQjW8

namespace Go.Proofs.YtpicpebolghcfaaGreatDoor
open Go.RowKit
set_option linter.unusedVariables false

end Go.Proofs.YtpicpebolghcfaaGreatDoor

/- The walk of the law ScalarReads, out of its callees' contracts. -/

namespace Go.Proofs.YtpicpebolghcfaaGreatDoor
open Go.RowKit
set_option linter.unusedVariables false

theorem sRead_0 {k : Int} (hk : numberB k = true) (bs : List UInt8) : (readS k bs).2 = if fitsV (wireI k) bs = true then 0 else 12 := by
  unfold fitsV
  rcases number_three hk with ⟨h12, hw⟩ | ⟨h12, h9, hw⟩ | ⟨h12, h9, hw⟩
  · rw [readS_12 hk h12, hw]
    by_cases h : bs.length = 8 <;> simp [h]
  · rw [readS_9 hk h12 h9, hw]
    by_cases h : bs.length = 4 <;> simp [h]
  · rcases hv : readV bs with ⟨W, N, C⟩
    rw [readS_0 hk h12 h9 hv, hw]
    by_cases h : C = 0 ∧ N = bs.length <;> simp [h]

theorem sReadR_word {k : Int} (hk : numberB k = true) {bs : List UInt8} (hf : fitsV (wireI k) bs = true) :
    (readS k bs) = (canonN k (if wireI k = 0 then (readV bs).1 else wordN (bs.take 8)), 0) := by
  unfold fitsV at hf
  have hf := of_decide_eq_true hf
  rcases number_three hk with ⟨h12, hw⟩ | ⟨h12, h9, hw⟩ | ⟨h12, h9, hw⟩
  · rw [hw] at hf
    have h8 : bs.length = 8 := by omega
    rw [readS_12 hk h12, hw, if_pos h8, if_neg (by omega), List.take_of_length_le (by omega)]
  · rw [hw] at hf
    have h8 : bs.length = 4 := by omega
    rw [readS_9 hk h12 h9, hw, if_pos h8, if_neg (by omega), List.take_of_length_le (by omega)]
  · rcases hv : readV bs with ⟨W, N, C⟩
    rw [hw, hv] at hf
    simp only at hf
    have h0 : C = 0 ∧ N = bs.length := by omega
    rw [readS_0 hk h12 h9 hv, hw, if_pos h0, if_pos rfl]

theorem wordN_take8 (bs : List UInt8) : wordN (bs.take 8) < 18446744073709551616 := by
  have h1 := wordN_lt (bs.take 8)
  have h2 : (bs.take 8).length ≤ 8 := by rw [List.length_take]; omega
  exact Nat.lt_of_lt_of_le h1 (Nat.le_trans (Nat.pow_le_pow_right (by decide) h2) (by decide))

theorem sReadR {A : Option Addr} {n c : Nat} {bs : List UInt8} {k : Int} {w : World} {W C : Nat} (hb : BytesAt w A n c bs) (hn : n ≤ 9000000000000000000) (hr : readS k bs = (W, C)) :
    Calls Tryz.prog 39 #[.int .i64 k, .slice A n c] w fun e w' => e = .returned (.tuple #[.int .u64 (W : Int), .int .i64 (C : Int)]) ∧ w = w' := by
  rcases hk : numberB k with _ | _
  · have kn := fun W : World => kNumberR k W
    rw [hk] at kn
    have Kn := Lib.hid kn
    clear kn
    rw [readS_no hk] at hr
    cases hr
    go_enter Tryz.func39, Tryz.ntmps39
    go_wp2_with (go_at_call 14; refine (Kn.out _).mono ?_; rintro e w' ⟨rfl, rfl⟩)
    go_ret2
    exact ⟨rfl, rfl⟩
  · have kn := fun W : World => kNumberR k W
    rw [hk] at kn
    have Kn := Lib.hid kn
    clear kn
    have kc := fun (x : Nat) (hx : x < 18446744073709551616) (W : World) => kCanonR k x hx W
    have ft := fun W : World => rFitsR (w := W) (A := A) (n := n) (c := c) (bs := bs) (wire := wireI k)
    have h0 := sRead_0 hk bs
    have h1 := @sReadR_word k hk bs
    rcases hv : readV bs with ⟨V, N, D⟩
    have b1 := (readV_bd bs).1
    rw [hv] at b1
    simp only at b1
    rcases hf : fitsV (wireI k) bs with _ | _
    · rw [hf] at ft
      rw [hr, hf] at h0
      simp at h0
      have hW : W = 0 := by
        have h2 := hr
        rcases number_three hk with ⟨h12, hw⟩ | ⟨h12, h9, hw⟩ | ⟨h12, h9, hw⟩
        · rw [readS_12 hk h12] at h2; split at h2 <;> simp_all
        · rw [readS_9 hk h12 h9] at h2; split at h2 <;> simp_all
        · rw [readS_0 hk h12 h9 hv] at h2; split at h2 <;> simp_all
      subst hW h0
      have Ft := Lib.hid ft
      have Hk := Lib.hid hk
      clear ft hr hk hv h1 hf kc
      go_enter Tryz.func39, Tryz.ntmps39
      go_wp2_with (first | (go_at_call 14; refine (Kn.out _).mono ?_; rintro e w' ⟨rfl, rfl⟩) | (go_at_call 68; refine (kWireRN Hk.out rfl).mono ?_; rintro e w' ⟨rfl, rfl⟩) | (go_at_call 67; refine (Ft.out _ hb hn).mono ?_; rintro e w' ⟨rfl, rfl⟩))
      go_ret2
      exact ⟨rfl, rfl⟩
    · rw [hf] at ft
      have h2 := h1 hf
      rw [hr] at h2
      simp only [Prod.mk.injEq] at h2
      obtain ⟨rfl, rfl⟩ := h2
      have hwt := wordN_take8 bs
      have Ft := Lib.hid ft
      have Hk := Lib.hid hk
      have Hv := Lib.hid hv
      by_cases hw0 : wireI k = 0
      · rw [hv, if_pos hw0]
        clear ft hr hk hv h1 hf kc h0
        rw [hw0] at Ft
        have Hw := Lib.hid hw0
        clear hw0
        go_enter Tryz.func39, Tryz.ntmps39
        go_wp2_with (first | (go_at_call 14; refine (Kn.out _).mono ?_; rintro e w' ⟨rfl, rfl⟩) | (go_at_call 68; refine (kWireRN Hk.out Hw.out).mono ?_; rintro e w' ⟨rfl, rfl⟩) | (go_at_call 67; refine (Ft.out _ hb hn).mono ?_; rintro e w' ⟨rfl, rfl⟩) | (go_at_call 69; refine (wordR hb).mono ?_; rintro e w' ⟨rfl, rfl⟩) | (go_at_call 70; refine (vReadR (p := 0) hb rfl (Nat.zero_le _) hn Hv.out).mono ?_; rintro e w' ⟨rfl, rfl⟩) | (go_at_call 53; refine (kCanonR _ _ b1 _).mono ?_; rintro e w' ⟨rfl, rfl⟩))
        go_ret2
        exact ⟨rfl, rfl⟩
      · rw [if_neg hw0]
        have q : (wireI k == 0) = false := by simp; exact hw0
        clear ft hr hk hv h1 hf kc h0 hw0
        go_enter Tryz.func39, Tryz.ntmps39
        go_wp2_with (first | (go_at_call 14; refine (Kn.out _).mono ?_; rintro e w' ⟨rfl, rfl⟩) | (go_at_call 68; refine (kWireRN Hk.out rfl).mono ?_; rintro e w' ⟨rfl, rfl⟩) | (go_at_call 67; refine (Ft.out _ hb hn).mono ?_; rintro e w' ⟨rfl, rfl⟩) | (go_at_call 69; refine (wordR hb).mono ?_; rintro e w' ⟨rfl, rfl⟩) | (go_at_call 53; refine (kCanonR _ _ hwt _).mono ?_; rintro e w' ⟨rfl, rfl⟩))
        go_ret2
        exact ⟨rfl, rfl⟩

end Go.Proofs.YtpicpebolghcfaaGreatDoor
