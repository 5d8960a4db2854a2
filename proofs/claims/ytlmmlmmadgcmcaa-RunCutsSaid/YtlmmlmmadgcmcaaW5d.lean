/- Contracts of layer 5: putting records. -/
import Derived.Test.YtlmmlmmadgcmcaaW3c
import Derived.Test.YtlmmlmmadgcmcaaW5c
namespace Go.Proofs.Ytlmmlmmadgcmcaa
open Go.RowKit
set_option linter.unusedVariables false

/-- May bytes be a value of a wire type? -/
def fitsV (wire : Int) (v : List UInt8) : Bool := decide ((wire = 0 ∧ (readV v).2.2 = 0 ∧ (readV v).2.1 = v.length) ∨ (wire = 1 ∧ v.length = 8) ∨ (wire = 5 ∧ v.length = 4) ∨ wire = 2)

theorem rFitsR {A : Option Addr} {n c : Nat} {bs : List UInt8} {w : World} {wire : Int} (hb : BytesAt w A n c bs) (hn : n ≤ 9000000000000000000) :
    Calls Try.prog 81 #[.int .i64 wire, .slice A n c] w fun e w' => e = .returned (.bool (fitsV wire bs)) ∧ w = w' := by
  have hl := hb.length
  rcases hv : readV bs with ⟨W, N, K⟩
  have hbd := readV_bd bs
  rw [hv] at hbd
  simp only at hbd
  have h2 := hbd.2.2.1
  have h4 := hbd.2.2.2.1
  clear hbd
  have hf : fitsV wire bs = decide ((wire = 0 ∧ K = 0 ∧ N = n) ∨ (wire = 1 ∧ n = 8) ∨ (wire = 5 ∧ n = 4) ∨ wire = 2) := by unfold fitsV; rw [hv, hl]
  rw [hf]
  clear hf hl
  have Hv := Lib.hid hv
  clear hv
  by_cases e0 : wire = 0
  · subst e0
    by_cases hK : K = 0
    · subst hK
      go_enter Try.func81, Try.ntmps81
      go_wp2_with (go_at_call 83; refine (vReadR (p := 0) hb rfl (Nat.zero_le _) hn Hv.out).mono ?_; rintro e w' ⟨rfl, rfl⟩)
      go_ret
      exact ⟨ret_bool (by rw [Bool.eq_iff_iff]; simp; omega), rfl⟩
    · have q : ((K : Int) == 0) = false := by simp; omega
      go_enter Try.func81, Try.ntmps81
      go_wp2_with (go_at_call 83; refine (vReadR (p := 0) hb rfl (Nat.zero_le _) hn Hv.out).mono ?_; rintro e w' ⟨rfl, rfl⟩)
      go_ret
      exact ⟨ret_bool (by rw [Bool.eq_iff_iff]; simp [hK]), rfl⟩
  · have q0 : (wire == 0) = false := by simp; omega
    by_cases e2 : wire = 2
    · subst e2
      clear e0
      go_enter Try.func81, Try.ntmps81
      go_wp2
      go_ret
      exact ⟨ret_bool (by rw [Bool.eq_iff_iff]; simp), rfl⟩
    · have q2 : (wire == 2) = false := by simp; omega
      by_cases e1 : wire = 1
      · subst e1
        clear e0 e2
        by_cases h8 : n = 8
        · subst h8
          go_enter Try.func81, Try.ntmps81
          go_wp2
          go_ret
          exact ⟨ret_bool (by rw [Bool.eq_iff_iff]; simp), rfl⟩
        · have q8 : ((n : Int) == 8) = false := by simp; omega
          go_enter Try.func81, Try.ntmps81
          go_wp2
          go_ret
          exact ⟨ret_bool (by rw [Bool.eq_iff_iff]; simp [h8]), rfl⟩
      · have q1 : (wire == 1) = false := by simp; omega
        by_cases e5 : wire = 5
        · subst e5
          clear e0 e1 e2
          go_enter Try.func81, Try.ntmps81
          go_wp2
          go_ret
          exact ⟨ret_bool (by rw [Bool.eq_iff_iff]; simp; try omega), rfl⟩
        · have q5 : (wire == 5) = false := by simp; omega
          have hd : decide ((wire = 0 ∧ K = 0 ∧ N = n) ∨ (wire = 1 ∧ n = 8) ∨ (wire = 5 ∧ n = 4) ∨ wire = 2) = false := by simp [e0, e1, e2, e5]
          rw [hd]
          clear e0 e1 e2 e5 hd
          go_enter Try.func81, Try.ntmps81
          go_wp2
          go_ret
          exact ⟨rfl, rfl⟩

/-- A record's bytes. -/
def putB (number wire : Int) (v : List UInt8) : List UInt8 := tagB number wire ++ ((if wire = 2 then Lib.uvarint v.length else []) ++ v)

theorem putB_length {number wire : Int} (h : rightB number wire = true) {v : List UInt8} (hv : v.length ≤ 100000000000) : (putB number wire v).length ≤ v.length + 15 := by
  have h1 := tagB_length h
  have h2 := Lib.uvarint_length64 (x := v.length) (by omega)
  unfold putB
  rw [List.length_append, List.length_append]
  split
  · omega
  · simp; omega

/-- What 'Len' puts behind bytes. -/
def lenB (number : Int) (v : List UInt8) : List UInt8 := if rightB number 2 = true then putB number 2 v else []

theorem fits_2 (v : List UInt8) : fitsV 2 v = true := by unfold fitsV; simp

end Go.Proofs.Ytlmmlmmadgcmcaa
