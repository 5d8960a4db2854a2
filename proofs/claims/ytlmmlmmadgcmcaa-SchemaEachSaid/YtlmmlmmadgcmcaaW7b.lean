/- Contracts of layer 7: names, numbers. -/
import Derived.Test.YtlmmlmmadgcmcaaS7b
import Derived.Test.YtlmmlmmadgcmcaaW6b
namespace Go.Proofs.Ytlmmlmmadgcmcaa
open Go.RowKit
set_option linter.unusedVariables false

theorem or32 {x : Nat} (h : x < 256) : bits BinOp.or IntKind.u8 (x : Int) 32 = ((x ||| 32 : Nat) : Int) := by
  rw [u8_or _ 32 (by omega) (by omega) (by decide) (by decide)]
  rfl

theorem sLetter {x : Nat} (hx : x < 256) (w : World) :
    Calls Try.prog 93 #[.int .u8 (x : Int)] w fun e w' => e = .returned (.bool (letterN x)) ∧ w = w' := by
  have hb := or32 hx
  have hl := letter_or hx
  generalize hy : (x ||| 32) = y at *
  have hy2 : y < 256 := by rw [← hy]; exact Nat.or_lt_two_pow (n := 8) hx (by decide)
  have HL := Lib.hid hl
  clear hl hy
  go_enter Try.func93, Try.ntmps93
  go_wp2
  all_goals
    go_ret
    refine ⟨ret_bool ?_, rfl⟩
    rw [HL.out, Bool.eq_iff_iff]
    simp
    omega

theorem sUsable (n : Int) (w : World) :
    Calls Try.prog 94 #[.int .i64 n] w fun e w' => e = .returned (.bool (usableB n)) ∧ w = w' := by
  go_enter Try.func94, Try.ntmps94
  go_wp2
  all_goals
    go_ret
    refine ⟨ret_bool ?_, rfl⟩
    rw [Bool.eq_iff_iff]
    unfold usableB
    simp
    omega

theorem str_len (s : ByteArray) : s.toList.length = s.size := by rw [ByteArray.toList_eq]; simp

theorem str_empty (s : ByteArray) : (!s.toList.isEmpty) = decide (1 ≤ s.size) := by
  rw [← str_len s]
  rcases s.toList with _ | ⟨a, l⟩
  · rfl
  · simp

theorem str_byte {s : ByteArray} {k : Nat} (h : k < s.size) : s.data.toList[k]? = some s[k] := by
  rw [List.getElem?_eq_getElem (by simpa using h)]
  rfl

set_option maxHeartbeats 1000000 in
theorem sNamed {s : ByteArray} (hs : s.size ≤ 9223372036854775807) (w : World) :
    Calls Try.prog 57 #[.string s] w fun e w' => e = .returned (.bool (nameB s)) ∧ w = w' := by
  go_enter Try.func57, Try.ntmps57
  go_wp2
  go_loop [3, 6] (fun _ i => ∃ k : Nat, k ≤ s.size ∧ i = .int .i64 k ∧ Hid (∀ (j : Nat) c, j < k → s.data.toList[j]? = some c → charB j c.toNat = true)) (fun _ i => s.size - (intOf i).toNat)
  case atStart => exact ⟨0, Nat.zero_le _, rfl, fun j c h => absurd h (Nat.not_lt_zero j)⟩
  case round =>
    obtain ⟨k, hk, rfl, hN⟩ := hrel
    by_cases hlt : k < s.size
    · have hx := str_byte hlt
      have hlt2 : (k : Int) < s.size := by omega
      have h256 := (s[k]).toNat_lt
      have Hx := Lib.hid hx
      clear hx
      have good : charB k s[k].toNat = true → Hid (∀ (j : Nat) c, j < k + 1 → s.data.toList[j]? = some c → charB j c.toNat = true) := fun hc j c hj h => by
        by_cases e : j = k
        · subst e
          have := Hx.out.symm.trans h
          cases this
          exact hc
        · exact hN.out j c (by omega) h
      have bad : charB k s[k].toNat = false → nameB s = false := fun hc => by unfold nameB; rw [charsB_bad _ 0 k _ Hx.out (by rw [Nat.zero_add]; exact hc)]; rfl
      have Hg := Lib.hid good
      have Hb := Lib.hid bad
      clear good bad
      rcases hl : letterN s[k].toNat with _ | _
      · have hcb : charB k s[k].toNat = (decide (0 < k) && decide (48 ≤ s[k].toNat) && decide (s[k].toNat ≤ 57)) := by unfold charB; rw [hl, Bool.false_or]
        have Hl := Lib.hid hl
        have Hc := Lib.hid hcb
        clear hl hcb
        by_cases hk0 : k = 0
        · subst hk0
          go_wp2_with (go_at_call 93; refine (sLetter (by omega) _).mono ?_; rintro e w1 ⟨rfl, rfl⟩; rw [Hl.out])
          go_ret
          exact ⟨ret_bool (Hb.out (by rw [Hc.out]; simp)).symm, rfl⟩
        · have q0 : ((k : Int) == 0) = false := by rw [beq_eq_false_iff_ne]; omega
          clear hk0
          by_cases h48 : (s[k].toNat : Int) < 48
          · go_wp2_with (go_at_call 93; refine (sLetter (by omega) _).mono ?_; rintro e w1 ⟨rfl, rfl⟩; rw [Hl.out])
            go_ret
            exact ⟨ret_bool (Hb.out (by rw [Hc.out]; simp; omega)).symm, rfl⟩
          · by_cases h57 : (57 : Int) < s[k].toNat
            · go_wp2_with (go_at_call 93; refine (sLetter (by omega) _).mono ?_; rintro e w1 ⟨rfl, rfl⟩; rw [Hl.out])
              go_ret
              exact ⟨ret_bool (Hb.out (by rw [Hc.out]; simp; omega)).symm, rfl⟩
            · go_wp2_with (go_at_call 93; refine (sLetter (by omega) _).mono ?_; rintro e w1 ⟨rfl, rfl⟩; rw [Hl.out])
              go_round
              case rel => exact ⟨k + 1, by omega, by go_num, Hg.out (by rw [Hc.out]; simp; rw [beq_eq_false_iff_ne] at q0; omega)⟩
              case measure => simp [intOf]; omega
      · have hcb : charB k s[k].toNat = true := by unfold charB; rw [hl, Bool.true_or]
        have Hl := Lib.hid hl
        have Hc := Lib.hid hcb
        clear hl hcb
        go_wp2_with (go_at_call 93; refine (sLetter (by omega) _).mono ?_; rintro e w1 ⟨rfl, rfl⟩; rw [Hl.out])
        go_round
        case rel => exact ⟨k + 1, by omega, by go_num, Hg.out Hc.out⟩
        case measure => simp [intOf]; omega
    · have hall : charsB 0 s.data.toList = true := charsB_all _ 0 (fun j c h => by
        rw [Nat.zero_add]
        have hj := (List.getElem?_eq_some_iff.1 h).1
        simp only [Array.length_toList] at hj
        exact hN.out j c (by have : s.data.size = s.size := rfl; omega) h)
      have hn : nameB s = (decide (1 ≤ s.size) && decide (s.size ≤ 60)) := by unfold nameB; rw [hall, Bool.true_and]
      have Hn := Lib.hid hn
      clear hall hn
      go_wp2
      all_goals
        go_ret
        refine ⟨ret_bool ?_, rfl⟩
        rw [Hn.out]
        have hsz : s.toList.length = s.size := str_len s
        first
          | (rename s.toList = [] => h0; rw [h0] at hsz; simp only [List.length_nil] at hsz; rw [← hsz]; rfl)
          | (rw [str_empty, Bool.eq_iff_iff]; simp; omega)

/-- What each character of the name is asked, in the reference's words. -/
theorem char_ref (k x : Nat) : charB k x = (decide (65 ≤ x) && decide (x ≤ 90) || decide (97 ≤ x) && decide (x ≤ 122) || decide (x = 95) || decide (0 < k) && decide (48 ≤ x) && decide (x ≤ 57)) := by
  unfold charB letterN
  rw [Bool.eq_iff_iff]
  simp
  omega

set_option maxHeartbeats 2000000 in
theorem sNameR {s : ByteArray} (hs : s.size ≤ 9223372036854775807) (w : World) :
    Calls Try.prog 59 #[.string s] w fun e w' => e = .returned (.bool (nameB s)) ∧ w = w' := by
  go_enter Try.func59, Try.ntmps59
  go_wp2
  go_loop [3] (fun i => ∃ k : Nat, k ≤ s.size ∧ i = .int .i64 k ∧ Hid (∀ (j : Nat) c, j < k → s.data.toList[j]? = some c → charB j c.toNat = true)) (fun i => s.size - (intOf i).toNat)
  case atStart => exact ⟨0, Nat.zero_le _, rfl, fun j c h => absurd h (Nat.not_lt_zero j)⟩
  case round =>
    obtain ⟨k, hk, rfl, hN⟩ := hrel
    by_cases hlt : k < s.size
    · have hx := str_byte hlt
      have hlt2 : (k : Int) < s.size := by omega
      have h256 := (s[k]).toNat_lt
      have Hx := Lib.hid hx
      clear hx
      have good : charB k s[k].toNat = true → Hid (∀ (j : Nat) c, j < k + 1 → s.data.toList[j]? = some c → charB j c.toNat = true) := fun hc j c hj h => by
        by_cases e : j = k
        · subst e
          have := Hx.out.symm.trans h
          cases this
          exact hc
        · exact hN.out j c (by omega) h
      have bad : charB k s[k].toNat = false → nameB s = false := fun hc => by unfold nameB; rw [charsB_bad _ 0 k _ Hx.out (by rw [Nat.zero_add]; exact hc)]; rfl
      have Hg := Lib.hid good
      have Hb := Lib.hid bad
      have hcr := char_ref k s[k].toNat
      have Hc := Lib.hid hcr
      clear good bad hcr
      go_wp2
      all_goals first
        | (go_ret
           exact ⟨ret_bool (Hb.out (by rw [Hc.out]; clear Hg Hb Hc Hx hN hs; simp at *; omega)).symm, rfl⟩)
        | (go_round
           case rel => exact ⟨k + 1, by omega, by go_num, Hg.out (by rw [Hc.out]; clear Hg Hb Hc Hx hN hs; simp at *; omega)⟩
           case measure => simp [intOf]; omega)
    · have hall : charsB 0 s.data.toList = true := charsB_all _ 0 (fun j c h => by
        rw [Nat.zero_add]
        have hj := (List.getElem?_eq_some_iff.1 h).1
        simp only [Array.length_toList] at hj
        exact hN.out j c (by have : s.data.size = s.size := rfl; omega) h)
      have hn : nameB s = (decide (1 ≤ s.size) && decide (s.size ≤ 60)) := by unfold nameB; rw [hall, Bool.true_and]
      have Hn := Lib.hid hn
      clear hall hn
      go_wp2
      all_goals
        go_ret
        refine ⟨ret_bool ?_, rfl⟩
        rw [Hn.out, Bool.eq_iff_iff]
        simp
        omega

end Go.Proofs.Ytlmmlmmadgcmcaa
