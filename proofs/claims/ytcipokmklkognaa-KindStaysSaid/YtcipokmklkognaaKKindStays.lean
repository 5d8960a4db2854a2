/- The walk of the law KindStays, out of its callees' contracts. -/
import Derived.Test.YtcipokmklkognaaKKindForms
import Derived.Test.YtcipokmklkognaaW6c
namespace Go.Proofs.Ytcipokmklkognaa
open Go.RowKit
set_option linter.unusedVariables false

/-- The code of a signed reading. -/
def signedC (k : Int) : Int := if signedB k = true then 0 else 2

theorem kSigned' (k : Int) (x : Nat) (hx : x < 18446744073709551616) (w : World) :
    Calls Try.prog 37 #[.int .i64 k, .int .u64 x] w fun e w' => e = .returned (.tuple #[.int .i64 (signedI k x), .int .u8 (signedC k)]) ∧ w = w' := kSigned k x hx w

theorem kCanon_yes {k : Int} (h : numberB k = true) (x : Nat) (hx : x < 18446744073709551616) (w : World) :
    Calls Try.prog 36 #[.int .i64 k, .int .u64 x] w fun e w' => e = .returned (.tuple #[.int .u64 (canonN k x), .int .u8 0]) ∧ Ext w w' := by
  have := kCanon k x hx w
  rwa [if_pos h, if_pos h] at this

theorem kindStays_walk {k l : Int} {x : Nat} {w : World} (bk : -9223372036854775808 ≤ k ∧ k < 9223372036854775808) (bl : -9223372036854775808 ≤ l ∧ l < 9223372036854775808) (hx : x < 18446744073709551616) :
    Calls Try.prog 10 #[.int .i64 k, .int .i64 l, .int .u64 x] w fun e w' => e = .returned (.bool true) ∧ Ext w w' := by
  have hc := canonN_lt k hx
  obtain ⟨hs1, hs2⟩ := canonN_stays (k := k) hx
  by_cases hk : kindB k = true
  · by_cases hl : kindB l = true
    · obtain ⟨hk1, hk2⟩ : 1 ≤ k ∧ k ≤ 17 := of_decide_eq_true hk
      obtain ⟨hl1, hl2⟩ : 1 ≤ l ∧ l ≤ 17 := of_decide_eq_true hl
      obtain ⟨m, rfl⟩ : ∃ m : Nat, k = m := ⟨k.toNat, by omega⟩
      obtain ⟨n, rfl⟩ : ∃ n : Nat, l = n := ⟨l.toNat, by omega⟩
      have hK := isKind_name (k := m) (by omega) (by omega)
      have hq : (((formOf (m : Nat)).1.toList == (formOf (n : Nat)).1.toList) == ((m : Int) == (n : Int))) = true := by
        by_cases h : m = n
        · subst h; simp
        · have h1 : ((formOf (m : Nat)).1.toList == (formOf (n : Nat)).1.toList) = false := str_ne (fun e => h (names_inj (by omega) (by omega) (by omega) (by omega) e))
          have h2 : ((m : Int) == (n : Int)) = false := by simp; omega
          rw [h1, h2]; rfl
      have hp : parseC m = 0 := parseC_pos (by omega)
      have HK := Lib.hid hK
      clear hK hk1 hk2 hl1 hl2
      by_cases hB : numberB (m : Nat) = true
      · go_enter Try.func10, Try.ntmps10
        go_wp2_with (first
          | (go_at_call 25; refine (alive06 _).mono ?_; rintro e w1 ⟨rfl, E1⟩; have hE := E1; have tok : True := trivial; have tok2 : True := trivial)
          | (go_at_call 36; have _t := tok; refine (kCanon_yes hB x hx _).mono ?_; rintro e w2 ⟨rfl, E2⟩; replace hE := hE.trans E2; clear tok E2)
          | (go_at_call 36; refine (kCanon_yes hB _ hc _).mono ?_; rw [hs1]; rintro e w3 ⟨rfl, E2⟩; replace hE := hE.trans E2; clear E2)
          | (go_at_call 37; have _t := tok2; refine (kSigned' _ x hx _).mono ?_; rintro e w4 ⟨rfl, rfl⟩; clear tok2)
          | (go_at_call 37; refine (kSigned' _ _ hc _).mono ?_; rw [hs2]; rintro e w4 ⟨rfl, rfl⟩)
          | (go_at_call 31; refine (kRight _ _).mono ?_; (first | rw [hk] | rw [hl]); rintro e w4 ⟨rfl, rfl⟩)
          | (go_at_call 32; refine (kName _ _).mono ?_; rintro e w5 ⟨rfl, E4⟩; replace hE := hE.trans E4; clear E4)
          | (go_at_call 26; refine (kParse HK.out _).mono ?_; rw [hp]; rintro e w5 ⟨rfl, E4⟩; replace hE := hE.trans E4; clear E4))
        go_ret
        exact ⟨rfl, hE⟩
      · have hB : numberB (m : Nat) = false := by simpa using hB
        go_enter Try.func10, Try.ntmps10
        go_wp2_with (first
          | (go_at_call 25; refine (alive06 _).mono ?_; rintro e w1 ⟨rfl, E1⟩; have hE := E1; have tok : True := trivial; have tok2 : True := trivial)
          | (go_at_call 36; refine (kCanon _ x hx _).mono ?_; rw [if_neg (by rw [hB]; decide), if_neg (by rw [hB]; decide)]; rintro e w2 ⟨rfl, E2⟩; replace hE := hE.trans E2; clear E2)
          | (go_at_call 31; refine (kRight _ _).mono ?_; (first | rw [hk] | rw [hl]); rintro e w4 ⟨rfl, rfl⟩)
          | (go_at_call 32; refine (kName _ _).mono ?_; rintro e w5 ⟨rfl, E4⟩; replace hE := hE.trans E4; clear E4)
          | (go_at_call 26; refine (kParse HK.out _).mono ?_; rw [hp]; rintro e w5 ⟨rfl, E4⟩; replace hE := hE.trans E4; clear E4))
        go_ret
        exact ⟨rfl, hE⟩
    · have hl : kindB l = false := by simpa using hl
      by_cases hB : numberB k = true
      · go_enter Try.func10, Try.ntmps10
        go_wp2_with (first
          | (go_at_call 25; refine (alive06 _).mono ?_; rintro e w1 ⟨rfl, E1⟩; have hE := E1; have tok : True := trivial; have tok2 : True := trivial)
          | (go_at_call 36; have _t := tok; refine (kCanon_yes hB x hx _).mono ?_; rintro e w2 ⟨rfl, E2⟩; replace hE := hE.trans E2; clear tok E2)
          | (go_at_call 36; refine (kCanon_yes hB _ hc _).mono ?_; rw [hs1]; rintro e w3 ⟨rfl, E2⟩; replace hE := hE.trans E2; clear E2)
          | (go_at_call 37; have _t := tok2; refine (kSigned' _ x hx _).mono ?_; rintro e w4 ⟨rfl, rfl⟩; clear tok2)
          | (go_at_call 37; refine (kSigned' _ _ hc _).mono ?_; rw [hs2]; rintro e w4 ⟨rfl, rfl⟩)
          | (go_at_call 31; refine (kRight _ _).mono ?_; (first | rw [hk] | rw [hl]); rintro e w4 ⟨rfl, rfl⟩))
        go_ret
        exact ⟨rfl, hE⟩
      · have hB : numberB k = false := by simpa using hB
        go_enter Try.func10, Try.ntmps10
        go_wp2_with (first
          | (go_at_call 25; refine (alive06 _).mono ?_; rintro e w1 ⟨rfl, E1⟩; have hE := E1; have tok : True := trivial; have tok2 : True := trivial)
          | (go_at_call 36; refine (kCanon _ x hx _).mono ?_; rw [if_neg (by rw [hB]; decide), if_neg (by rw [hB]; decide)]; rintro e w2 ⟨rfl, E2⟩; replace hE := hE.trans E2; clear E2)
          | (go_at_call 31; refine (kRight _ _).mono ?_; (first | rw [hk] | rw [hl]); rintro e w4 ⟨rfl, rfl⟩))
        go_ret
        exact ⟨rfl, hE⟩
  · have hk : kindB k = false := by simpa using hk
    have hB : numberB k = false := by
      have := of_decide_eq_false hk
      exact decide_eq_false (by omega)
    have hl : True := trivial
    go_enter Try.func10, Try.ntmps10
    go_wp2_with (first
      | (go_at_call 25; refine (alive06 _).mono ?_; rintro e w1 ⟨rfl, E1⟩; have hE := E1; have tok : True := trivial; have tok2 : True := trivial)
      | (go_at_call 36; refine (kCanon _ x hx _).mono ?_; rw [if_neg (by rw [hB]; decide), if_neg (by rw [hB]; decide)]; rintro e w2 ⟨rfl, E2⟩; replace hE := hE.trans E2; clear E2)
      | (go_at_call 31; refine (kRight _ _).mono ?_; (first | rw [hk] | rw [hl]); rintro e w4 ⟨rfl, rfl⟩))
    go_ret
    exact ⟨rfl, hE⟩

end Go.Proofs.Ytcipokmklkognaa
