/- A contract of layer 7: the place of a name. -/
import Derived.Test.YtpicpebolghcfaaGreatDoorQiW10

namespace Go.Proofs.YtpicpebolghcfaaGreatDoor
open Go.RowKit Go.Shelf
set_option linter.unusedVariables false

theorem rNamed {s t : ByteArray} {A : Option Addr} {n c : Nat} {l : List FieldD} {w : World} (hb : FieldsAt w A n c l) (hn : n ≤ 1000000000000) :
    Calls Tryz.prog 99 #[.agg #[.string s, .slice A n c], .string t] w fun e w' => e = .returned (.int .i64 (idxB (fnameP t) l)) ∧ Ext w w' := by
  have hl := hb.length
  have Hl := Lib.hid hl
  clear hl
  have hbw : FieldsAt (w.alloc (.cells #[.string s, .slice A n c] 77)) A n c l := hb.up (by repeat with_reducible (first | exact Ext.refl _ | refine Ext.alloc ?_ _ | refine Ext.drew ?_ | refine Ext.drewN ?_ _ | refine Ext.setCell ?_ (by first | exact Nat.le_refl _ | omega | (simp; done) | (simp; omega)) _))
  go_enter Tryz.func99, Tryz.ntmps99
  go_wp2
  go_loop [5] (fun i => ∃ k : Nat, k ≤ n ∧ i = .int .i64 k ∧ Hid (∀ (j : Nat) y, j < k → l[j]? = some y → fnameP t y = false)) (fun i => n - (intOf i).toNat)
  case atStart => exact ⟨0, Nat.zero_le _, rfl, fun j y h => absurd h (Nat.not_lt_zero j)⟩
  case round =>
    obtain ⟨k, hk, rfl, hN⟩ := hrel
    by_cases hlt : k < n
    · have hlt2 : (k : Int) < n := by omega
      obtain ⟨b, off, f, rfl, hf, hok, hb1, c0, c1, c2, c3, c4, c5⟩ := hbw.field hlt
      by_cases hq : f.name = t
      · have hp : fnameP t f = true := decide_eq_true hq
        have hi := idxB_found hf hp hN.out
        have Hi := Lib.hid hi
        subst hq
        clear hi hp
        go_wp2
        go_ret
        exact ⟨ret_int Hi.out.symm, (by repeat with_reducible (first | exact Ext.refl _ | refine Ext.alloc ?_ _ | refine Ext.drew ?_ | refine Ext.drewN ?_ _ | refine Ext.setCell ?_ (by first | exact Nat.le_refl _ | omega | (simp; done) | (simp; omega)) _))⟩
      · have hp : fnameP t f = false := decide_eq_false hq
        have hs := str_ne hq
        have Hf := Lib.hid hf
        have Hp := Lib.hid hp
        clear hf hp hq
        go_wp2
        go_round
        case rel =>
          refine ⟨k + 1, by omega, by go_num, fun j y hj hy => ?_⟩
          by_cases e : j = k
          · subst e
            have := Hf.out.symm.trans hy
            cases this
            exact Hp.out
          · exact hN.out j y (by omega) hy
        case measure => simp [intOf]; omega
    · have hk2 : k = n := by omega
      subst hk2
      have hi : idxB (fnameP t) l = -1 := idxB_none (fun j y hy => hN.out j y (by have := (List.getElem?_eq_some_iff.1 hy).1; have := Hl.out; omega) hy)
      have Hi := Lib.hid hi
      clear hi
      go_wp2
      go_ret
      exact ⟨ret_int Hi.out.symm, (by repeat with_reducible (first | exact Ext.refl _ | refine Ext.alloc ?_ _ | refine Ext.drew ?_ | refine Ext.drewN ?_ _ | refine Ext.setCell ?_ (by first | exact Nat.le_refl _ | omega | (simp; done) | (simp; omega)) _))⟩

end Go.Proofs.YtpicpebolghcfaaGreatDoor
