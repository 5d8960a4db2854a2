/- Contracts of layer 7: the same whole numbers. -/
import Derived.Test.YtalhnggfilgmjaaW9r
namespace Go.Proofs.Ytalhnggfilgmjaa
open Go.RowKit
set_option linter.unusedVariables false

theorem sameI {A B : Option Addr} {n c m d : Nat} {xs ys : List Nat} {w : World} (ha : IntsAt w A n c xs) (hb : IntsAt w B m d ys) (hn : n ≤ 1000000000000) :
    Calls Try.prog 22 #[.slice A n c, .slice B m d] w fun e w' => e = .returned (.bool (decide (xs = ys))) ∧ Ext w w' := by
  have hx : xs.length = n := by have := Reads.len ha; simpa using this
  have hy : ys.length = m := by have := Reads.len hb; simpa using this
  by_cases hnm : n = m
  · subst hnm
    have q1 : ((n : Int) != (n : Int)) = false := by simp
    go_enter Try.func22, Try.ntmps22
    go_wp2
    go_loopw [5] (fun i wr => ∃ k : Nat, k ≤ n ∧ i = .int .i64 k ∧ Ext w wr ∧ Hid (xs.take k = ys.take k)) (fun i _ => n - (intOf i).toNat)
    case atStart => exact ⟨0, Nat.zero_le _, rfl, Ext.refl _, rfl⟩
    case round =>
      obtain ⟨k, hk, rfl, hE, hT⟩ := hrel
      by_cases hlt : k < n
      · obtain ⟨b, off, x, rfl, hxk, hcx⟩ := IntsAt.num (Reads.ext ha hE) hlt
        obtain ⟨b', off', y, rfl, hyk, hcy⟩ := IntsAt.num (Reads.ext hb hE) hlt
        have Hx := Lib.hid hxk
        have Hy := Lib.hid hyk
        have Hlx := Lib.hid hx
        have Hly := Lib.hid hy
        have hltI : (k : Int) < n := by omega
        have hk0 : (0 : Int) ≤ k := by omega
        clear hxk hyk hx hy
        by_cases hxy : x = y
        · subst hxy
          have q2 : ((x : Int) != (x : Int)) = false := by simp
          go_wp2
          go_quiet (fail)
          go_wp2
          go_roundw
          case rel => exact ⟨k + 1, by omega, by go_num, hE.drewN _, by show _ = _; rw [take_snoc _ _ _ Hx.out, take_snoc _ _ _ Hy.out, hT.out]⟩
          case measure => simp [intOf]; omega
        · have q2 : ((x : Int) != (y : Int)) = true := by simp; omega
          have Hxy := Lib.hid hxy
          clear hxy
          go_wp2
          go_quiet (fail)
          go_wp2
          go_ret
          refine ⟨ret_bool (decide_eq_false ?_).symm, hE.drewN _⟩
          rintro rfl
          have := Hx.out.symm.trans Hy.out
          exact Hxy.out (by simpa using this)
      · have hkn : k = n := by omega
        subst hkn
        have hfin : xs = ys := by
          have := hT.out
          rwa [List.take_of_length_le (by omega), List.take_of_length_le (by omega)] at this
        have Hf := Lib.hid hfin
        clear hfin hx hy
        go_wp2
        go_ret
        exact ⟨ret_bool (decide_eq_true Hf.out).symm, hE⟩
  · have q1 : ((n : Int) != (m : Int)) = true := by simp; omega
    have hne : ¬ xs = ys := by rintro rfl; omega
    have Hne := Lib.hid hne
    clear hne hnm hx hy
    go_enter Try.func22, Try.ntmps22
    go_wp2
    go_ret
    exact ⟨ret_bool (decide_eq_false Hne.out).symm, Ext.refl _⟩

end Go.Proofs.Ytalhnggfilgmjaa
