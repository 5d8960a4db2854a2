/- Contracts of layer 7: the place of a field. -/
import Derived.Test.YtlmmlmmadgcmcaaChecked
import Derived.Test.YtlmmlmmadgcmcaaS7
import Derived.Test.YtlmmlmmadgcmcaaS1
import Derived.Shelf.Abstract
namespace Go.Proofs.Ytlmmlmmadgcmcaa
open Go.RowKit
set_option linter.unusedVariables false

set_option maxRecDepth 100000 in
theorem idxField {A : Option Addr} {n c : Nat} {l : List FieldD} {w : World} {g : FuncId} {lb : Array Value} {p : FieldD → Bool} (eg : ∀ args w, (callFunc g args).run Try.prog w = .ok (.enter g args) w) (hb : FieldsAt w A n c l) (hn : n ≤ 1000000000000)
    (hp : ∀ (W : World) (f : FieldD), f.Ok → Ext w W → Calls Try.prog g (#[fieldV f] ++ lb) W fun e W' => e = .returned (.bool (p f)) ∧ Ext W W') :
    Calls Try.prog 96 #[.slice A n c, .func (.func g) #[] lb] w fun e w' => e = .returned (.int .i64 (idxB p l)) ∧ Ext w w' := by
  have hl := hb.length
  have Hl := Lib.hid hl
  have Hp := Lib.hid hp
  clear hl hp
  go_enter Try.func96, Try.ntmps96
  go_wp2
  go_loopw [5, 8] (fun _ i wr => ∃ k : Nat, k ≤ n ∧ i = .int .i64 k ∧ Ext w wr ∧ Hid (∀ (j : Nat) y, j < k → l[j]? = some y → p y = false)) (fun _ i _ => n - (intOf i).toNat)
  case atStart => exact ⟨0, Nat.zero_le _, rfl, Ext.refl _, fun j y h => absurd h (Nat.not_lt_zero j)⟩
  case round =>
    obtain ⟨k, hk, rfl, hW, hN⟩ := hrel
    by_cases hlt : k < n
    · have hlt2 : (k : Int) < n := by omega
      obtain ⟨b, off, f, rfl, hf, hok, hb1, c0, c1, c2, c3, c4, c5⟩ := (hb.up hW).field hlt
      have Hf := Lib.hid hf
      clear hf
      rcases hq : p f with _ | _
      · have hcall := Hp.out wr f hok hW
        rw [hq] at hcall
        unfold fieldV at hcall
        have Hc := Lib.hid hcall
        have Hq := Lib.hid hq
        clear hcall hq
        go_wp2_with (go_at_fn g; refine Hc.out.mono ?_; rintro e w1 ⟨rfl, E1⟩)
        go_roundw
        case rel =>
          refine ⟨k + 1, by omega, by go_num, hW.trans E1, fun j y hj hy => ?_⟩
          by_cases e : j = k
          · subst e
            have := Hf.out.symm.trans hy
            cases this
            exact Hq.out
          · exact hN.out j y (by omega) hy
        case measure => simp [intOf]; omega
      · have hcall := Hp.out wr f hok hW
        rw [hq] at hcall
        unfold fieldV at hcall
        have Hc := Lib.hid hcall
        have hi := idxB_found Hf.out hq hN.out
        have Hi := Lib.hid hi
        clear hcall hq hi
        go_wp2_with (go_at_fn g; refine Hc.out.mono ?_; rintro e w1 ⟨rfl, E1⟩)
        go_ret
        exact ⟨ret_int Hi.out.symm, hW.trans E1⟩
    · have hk2 : k = n := by omega
      subst hk2
      have hi : idxB p l = -1 := idxB_none (fun j y hy => hN.out j y (by have := (List.getElem?_eq_some_iff.1 hy).1; have := Hl.out; omega) hy)
      have Hi := Lib.hid hi
      clear hi
      go_wp2
      go_ret
      exact ⟨ret_int Hi.out.symm, hW⟩

end Go.Proofs.Ytlmmlmmadgcmcaa
