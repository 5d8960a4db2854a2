/- Contracts of layer 9: the word of a place. -/
import Derived.Test.YtlmmlmmadgcmcaaW9g
namespace Go.Proofs.Ytlmmlmmadgcmcaa
open Go.RowKit
set_option linter.unusedVariables false

theorem uAt_bad {A : Option Addr} {m c : Nat} {bs : List UInt8} {k i : Int} {w : World} (hb : BytesAt w A m c bs) (hm : m ≤ 1000000000) {C : Nat} (hC : (wordsV k bs).2 = C) (h0 : C ≠ 0) :
    Calls Try.prog 56 #[.int .i64 k, .slice A m c, .int .i64 i] w fun e w' => e = .returned (.tuple #[.int .u64 0, .int .u8 (C : Int)]) ∧ Ext w w' := by
  have hW := uWords (k := k) hb hm
  rw [hC] at hW
  generalize (wordsV k bs).1 = Ws at *
  have HW := Lib.hid hW
  have q : ((C : Int) != 0) = true := by rw [bne_iff_ne]; omega
  clear hW hC h0
  go_enter Try.func56, Try.ntmps56
  go_wp2_with (go_at_call 44; refine HW.out.mono ?_; rintro e w1 ⟨A1, c1, rfl, own1⟩)
  go_ret2
  exact ⟨rfl, own1.ext⟩

theorem uAt_out {A : Option Addr} {m c : Nat} {bs : List UInt8} {k i : Int} {w : World} (hb : BytesAt w A m c bs) (hm : m ≤ 1000000000) (h0 : (wordsV k bs).2 = 0) (hi : i < 0 ∨ ((wordsV k bs).1.length : Int) ≤ i) :
    Calls Try.prog 56 #[.int .i64 k, .slice A m c, .int .i64 i] w fun e w' => e = .returned (.tuple #[.int .u64 0, .int .u8 11]) ∧ Ext w w' := by
  have hW := uWords (k := k) hb hm
  rw [h0] at hW
  generalize (wordsV k bs).1 = Ws at *
  have HW := Lib.hid hW
  clear hW h0
  by_cases hn : i < 0
  · clear hi
    go_enter Try.func56, Try.ntmps56
    go_wp2_with (go_at_call 44; refine HW.out.mono ?_; rintro e w1 ⟨A1, c1, rfl, own1⟩)
    go_ret2
    exact ⟨rfl, own1.ext⟩
  · have hl : (Ws.length : Int) ≤ i := by omega
    clear hi
    go_enter Try.func56, Try.ntmps56
    go_wp2_with (go_at_call 44; refine HW.out.mono ?_; rintro e w1 ⟨A1, c1, rfl, own1⟩)
    go_ret2
    exact ⟨rfl, own1.ext⟩

theorem uAt_in {A : Option Addr} {m c : Nat} {bs : List UInt8} {k : Int} {p : Nat} {w : World} (hb : BytesAt w A m c bs) (hm : m ≤ 1000000000) (h0 : (wordsV k bs).2 = 0) {x : Nat} (hx : (wordsV k bs).1[p]? = some x) :
    Calls Try.prog 56 #[.int .i64 k, .slice A m c, .int .i64 (p : Int)] w fun e w' => e = .returned (.tuple #[.int .u64 (x : Int), .int .u8 0]) ∧ Ext w w' := by
  have hW := uWords (k := k) hb hm
  rw [h0] at hW
  generalize (wordsV k bs).1 = Ws at *
  have HW := Lib.hid hW
  have hp : p < Ws.length := (List.getElem?_eq_some_iff.1 hx).1
  have hp0 : ¬ (p : Int) < 0 := by omega
  have hp1 : ¬ (Ws.length : Int) ≤ p := by omega
  have Hx := Lib.hid hx
  clear hW h0 hx
  go_enter Try.func56, Try.ntmps56
  go_wp2_with (go_at_call 44; refine HW.out.mono ?_; rintro e w1 ⟨A1, c1, rfl, own1⟩; obtain ⟨b, off, y, rfl, hy, hcell⟩ := WordsAt.word own1.reads hp; have hyx : y = x := Option.some.inj (hy.symm.trans Hx.out); subst hyx; clear hy)
  go_ret2
  exact ⟨rfl, own1.ext⟩

end Go.Proofs.Ytlmmlmmadgcmcaa
