/- Contracts of layer 9: the reference. -/
import Derived.Test.YtlhbllaojjelcaaDoorW9
import Derived.Test.YtlhbllaojjelcaaDoorSA
import Derived.Test.YtlhbllaojjelcaaDoorW6
import Derived.Test.YtlhbllaojjelcaaDoorKScalarReads

/- Contracts of layer 9: the reference's ends of a run's values. -/
namespace Go.Proofs.YtlhbllaojjelcaaDoor
open Go.RowKit
set_option linter.unusedVariables false

def IntsAt (w : World) (A : Option Addr) (n c : Nat) (l : List Nat) : Prop := Reads w A n c 1 (l.map iv)

end Go.Proofs.YtlhbllaojjelcaaDoor

/- Contracts of layer 9: the reference's words of a run. -/
namespace Go.Proofs.YtlhbllaojjelcaaDoor
open Go.RowKit
set_option linter.unusedVariables false

theorem IntsAt.num {w : World} {A : Option Addr} {n c : Nat} {l : List Nat} (h : IntsAt w A n c l) {k : Nat} (hk : k < n) :
    ∃ b off x, A = some ⟨b, off, none⟩ ∧ l[k]? = some x ∧ w.cell? ⟨b, off + k, none⟩ = some (.int .i64 (x : Int)) := by
  obtain ⟨b, off, e, _, hc⟩ := Reads.at_ h (by omega)
  have hl : l.length = n := by have := Reads.len h; simpa using this
  have hx : l[k]? = some (l[k]'(by omega)) := List.getElem?_eq_getElem (by omega)
  exact ⟨b, off, _, e, hx, hc k _ (by rw [List.getElem?_map, hx]; rfl)⟩

theorem span_at9 {w : World} {A : Option Addr} {n c : Nat} {bs : List UInt8} (hb : BytesAt w A n c bs) {l m : Nat} (hl : l ≤ m) (hm : m ≤ n) :
    ∃ A', (∀ W : World, (Instr.slice 24 (.slice A n c) (some (.int .i64 (l : Int))) (some (.int .i64 (m : Int))) none).run Tryd.prog W = .ok (.slice A' (m - l) (c - l)) W) ∧ BytesAt w A' (m - l) (c - l) ((bs.take m).drop l) := by
  obtain ⟨A', h1, h2⟩ := cut_both elemB hb .i64 .i64 hl hm
  exact ⟨A', h1, by simpa [BytesAt, List.map_drop, List.map_take] using h2⟩

theorem endsV_no {k : Int} {bs : List UInt8} (hk : numberB k = false) : endsV k bs = ([], 2) := by
  unfold endsV
  rw [codeV_no hk]
  rfl

theorem words_ends (k : Int) (bs : List UInt8) : (wordsV k bs).1.length = (endsV k bs).1.length ∧ (wordsV k bs).2 = (endsV k bs).2 ∧ (endsV k bs).1.length ≤ bs.length + 1 := by
  have := valsV_len k bs
  unfold wordsV endsV
  by_cases h : codeV k bs = 0
  · simp only [if_pos h, List.length_map, endsOf_len]
    exact ⟨trivial, trivial, this⟩
  · simp only [if_neg h, List.length_nil]
    exact ⟨trivial, trivial, Nat.zero_le _⟩

/-- The p-th value of a run, where it lies, and its word. -/
theorem word_at {k : Int} {bs : List UInt8} {p : Nat} (hp : p < (endsV k bs).1.length) :
    ∃ (S0 S1 : Nat) (W C : Nat), (endsV k bs).1[p]? = some S1 ∧ (p = 0 → S0 = 0) ∧ (∀ q, p = q + 1 → (endsV k bs).1[q]? = some S0) ∧ S0 ≤ S1 ∧ S1 ≤ bs.length ∧ readS k ((bs.take S1).drop S0) = (W, C) ∧ (wordsV k bs).1[p]? = some W := by
  have h0 : codeV k bs = 0 := by
    by_cases h : codeV k bs = 0
    · exact h
    · unfold endsV at hp
      simp only [if_neg h, List.length_nil] at hp
      omega
  unfold endsV at hp ⊢
  unfold wordsV
  simp only [if_pos h0, endsOf_len] at hp ⊢
  have hx : (valsV k bs)[p]? = some ((valsV k bs)[p]) := List.getElem?_eq_getElem hp
  obtain ⟨c1, c2, c3⟩ := joinL_cut _ p _ hx
  rw [valsV_join h0] at c1 c3
  refine ⟨sumL ((valsV k bs).take p), sumL ((valsV k bs).take (p + 1)), (readS k (valsV k bs)[p].1).1, (readS k (valsV k bs)[p].1).2, ?_, fun h => by subst h; rfl, fun q hq => ?_, by omega, c3, by rw [c1], by rw [List.getElem?_map, hx]; rfl⟩
  · rw [endsOf_at _ 0 p hp, Nat.zero_add]
  · subst hq
    rw [endsOf_at _ 0 q (by omega), Nat.zero_add]

end Go.Proofs.YtlhbllaojjelcaaDoor

/- Contracts of layer 9: the word of a place. -/
namespace Go.Proofs.YtlhbllaojjelcaaDoor
open Go.RowKit
set_option linter.unusedVariables false

theorem uAt_bad {A : Option Addr} {m c : Nat} {bs : List UInt8} {k i : Int} {w : World} (hb : BytesAt w A m c bs) (hm : m ≤ 1000000000) {C : Nat} (hC : (wordsV k bs).2 = C) (h0 : C ≠ 0) :
    Calls Tryd.prog 19 #[.int .i64 k, .slice A m c, .int .i64 i] w fun e w' => e = .returned (.tuple #[.int .u64 0, .int .u8 (C : Int)]) ∧ Ext w w' := by
  have hW := uWords (k := k) hb hm
  rw [hC] at hW
  generalize (wordsV k bs).1 = Ws at *
  have HW := Lib.hid hW
  have q : ((C : Int) != 0) = true := by rw [bne_iff_ne]; omega
  clear hW hC h0
  go_enter Tryd.func19, Tryd.ntmps19
  go_wp2_with (go_at_call 17; refine HW.out.mono ?_; rintro e w1 ⟨A1, c1, rfl, own1⟩)
  go_ret2
  exact ⟨rfl, own1.ext⟩

theorem uAt_out {A : Option Addr} {m c : Nat} {bs : List UInt8} {k i : Int} {w : World} (hb : BytesAt w A m c bs) (hm : m ≤ 1000000000) (h0 : (wordsV k bs).2 = 0) (hi : i < 0 ∨ ((wordsV k bs).1.length : Int) ≤ i) :
    Calls Tryd.prog 19 #[.int .i64 k, .slice A m c, .int .i64 i] w fun e w' => e = .returned (.tuple #[.int .u64 0, .int .u8 11]) ∧ Ext w w' := by
  have hW := uWords (k := k) hb hm
  rw [h0] at hW
  generalize (wordsV k bs).1 = Ws at *
  have HW := Lib.hid hW
  clear hW h0
  by_cases hn : i < 0
  · clear hi
    go_enter Tryd.func19, Tryd.ntmps19
    go_wp2_with (go_at_call 17; refine HW.out.mono ?_; rintro e w1 ⟨A1, c1, rfl, own1⟩)
    go_ret2
    exact ⟨rfl, own1.ext⟩
  · have hl : (Ws.length : Int) ≤ i := by omega
    clear hi
    go_enter Tryd.func19, Tryd.ntmps19
    go_wp2_with (go_at_call 17; refine HW.out.mono ?_; rintro e w1 ⟨A1, c1, rfl, own1⟩)
    go_ret2
    exact ⟨rfl, own1.ext⟩

theorem uAt_in {A : Option Addr} {m c : Nat} {bs : List UInt8} {k : Int} {p : Nat} {w : World} (hb : BytesAt w A m c bs) (hm : m ≤ 1000000000) (h0 : (wordsV k bs).2 = 0) {x : Nat} (hx : (wordsV k bs).1[p]? = some x) :
    Calls Tryd.prog 19 #[.int .i64 k, .slice A m c, .int .i64 (p : Int)] w fun e w' => e = .returned (.tuple #[.int .u64 (x : Int), .int .u8 0]) ∧ Ext w w' := by
  have hW := uWords (k := k) hb hm
  rw [h0] at hW
  generalize (wordsV k bs).1 = Ws at *
  have HW := Lib.hid hW
  have hp : p < Ws.length := (List.getElem?_eq_some_iff.1 hx).1
  have hp0 : ¬ (p : Int) < 0 := by omega
  have hp1 : ¬ (Ws.length : Int) ≤ p := by omega
  have Hx := Lib.hid hx
  clear hW h0 hx
  go_enter Tryd.func19, Tryd.ntmps19
  go_wp2_with (go_at_call 17; refine HW.out.mono ?_; rintro e w1 ⟨A1, c1, rfl, own1⟩; obtain ⟨b, off, y, rfl, hy, hcell⟩ := WordsAt.word own1.reads hp; have hyx : y = x := Option.some.inj (hy.symm.trans Hx.out); subst hyx; clear hy)
  go_ret2
  exact ⟨rfl, own1.ext⟩

end Go.Proofs.YtlhbllaojjelcaaDoor
