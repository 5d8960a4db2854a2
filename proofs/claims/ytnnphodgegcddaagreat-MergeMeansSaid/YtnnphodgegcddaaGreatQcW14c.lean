/- Contracts of layer 14: the place of a number, and copies of rows. -/
import Derived.Test.YtnnphodgegcddaaGreatQcW14o
import Derived.Test.YtnnphodgegcddaaGreatQcW7h

/- Contracts of layer 14: the place of a value, as the reference has it. -/
namespace Go.Proofs.YtnnphodgegcddaaGreat
open Go.RowKit
set_option linter.unusedVariables false

set_option maxRecDepth 100000 in
theorem rGet {x : MsgR} {w : World} {N : Int} (hx : TreeAt w x) : Calls Tryz.prog 50 #[treeV x, .int .i64 N] w fun e w' => e = .returned (.int .i64 (idxB (fun v => v.number == N) x.vals)) ∧ Ext w w' := by
 have hmax := hx.vals.max
 have hcap := hx.vals.cap
 unfold maxLen at hmax
 unfold treeV
 obtain ⟨D, hD⟩ : ∃ D, D = idxB (fun v => v.number == N) x.vals := ⟨_, rfl⟩
 rw [← hD]
 have HD := Lib.hid hD
 clear hD
 generalize hn : x.vals.length = n at *
 have Hn := Lib.hid hn
 clear hn
 go_enter Tryz.func50, Tryz.ntmps50
 go_wp2
 have B1 : BlkT (w.alloc (.cells #[.slice x.a.1 n x.a.2, .slice x.b.1 x.unk.length x.b.2] 40)) w.heap.size 40 #[.slice x.a.1 n x.a.2, .slice x.b.1 x.unk.length x.b.2] := BlkT.new w _ _ rfl
 have X0 : Ext w (w.alloc (.cells #[.slice x.a.1 n x.a.2, .slice x.b.1 x.unk.length x.b.2] 40)) := (by repeat with_reducible (first | exact Ext.refl _ | refine Ext.alloc ?_ _ | refine Ext.drew ?_ | refine Ext.drewN ?_ _ | refine Ext.setCell ?_ (by first | omega | (simp <;> omega)) _))
 generalize w.alloc (.cells #[.slice x.a.1 n x.a.2, .slice x.b.1 x.unk.length x.b.2] 40) = w2 at *
 have a1 : w2.cell? ⟨w.heap.size, 0, none⟩ = some (.slice x.a.1 n x.a.2) := B1.cell 0
 have hxr := hx.up X0
 go_loopw [4, 5] (fun _ i wr => ∃ k : Nat, k ≤ n ∧ i = .int .i64 (k : Int) ∧ Ext w2 wr ∧ Hid (∀ j y, j < k → x.vals[j]? = some y → (y.number == N) = false)) (fun _ i _ => n - (intOf i).toNat)
 case atStart => exact ⟨0, Nat.zero_le _, rfl, Ext.refl _, fun j y h => absurd h (Nat.not_lt_zero _)⟩
 case round =>
  obtain ⟨k, hk, rfl, hE, hB⟩ := hrel
  have ar := hE.of_cell a1
  by_cases hlt : k < n
  · have hltI : (k : Int) < (n : Int) := by omega
    have hvr := (hxr.up hE).vals
    rw [Hn.out] at hvr
    obtain ⟨c1, off1, v, hA, hv, hb1, d0, d1, d2, d3⟩ := valCells hvr hlt
    rw [hA] at ar
    have Hv := Lib.hid hv
    by_cases hf : v.number = N
    · have q : (v.number == N) = true := by simp [hf]
      have Hf := Lib.hid q
      have hf' : (v.number : Int) = N := hf
      clear hv hf hA hf'
      go_wp2
      go_ret
      have h := idxB_found (p := fun v : ValR => v.number == N) Hv.out Hf.out (fun j y hj hy => hB.out j y hj hy)
      refine ⟨?_, X0.trans hE⟩
      show Ending.returned (.int .i64 (k : Int)) = _
      rw [HD.out, h]
    · have q : (v.number == N) = false := by simp [hf]
      have Hf := Lib.hid q
      clear hv hf hA
      go_wp2
      go_roundw
      case rel =>
       refine ⟨k + 1, by omega, by go_num, hE, fun j y hj hy => ?_⟩
       rcases Nat.lt_or_ge j k with h | h
       · exact hB.out j y h hy
       · have hjk : j = k := by omega
         subst hjk
         rw [Hv.out] at hy
         cases hy
         exact Hf.out
      case measure => simp [intOf]; omega
  · have hge : ¬ ((k : Int) < (n : Int)) := by omega
    go_wp2
    go_ret
    refine ⟨?_, X0.trans hE⟩
    have h := idxB_none (p := fun v : ValR => v.number == N) (l := x.vals) (fun j y hy => hB.out j y (by
     have := (List.getElem?_eq_some_iff.1 hy).1
     have := Hn.out
     omega) hy)
    show Ending.returned (.int .i64 (-1)) = _
    rw [HD.out, h]

end Go.Proofs.YtnnphodgegcddaaGreat

/- Contracts of layer 14: texts and words in new memory. -/
namespace Go.Proofs.YtnnphodgegcddaaGreat
open Go.RowKit
set_option linter.unusedVariables false

end Go.Proofs.YtnnphodgegcddaaGreat
