/- Contracts of layer 14: the place of a number, and copies of rows. -/
import Derived.Test.YtgjhglehghjoeaaGreatQbW14o
import Derived.Test.YtgjhglehghjoeaaGreatQbW7h

/- Contracts of layer 14: the place of a value, as the reference has it. -/
namespace Go.Proofs.YtgjhglehghjoeaaGreat
open Go.RowKit
set_option linter.unusedVariables false

set_option maxRecDepth 100000 in
theorem rGet {x : MsgR} {w : World} {N : Int} (hx : TreeAt w x) : Calls Tryz.prog 22 #[treeV x, .int .i64 N] w fun e w' => e = .returned (.int .i64 (idxB (fun v => v.number == N) x.vals)) ∧ Ext w w' := by
  have hmax := hx.vals.max
  have hcap := hx.vals.cap
  unfold maxLen at hmax
  unfold treeV
  obtain ⟨D, hD⟩ : ∃ D, D = idxB (fun v => v.number == N) x.vals := ⟨_, rfl⟩
  rw [← hD]
  have HD := Lib.hid hD
  clear hD
  generalize hn : x.vals.length = n at *
  have Hn := Lib.hid hn
  clear hn
  go_enter Tryz.func22, Tryz.ntmps22
  go_wp2
  have B1 : BlkT (w.alloc (.cells #[.slice x.a.1 n x.a.2, .slice x.b.1 x.unk.length x.b.2] 47)) w.heap.size 47 #[.slice x.a.1 n x.a.2, .slice x.b.1 x.unk.length x.b.2] := BlkT.new w _ _ rfl
  have X0 : Ext w (w.alloc (.cells #[.slice x.a.1 n x.a.2, .slice x.b.1 x.unk.length x.b.2] 47)) := (by repeat with_reducible (first | exact Ext.refl _ | refine Ext.alloc ?_ _ | refine Ext.drew ?_ | refine Ext.drewN ?_ _ | refine Ext.setCell ?_ (by first | exact Nat.le_refl _ | omega | (simp; done) | (simp; omega)) _))
  generalize w.alloc (.cells #[.slice x.a.1 n x.a.2, .slice x.b.1 x.unk.length x.b.2] 47) = w2 at *
  have a1 : w2.cell? ⟨w.heap.size, 0, none⟩ = some (.slice x.a.1 n x.a.2) := B1.cell 0
  have hxr := hx.up X0
  go_loopw [4, 5] (fun _ i wr => ∃ k : Nat, k ≤ n ∧ i = .int .i64 (k : Int) ∧ Ext w2 wr ∧ Hid (∀ j y, j < k → x.vals[j]? = some y → (y.number == N) = false)) (fun _ i _ => n - (intOf i).toNat)
  case atStart => exact ⟨0, Nat.zero_le _, rfl, Ext.refl _, fun j y h => absurd h (Nat.not_lt_zero _)⟩
  case round =>
    obtain ⟨k, hk, rfl, hE, hB⟩ := hrel
    have ar := hE.of_cell a1
    by_cases hlt : k < n
    · have hltI : (k : Int) < (n : Int) := by omega
      have hvr := (hxr.up hE).vals
      rw [Hn.out] at hvr
      obtain ⟨c1, off1, v, hA, hv, hb1, d0, d1, d2, d3⟩ := valCells hvr hlt
      rw [hA] at ar
      have Hv := Lib.hid hv
      by_cases hf : v.number = N
      · have q : (v.number == N) = true := by simp [hf]
        have Hf := Lib.hid q
        have hf' : (v.number : Int) = N := hf
        clear hv hf hA hf'
        go_wp2
        go_ret
        have h := idxB_found (p := fun v : ValR => v.number == N) Hv.out Hf.out (fun j y hj hy => hB.out j y hj hy)
        refine ⟨?_, X0.trans hE⟩
        show Ending.returned (.int .i64 (k : Int)) = _
        rw [HD.out, h]
      · have q : (v.number == N) = false := by simp [hf]
        have Hf := Lib.hid q
        clear hv hf hA
        go_wp2
        go_roundw
        case rel =>
          refine ⟨k + 1, by omega, by go_num, hE, fun j y hj hy => ?_⟩
          rcases Nat.lt_or_ge j k with h | h
          · exact hB.out j y h hy
          · have hjk : j = k := by omega
            subst hjk
            rw [Hv.out] at hy
            cases hy
            exact Hf.out
        case measure => simp [intOf]; omega
    · have hge : ¬ ((k : Int) < (n : Int)) := by omega
      go_wp2
      go_ret
      refine ⟨?_, X0.trans hE⟩
      have h := idxB_none (p := fun v : ValR => v.number == N) (l := x.vals) (fun j y hy => hB.out j y (by
        have := (List.getElem?_eq_some_iff.1 hy).1
        have := Hn.out
        omega) hy)
      show Ending.returned (.int .i64 (-1)) = _
      rw [HD.out, h]

end Go.Proofs.YtgjhglehghjoeaaGreat

/- Contracts of layer 14: texts and words in new memory. -/
namespace Go.Proofs.YtgjhglehghjoeaaGreat
open Go.RowKit
set_option linter.unusedVariables false

set_option maxRecDepth 100000 in
theorem clTexts {A : Sl} {l : List ByteArray} {w : World} (h : TextsAt w A l) (hn : l.length ≤ 1000000000000) :
    Calls Tryz.prog 80 #[.slice A.1 l.length A.2] w fun e w' => ∃ A' c', e = .returned (.slice A' l.length c') ∧ Own w w' 9 1 A' l.length c' (l.map strV) := by
  have hr := h.at_
  have hnil := eqlNil Tryz.underlying27
  obtain ⟨a, c⟩ := A
  simp only at hr ⊢
  have hm := hr.max
  have hcap := hr.cap
  unfold maxLen at hm
  clear h
  generalize hl : l.length = n at *
  have Hl := Lib.hid hl
  clear hl
  rcases a with _ | a
  · have h0 : n = 0 := by
      rcases Nat.eq_zero_or_pos n with h | h
      · exact h
      · obtain ⟨b, off, e, _⟩ := hr.at_ h
        cases e
    subst h0
    have hl0 : l = [] := List.eq_nil_of_length_eq_zero Hl.out
    subst hl0
    go_enter Tryz.func80, Tryz.ntmps80
    go_wp2
    go_ret
    exact ⟨none, 0, rfl, Own.nil (Ext.refl _) _ _⟩
  · go_enter Tryz.func80, Tryz.ntmps80
    go_wp2_with (at_builtin; refine wpList_more elemStr rfl (.tmp 5) (.tmp 6) rfl rfl (Own.empty (Ext.refl w) 9 1) rfl (hr.ext (Ext.alloc (Ext.refl _) _)) (strV_one _) (by omega) (by unfold maxLen; omega) ?_; intro A4 c4 w4 own4 g4; simp only [Nat.zero_add, List.nil_append] at own4)
    go_ret
    exact ⟨A4, c4, rfl, own4⟩

set_option maxRecDepth 100000 in
theorem clWords {A : Sl} {l : List Nat} {w : World} (h : Reads w A.1 l.length A.2 1 (l.map uv)) (hn : l.length ≤ 1000000000000) :
    Calls Tryz.prog 81 #[.slice A.1 l.length A.2] w fun e w' => ∃ A' c', e = .returned (.slice A' l.length c') ∧ Own w w' 102 1 A' l.length c' (l.map uv) := by
  have hr := h
  have hnil := eqlNil Tryz.underlying26
  obtain ⟨a, c⟩ := A
  simp only at hr ⊢
  have hm := hr.max
  have hcap := hr.cap
  unfold maxLen at hm
  clear h
  generalize hl : l.length = n at *
  have Hl := Lib.hid hl
  clear hl
  rcases a with _ | a
  · have h0 : n = 0 := by
      rcases Nat.eq_zero_or_pos n with h | h
      · exact h
      · obtain ⟨b, off, e, _⟩ := hr.at_ h
        cases e
    subst h0
    have hl0 : l = [] := List.eq_nil_of_length_eq_zero Hl.out
    subst hl0
    go_enter Tryz.func81, Tryz.ntmps81
    go_wp2
    go_ret
    exact ⟨none, 0, rfl, Own.nil (Ext.refl _) _ _⟩
  · go_enter Tryz.func81, Tryz.ntmps81
    go_wp2_with (at_builtin; refine wpList_more elemU rfl (.tmp 5) (.tmp 6) rfl rfl (Own.empty (Ext.refl w) 102 1) rfl (hr.ext (Ext.alloc (Ext.refl _) _)) (uv_one _) (by omega) (by unfold maxLen; omega) ?_; intro A4 c4 w4 own4 g4; simp only [Nat.zero_add, List.nil_append] at own4)
    go_ret
    exact ⟨A4, c4, rfl, own4⟩

end Go.Proofs.YtgjhglehghjoeaaGreat
