/- Contracts of layer 7: the fields' order, as the reference has it; the same schemas; a copy. -/
import Derived.Test.YtnnphodgegcddaaGreatQcWSort

namespace Go.Proofs.YtnnphodgegcddaaGreat
open Go.RowKit
set_option linter.unusedVariables false

set_option maxRecDepth 100000 in
set_option maxHeartbeats 2000000 in
theorem sSortedR {A : Option Addr} {n c : Nat} {s : ByteArray} {fs : List FieldD} {w : World} (hf : FieldsAt w A n c fs) (hn : n ≤ 1000000000000) :
  Calls Tryz.prog 53 #[.agg #[.string s, .slice A n c]] w fun e w' => ∃ A' c', e = .returned (.slice A' n c') ∧ Own w w' 3 1 A' n c' ((sortK (keyF fs) n).map iv) := by
 have hfl := hf.length
 go_enter Tryz.func53, Tryz.ntmps53
 go_wp2
 have B := Ext.new_blk (Ext.refl (w.alloc (.cells #[.string s, .slice A n c] 82)))
 have X1 : Ext w (w.alloc (.cells #[.string s, .slice A n c] 82)) := (by repeat with_reducible (first | exact Ext.refl _ | refine Ext.alloc ?_ _ | refine Ext.drew ?_ | refine Ext.drewN ?_ _ | refine Ext.setCell ?_ (by first | omega | (simp <;> omega)) _))
 generalize w.alloc (.cells #[.string s, .slice A n c] 82) = w1 at *
 generalize w.heap.size = b at *
 have hb1 := B.lt
 go_loopw [3, 4, 5, 6] (fun u i _ _ wr => ∃ (k : Nat) (A2 : Option Addr) (c2 : Nat), k ≤ n ∧ i = .int .i64 (k : Int) ∧ u = .slice A2 k c2 ∧ Own w1 wr 3 1 A2 k c2 ((sortK (keyF fs) k).map iv)) (fun _ i _ _ _ => n - (intOf i).toNat)
 case atStart => exact ⟨0, none, 0, by omega, rfl, rfl, Own.nil (Ext.refl _) _ _⟩
 case round =>
  obtain ⟨k, A2, c2, hk, rfl, rfl, own⟩ := hrel
  have m1 := own.ext.of_cell (B.cell 1)
  have m0 := own.ext.of_cell (B.cell 0)
  have hbr : b < wr.heap.size := Nat.lt_of_lt_of_le hb1 own.ext.size
  by_cases hlt : k < n
  · have hltI : (k : Int) < n := by omega
    have hft := hf.up (X1.trans own.ext)
    obtain ⟨b2, off2, fk, hA, hfk, _, hb2, _, e1, _, _, _, _⟩ := hft.field hlt
    have hkk : keyF fs k = fk.number := keyF_at hfk
    have hsl := sortK_length (keyF fs) k
    go_wp2
    go_loopw [5] (fun u wq => ∃ j : Nat, j ≤ k ∧ u = .int .i64 (j : Int) ∧ Hid (∀ (i : Nat) y, i < j → (sortK (keyF fs) k)[i]? = some y → keyF fs y ≤ keyF fs k) ∧ Ext wr wq) (fun u _ => k - (intOf u).toNat)
    case atStart => exact ⟨0, by omega, rfl, fun i y h => by omega, Ext.refl _⟩
    case round =>
     obtain ⟨j, hj, rfl, hL, hE⟩ := hrel
     rename World => wq
     have z0 := hE.of_cell m0
     have z1 := hE.of_cell m1
     have ownq := own.up hE
     have hfin : ∀ (hx : ∀ y, (sortK (keyF fs) k)[j]? = some y → ¬ keyF fs y ≤ keyF fs k), sortK (keyF fs) (k + 1) = (sortK (keyF fs) k).take j ++ k :: (sortK (keyF fs) k).drop j := fun hx => insK_at (fun i y hi hy => hL.out i y hi hy) hx (by omega)
     by_cases hjk : j < k
     · have hjI : (j : Int) < k := by omega
       obtain ⟨y, hy⟩ : ∃ y, (sortK (keyF fs) k)[j]? = some y := ⟨_, List.getElem?_eq_getElem (by omega)⟩
       have hyk : y < k := sortK_mem.1 (List.mem_of_getElem? hy)
       obtain ⟨b3, off3, hA3, _, hc3⟩ := ownq.reads.at_ (by omega)
       have cj := hc3 j (iv y) (by rw [List.getElem?_map, hy]; rfl)
       unfold iv at cj
       have hft2 := hf.up (X1.trans (own.ext.trans hE))
       obtain ⟨b4, off4, fy, hA4, hfy, _, hb4, _, d1, _, _, _, _⟩ := hft2.field (k := y) (by omega)
       rw [hA] at hA4
       cases hA4
       have hky : keyF fs y = fy.number := keyF_at hfy
       have e1' := hE.of_cell e1
       subst hA hA3
       have hyI : (y : Int) < n := by omega
       have Hfin := Lib.hid hfin
       have Hy := Lib.hid hy
       have Hky := Lib.hid hky
       have Hkk := Lib.hid hkk
       have Hsl := Lib.hid hsl
       by_cases hle : fy.number ≤ fk.number
       · have hlb : decide (fy.number ≤ fk.number) = true := decide_eq_true hle
         clear hfin hy hky hkk hfk hfy hft hft2 hf hc3 hsl
         go_wp2
         go_quiet (fail)
         go_wp2
         go_roundw
         case rel =>
          refine ⟨j + 1, by omega, by go_num, fun i y hi hy => ?_, hE.trans (by repeat with_reducible (first | exact Ext.refl _ | refine Ext.alloc ?_ _ | refine Ext.drew ?_ | refine Ext.drewN ?_ _ | refine Ext.setCell ?_ (by first | omega | (simp <;> omega)) _))⟩
          by_cases e : i = j
          · subst e
            have := Hy.out.symm.trans hy
            cases this
            rw [Hky.out, Hkk.out]
            exact hle
          · exact hL.out i y (by omega) hy
         case measure => simp [intOf]; omega
       · have hlb : decide (fy.number ≤ fk.number) = false := decide_eq_false hle
         have hS := hfin (fun y' hy' => by rw [hy] at hy'; cases hy'; rw [hky, hkk]; exact hle)
         have HS := Lib.hid hS
         clear hfin Hfin hy hky hkk hfk hfy hft hft2 hf hc3 hsl hS
         go_wp2
         go_quiet (fail)
         have EQ : Ext wq (wq.drewN nq) := (by repeat with_reducible (first | exact Ext.refl _ | refine Ext.alloc ?_ _ | refine Ext.drew ?_ | refine Ext.drewN ?_ _ | refine Ext.setCell ?_ (by first | omega | (simp <;> omega)) _))
         generalize wq.drewN nq = W0 at *
         obtain ⟨A5, hrun1, hr1⟩ := cut_to elemI (ownq.up EQ).reads .i64 hj
         obtain ⟨A6, hrun2, hr2⟩ := cut_from elemI (ownq.up EQ).reads .i64 hj
         rw [Nat.mul_one, ← List.map_take] at hr1
         rw [Nat.mul_one, ← List.map_drop] at hr2
         go_wp2_with (first
          | (at_builtin; refine wpList_more elemI rfl (.tmp 38) (.tmp 41) rfl rfl (Own.empty (Ext.refl W0) 3 1) rfl (hr1.ext (Ext.alloc (Ext.refl _) _)) (iv_one _) (by omega) (by unfold maxLen; omega) ?_; intro A4 c4 w4 own4 g4; simp only [Nat.zero_add, List.nil_append] at own4; clear hr1)
          | (at_builtin; refine wpList_one elemI rfl (.tmp 43) (.tmp 45) rfl rfl own4 rfl (by simp) rfl (by omega) (by unfold maxLen; omega) ?_; intro A7 c7 w7 own7 g7; clear own4)
          | (at_builtin; refine wpList_more elemI rfl (.tmp 47) (.tmp 50) rfl rfl own7 rfl (hr2.ext own7.ext) (iv_one _) (by omega) (by unfold maxLen; omega) ?_; intro A8 c8 w8 own8 g8; clear own7))
         go_roundw
         case rel =>
          refine ⟨k + 1, A8, c8, by omega, by go_num, ?_, ?_⟩
          · refine congrArg (fun q => Value.slice A8 q c8) ?_
            omega
          · have h9 := own8.since ((own.ext.trans hE).trans EQ)
            rw [HS.out]
            have e9 : (List.map iv (List.take j (sortK (keyF fs) k) ++ k :: List.drop j (sortK (keyF fs) k))) = (List.map iv (List.take j (sortK (keyF fs) k)) ++ [Value.int .i64 (k : Int)]) ++ List.map iv (List.drop j (sortK (keyF fs) k)) := by simp [iv]
            rw [e9]
            have e8 : j + 1 + (k - j) = k + 1 := by omega
            rw [e8] at h9
            exact h9
         case measure => simp [intOf]; omega
     · obtain rfl : j = k := by omega
       have hS := hfin (fun y' hy' => by rw [List.getElem?_eq_none (by omega)] at hy'; cases hy')
       have HS := Lib.hid hS
       subst hA
       clear hfin hkk hfk hft hf hsl hS
       go_wp2
       go_quiet (fail)
       have EQ : Ext wq (wq.drewN nq) := (by repeat with_reducible (first | exact Ext.refl _ | refine Ext.alloc ?_ _ | refine Ext.drew ?_ | refine Ext.drewN ?_ _ | refine Ext.setCell ?_ (by first | omega | (simp <;> omega)) _))
       generalize wq.drewN nq = W0 at *
       obtain ⟨A5, hrun1, hr1⟩ := cut_to elemI (ownq.up EQ).reads .i64 hj
       obtain ⟨A6, hrun2, hr2⟩ := cut_from elemI (ownq.up EQ).reads .i64 hj
       rw [Nat.mul_one, ← List.map_take] at hr1
       rw [Nat.mul_one, ← List.map_drop] at hr2
       simp only [Nat.sub_self] at hrun2 hr2
       go_wp2_with (first
        | (at_builtin; refine wpList_more elemI rfl (.tmp 38) (.tmp 41) rfl rfl (Own.empty (Ext.refl W0) 3 1) rfl (hr1.ext (Ext.alloc (Ext.refl _) _)) (iv_one _) (by omega) (by unfold maxLen; omega) ?_; intro A4 c4 w4 own4 g4; simp only [Nat.zero_add, List.nil_append] at own4; clear hr1)
        | (at_builtin; refine wpList_one elemI rfl (.tmp 43) (.tmp 45) rfl rfl own4 rfl (by simp) rfl (by omega) (by unfold maxLen; omega) ?_; intro A7 c7 w7 own7 g7; clear own4)
        | (at_builtin; refine wpList_more elemI rfl (.tmp 47) (.tmp 50) rfl rfl own7 rfl (hr2.ext own7.ext) (iv_one _) (by omega) (by unfold maxLen; omega) ?_; intro A8 c8 w8 own8 g8; clear own7))
       go_roundw
       case rel =>
        refine ⟨j + 1, A8, c8, by omega, by go_num, ?_, ?_⟩
        · refine congrArg (fun q => Value.slice A8 q c8) ?_
          omega
        · have h9 := own8.since ((own.ext.trans hE).trans EQ)
          rw [HS.out]
          have e9 : (List.map iv (List.take j (sortK (keyF fs) j) ++ j :: List.drop j (sortK (keyF fs) j))) = (List.map iv (List.take j (sortK (keyF fs) j)) ++ [Value.int .i64 (j : Int)]) ++ List.map iv (List.drop j (sortK (keyF fs) j)) := by simp [iv]
          rw [e9]
          have e8 : j + 1 + 0 = j + 1 := by omega
          rw [e8] at h9
          exact h9
       case measure => simp [intOf]; omega
  · obtain rfl : k = n := by omega
    go_wp2
    go_ret
    exact ⟨A2, c2, rfl, own.since X1⟩

end Go.Proofs.YtnnphodgegcddaaGreat
