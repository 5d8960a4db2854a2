/- The walk of the law TagPuts, out of its callees' contracts. -/
import Derived.Test.YtcipokmklkognaaW3c
import Derived.Test.YtcipokmklkognaaKTagReads
namespace Go.Proofs.Ytcipokmklkognaa
open Go.RowKit
set_option linter.unusedVariables false

set_option maxHeartbeats 2000000 in
theorem tagPuts_walk {A : Option Addr} {n c : Nat} {bs : List UInt8} {a b d e : Int} {w : World} (hb : BytesAt w A n c bs)
    (h1 : (-9223372036854775808 ≤ a ∧ a < 9223372036854775808) ∧ (-9223372036854775808 ≤ b ∧ b < 9223372036854775808)) (h2 : (-9223372036854775808 ≤ d ∧ d < 9223372036854775808) ∧ (-9223372036854775808 ≤ e ∧ e < 9223372036854775808)) :
    Calls Try.prog 7 #[.slice A n c, .agg #[.int .i64 a, .int .i64 b], .agg #[.int .i64 d, .int .i64 e]] w fun e w' => e = .returned (.bool true) ∧ Ext w w' := by
  have hmax := Reads.max hb
  have hcap := Reads.cap hb
  unfold maxLen at hmax
  by_cases hn : (2000 : Int) < n
  · go_enter Try.func7, Try.ntmps7
    go_wp2_with (go_at_call 20; refine (alive03 _).mono ?_; rintro e w1 ⟨rfl, E1⟩)
    go_ret
    exact ⟨rfl, (((Ext.refl w).alloc _).alloc _).trans E1⟩
  · have hless : (a < d) ∨ (¬ a < d ∧ (a == d) = true) ∨ (¬ a < d ∧ (a == d) = false) := by
      simp only [beq_iff_eq, beq_eq_false_iff_ne]; omega
    have hL1 : a < d → tagLessB a b d e = true := fun h => by unfold tagLessB; exact decide_eq_true (by omega)
    have hL2 : ¬ a < d → (a == d) = true → tagLessB a b d e = decide (b < e) := fun h h' => by
      unfold tagLessB
      have : a = d := by simpa using h'
      rw [Bool.eq_iff_iff]; simp only [decide_eq_true_eq]; omega
    have hL3 : ¬ a < d → (a == d) = false → tagLessB a b d e = false := fun h h' => by
      unfold tagLessB
      have : a ≠ d := by simpa using h'
      exact decide_eq_false (by omega)
    by_cases hr : rightB a b = true
    · have htl := tagB_length hr
      have hsz : tagSizeN a b = (tagB a b).length := if_pos hr
      rcases hless with h | ⟨h, h'⟩ | ⟨h, h'⟩
      · have hl := hL1 h
        have hd : decide (a < d) = true := decide_eq_true h
        clear hL1 hL2 hL3
        go_enter Try.func7, Try.ntmps7
        go_wp2_with (first | (go_at_call 20; refine (alive03 _).mono ?_; rintro e w1 ⟨rfl, E1⟩; have k := two_blocks E1; have c0 : w1.cell? ⟨w.heap.size, 0, none⟩ = some (.int .i64 a) := k.1 0; have c1 : w1.cell? ⟨w.heap.size, 1, none⟩ = some (.int .i64 b) := k.1 1; have c2 : w1.cell? ⟨w.heap.size + 1, 0, none⟩ = some (.int .i64 d) := k.2.1 0; have c3 : w1.cell? ⟨w.heap.size + 1, 1, none⟩ = some (.int .i64 e) := k.2.1 1; have hE := (((Ext.refl w).alloc _).alloc _).trans E1; clear k E1) | (go_at_call 40; refine (tRightR _ _ _).mono ?_; rintro e w' ⟨rfl, rfl⟩) | (go_at_call 22; refine (tRight _ _ _).mono ?_; rintro e w3 ⟨rfl, E3⟩; replace c0 := E3.of_cell c0; replace c1 := E3.of_cell c1; replace c2 := E3.of_cell c2; replace c3 := E3.of_cell c3; replace hE := hE.trans E3; replace own2 := own2.later E3; clear E3) | (go_at_call 41; refine tLess.mono ?_; rintro e w4 ⟨rfl, E4⟩; replace c0 := E4.of_cell c0; replace c1 := E4.of_cell c1; replace c2 := E4.of_cell c2; replace c3 := E4.of_cell c3; replace hE := hE.trans E4; replace own2 := own2.later E4; clear E4) | (go_at_call 23; refine (tPut (hb.ext hE) (by omega) hr).mono ?_; rintro e w2 ⟨A2, c2', rfl, own2⟩; replace c0 := own2.ext.of_cell c0; replace c1 := own2.ext.of_cell c1; replace c2 := own2.ext.of_cell c2; replace c3 := own2.ext.of_cell c3; replace hE := hE.trans own2.ext) | (go_at_call 42; refine (tPutR hr).mono ?_; rintro e w5 ⟨A5, c5, rfl, own5⟩; replace c0 := own5.ext.of_cell c0; replace c1 := own5.ext.of_cell c1; replace c2 := own5.ext.of_cell c2; replace c3 := own5.ext.of_cell c3; replace hE := hE.trans own5.ext; replace own2 := own2.later own5.ext) | (at_builtin; refine wpList_more elemB rfl (.tmp 83) (.tmp 84) rfl rfl (Own.empty (Ext.refl _) 5 1) rfl (hb.ext (hE.alloc _)) (bv_one _) (by omega) (by unfold maxLen; omega) ?_; intro A6 c6 w6 own6 _; simp only [Nat.zero_add, List.nil_append] at own6; replace own5 := own5.later own6.ext) | (at_builtin; refine wpList_more elemB rfl (.tmp 85) (.tmp 86) rfl rfl own6 rfl own5.reads (bv_one _) (by omega) (by unfold maxLen; omega) ?_; intro A7 c7 w7 own7 _; rw [← List.map_append] at own7; replace c0 := own7.ext.of_cell c0; replace c1 := own7.ext.of_cell c1; replace c2 := own7.ext.of_cell c2; replace c3 := own7.ext.of_cell c3; replace hE := hE.trans own7.ext; replace own2 := own2.later own7.ext) | (go_at_call 43; refine (same own2.reads own7.reads).mono ?_; rintro e w' ⟨rfl, rfl⟩) | (go_at_call 24; refine tSize.mono ?_; rintro e w9 ⟨rfl, E9⟩; replace hE := hE.trans E9))
        go_ret
        exact ⟨rfl, hE⟩
      · have hl := hL2 h h'
        have hd : decide (a < d) = false := decide_eq_false h
        clear hL1 hL2 hL3
        go_enter Try.func7, Try.ntmps7
        go_wp2_with (first | (go_at_call 20; refine (alive03 _).mono ?_; rintro e w1 ⟨rfl, E1⟩; have k := two_blocks E1; have c0 : w1.cell? ⟨w.heap.size, 0, none⟩ = some (.int .i64 a) := k.1 0; have c1 : w1.cell? ⟨w.heap.size, 1, none⟩ = some (.int .i64 b) := k.1 1; have c2 : w1.cell? ⟨w.heap.size + 1, 0, none⟩ = some (.int .i64 d) := k.2.1 0; have c3 : w1.cell? ⟨w.heap.size + 1, 1, none⟩ = some (.int .i64 e) := k.2.1 1; have hE := (((Ext.refl w).alloc _).alloc _).trans E1; clear k E1) | (go_at_call 40; refine (tRightR _ _ _).mono ?_; rintro e w' ⟨rfl, rfl⟩) | (go_at_call 22; refine (tRight _ _ _).mono ?_; rintro e w3 ⟨rfl, E3⟩; replace c0 := E3.of_cell c0; replace c1 := E3.of_cell c1; replace c2 := E3.of_cell c2; replace c3 := E3.of_cell c3; replace hE := hE.trans E3; replace own2 := own2.later E3; clear E3) | (go_at_call 41; refine tLess.mono ?_; rintro e w4 ⟨rfl, E4⟩; replace c0 := E4.of_cell c0; replace c1 := E4.of_cell c1; replace c2 := E4.of_cell c2; replace c3 := E4.of_cell c3; replace hE := hE.trans E4; replace own2 := own2.later E4; clear E4) | (go_at_call 23; refine (tPut (hb.ext hE) (by omega) hr).mono ?_; rintro e w2 ⟨A2, c2', rfl, own2⟩; replace c0 := own2.ext.of_cell c0; replace c1 := own2.ext.of_cell c1; replace c2 := own2.ext.of_cell c2; replace c3 := own2.ext.of_cell c3; replace hE := hE.trans own2.ext) | (go_at_call 42; refine (tPutR hr).mono ?_; rintro e w5 ⟨A5, c5, rfl, own5⟩; replace c0 := own5.ext.of_cell c0; replace c1 := own5.ext.of_cell c1; replace c2 := own5.ext.of_cell c2; replace c3 := own5.ext.of_cell c3; replace hE := hE.trans own5.ext; replace own2 := own2.later own5.ext) | (at_builtin; refine wpList_more elemB rfl (.tmp 83) (.tmp 84) rfl rfl (Own.empty (Ext.refl _) 5 1) rfl (hb.ext (hE.alloc _)) (bv_one _) (by omega) (by unfold maxLen; omega) ?_; intro A6 c6 w6 own6 _; simp only [Nat.zero_add, List.nil_append] at own6; replace own5 := own5.later own6.ext) | (at_builtin; refine wpList_more elemB rfl (.tmp 85) (.tmp 86) rfl rfl own6 rfl own5.reads (bv_one _) (by omega) (by unfold maxLen; omega) ?_; intro A7 c7 w7 own7 _; rw [← List.map_append] at own7; replace c0 := own7.ext.of_cell c0; replace c1 := own7.ext.of_cell c1; replace c2 := own7.ext.of_cell c2; replace c3 := own7.ext.of_cell c3; replace hE := hE.trans own7.ext; replace own2 := own2.later own7.ext) | (go_at_call 43; refine (same own2.reads own7.reads).mono ?_; rintro e w' ⟨rfl, rfl⟩) | (go_at_call 24; refine tSize.mono ?_; rintro e w9 ⟨rfl, E9⟩; replace hE := hE.trans E9))
        go_ret
        exact ⟨rfl, hE⟩
      · have hl := hL3 h h'
        have hd : decide (a < d) = false := decide_eq_false h
        clear hL1 hL2 hL3
        go_enter Try.func7, Try.ntmps7
        go_wp2_with (first | (go_at_call 20; refine (alive03 _).mono ?_; rintro e w1 ⟨rfl, E1⟩; have k := two_blocks E1; have c0 : w1.cell? ⟨w.heap.size, 0, none⟩ = some (.int .i64 a) := k.1 0; have c1 : w1.cell? ⟨w.heap.size, 1, none⟩ = some (.int .i64 b) := k.1 1; have c2 : w1.cell? ⟨w.heap.size + 1, 0, none⟩ = some (.int .i64 d) := k.2.1 0; have c3 : w1.cell? ⟨w.heap.size + 1, 1, none⟩ = some (.int .i64 e) := k.2.1 1; have hE := (((Ext.refl w).alloc _).alloc _).trans E1; clear k E1) | (go_at_call 40; refine (tRightR _ _ _).mono ?_; rintro e w' ⟨rfl, rfl⟩) | (go_at_call 22; refine (tRight _ _ _).mono ?_; rintro e w3 ⟨rfl, E3⟩; replace c0 := E3.of_cell c0; replace c1 := E3.of_cell c1; replace c2 := E3.of_cell c2; replace c3 := E3.of_cell c3; replace hE := hE.trans E3; replace own2 := own2.later E3; clear E3) | (go_at_call 41; refine tLess.mono ?_; rintro e w4 ⟨rfl, E4⟩; replace c0 := E4.of_cell c0; replace c1 := E4.of_cell c1; replace c2 := E4.of_cell c2; replace c3 := E4.of_cell c3; replace hE := hE.trans E4; replace own2 := own2.later E4; clear E4) | (go_at_call 23; refine (tPut (hb.ext hE) (by omega) hr).mono ?_; rintro e w2 ⟨A2, c2', rfl, own2⟩; replace c0 := own2.ext.of_cell c0; replace c1 := own2.ext.of_cell c1; replace c2 := own2.ext.of_cell c2; replace c3 := own2.ext.of_cell c3; replace hE := hE.trans own2.ext) | (go_at_call 42; refine (tPutR hr).mono ?_; rintro e w5 ⟨A5, c5, rfl, own5⟩; replace c0 := own5.ext.of_cell c0; replace c1 := own5.ext.of_cell c1; replace c2 := own5.ext.of_cell c2; replace c3 := own5.ext.of_cell c3; replace hE := hE.trans own5.ext; replace own2 := own2.later own5.ext) | (at_builtin; refine wpList_more elemB rfl (.tmp 83) (.tmp 84) rfl rfl (Own.empty (Ext.refl _) 5 1) rfl (hb.ext (hE.alloc _)) (bv_one _) (by omega) (by unfold maxLen; omega) ?_; intro A6 c6 w6 own6 _; simp only [Nat.zero_add, List.nil_append] at own6; replace own5 := own5.later own6.ext) | (at_builtin; refine wpList_more elemB rfl (.tmp 85) (.tmp 86) rfl rfl own6 rfl own5.reads (bv_one _) (by omega) (by unfold maxLen; omega) ?_; intro A7 c7 w7 own7 _; rw [← List.map_append] at own7; replace c0 := own7.ext.of_cell c0; replace c1 := own7.ext.of_cell c1; replace c2 := own7.ext.of_cell c2; replace c3 := own7.ext.of_cell c3; replace hE := hE.trans own7.ext; replace own2 := own2.later own7.ext) | (go_at_call 43; refine (same own2.reads own7.reads).mono ?_; rintro e w' ⟨rfl, rfl⟩) | (go_at_call 24; refine tSize.mono ?_; rintro e w9 ⟨rfl, E9⟩; replace hE := hE.trans E9))
        go_ret
        exact ⟨rfl, hE⟩
    · have hsz : tagSizeN a b = 0 := if_neg hr
      replace hr : rightB a b = false := by simpa using hr
      rcases hless with h | ⟨h, h'⟩ | ⟨h, h'⟩
      · have hl := hL1 h
        have hd : decide (a < d) = true := decide_eq_true h
        clear hL1 hL2 hL3
        go_enter Try.func7, Try.ntmps7
        go_wp2_with (first | (go_at_call 20; refine (alive03 _).mono ?_; rintro e w1 ⟨rfl, E1⟩; have k := two_blocks E1; have c0 : w1.cell? ⟨w.heap.size, 0, none⟩ = some (.int .i64 a) := k.1 0; have c1 : w1.cell? ⟨w.heap.size, 1, none⟩ = some (.int .i64 b) := k.1 1; have c2 : w1.cell? ⟨w.heap.size + 1, 0, none⟩ = some (.int .i64 d) := k.2.1 0; have c3 : w1.cell? ⟨w.heap.size + 1, 1, none⟩ = some (.int .i64 e) := k.2.1 1; have hE := (((Ext.refl w).alloc _).alloc _).trans E1; clear k E1) | (go_at_call 40; refine (tRightR _ _ _).mono ?_; rintro e w' ⟨rfl, rfl⟩) | (go_at_call 22; refine (tRight _ _ _).mono ?_; rintro e w3 ⟨rfl, E3⟩; replace c0 := E3.of_cell c0; replace c1 := E3.of_cell c1; replace c2 := E3.of_cell c2; replace c3 := E3.of_cell c3; replace hE := hE.trans E3; clear E3) | (go_at_call 41; refine tLess.mono ?_; rintro e w4 ⟨rfl, E4⟩; replace c0 := E4.of_cell c0; replace c1 := E4.of_cell c1; replace c2 := E4.of_cell c2; replace c3 := E4.of_cell c3; replace hE := hE.trans E4; clear E4) | (go_at_call 23; refine (tPut_no hr).mono ?_; rintro e w2 ⟨rfl, E2⟩; replace c0 := E2.of_cell c0; replace c1 := E2.of_cell c1; replace c2 := E2.of_cell c2; replace c3 := E2.of_cell c3; replace hE := hE.trans E2) | (go_at_call 24; refine tSize.mono ?_; rintro e w9 ⟨rfl, E9⟩; replace hE := hE.trans E9))
        go_ret
        exact ⟨rfl, hE⟩
      · have hl := hL2 h h'
        have hd : decide (a < d) = false := decide_eq_false h
        clear hL1 hL2 hL3
        go_enter Try.func7, Try.ntmps7
        go_wp2_with (first | (go_at_call 20; refine (alive03 _).mono ?_; rintro e w1 ⟨rfl, E1⟩; have k := two_blocks E1; have c0 : w1.cell? ⟨w.heap.size, 0, none⟩ = some (.int .i64 a) := k.1 0; have c1 : w1.cell? ⟨w.heap.size, 1, none⟩ = some (.int .i64 b) := k.1 1; have c2 : w1.cell? ⟨w.heap.size + 1, 0, none⟩ = some (.int .i64 d) := k.2.1 0; have c3 : w1.cell? ⟨w.heap.size + 1, 1, none⟩ = some (.int .i64 e) := k.2.1 1; have hE := (((Ext.refl w).alloc _).alloc _).trans E1; clear k E1) | (go_at_call 40; refine (tRightR _ _ _).mono ?_; rintro e w' ⟨rfl, rfl⟩) | (go_at_call 22; refine (tRight _ _ _).mono ?_; rintro e w3 ⟨rfl, E3⟩; replace c0 := E3.of_cell c0; replace c1 := E3.of_cell c1; replace c2 := E3.of_cell c2; replace c3 := E3.of_cell c3; replace hE := hE.trans E3; clear E3) | (go_at_call 41; refine tLess.mono ?_; rintro e w4 ⟨rfl, E4⟩; replace c0 := E4.of_cell c0; replace c1 := E4.of_cell c1; replace c2 := E4.of_cell c2; replace c3 := E4.of_cell c3; replace hE := hE.trans E4; clear E4) | (go_at_call 23; refine (tPut_no hr).mono ?_; rintro e w2 ⟨rfl, E2⟩; replace c0 := E2.of_cell c0; replace c1 := E2.of_cell c1; replace c2 := E2.of_cell c2; replace c3 := E2.of_cell c3; replace hE := hE.trans E2) | (go_at_call 24; refine tSize.mono ?_; rintro e w9 ⟨rfl, E9⟩; replace hE := hE.trans E9))
        go_ret
        exact ⟨rfl, hE⟩
      · have hl := hL3 h h'
        have hd : decide (a < d) = false := decide_eq_false h
        clear hL1 hL2 hL3
        go_enter Try.func7, Try.ntmps7
        go_wp2_with (first | (go_at_call 20; refine (alive03 _).mono ?_; rintro e w1 ⟨rfl, E1⟩; have k := two_blocks E1; have c0 : w1.cell? ⟨w.heap.size, 0, none⟩ = some (.int .i64 a) := k.1 0; have c1 : w1.cell? ⟨w.heap.size, 1, none⟩ = some (.int .i64 b) := k.1 1; have c2 : w1.cell? ⟨w.heap.size + 1, 0, none⟩ = some (.int .i64 d) := k.2.1 0; have c3 : w1.cell? ⟨w.heap.size + 1, 1, none⟩ = some (.int .i64 e) := k.2.1 1; have hE := (((Ext.refl w).alloc _).alloc _).trans E1; clear k E1) | (go_at_call 40; refine (tRightR _ _ _).mono ?_; rintro e w' ⟨rfl, rfl⟩) | (go_at_call 22; refine (tRight _ _ _).mono ?_; rintro e w3 ⟨rfl, E3⟩; replace c0 := E3.of_cell c0; replace c1 := E3.of_cell c1; replace c2 := E3.of_cell c2; replace c3 := E3.of_cell c3; replace hE := hE.trans E3; clear E3) | (go_at_call 41; refine tLess.mono ?_; rintro e w4 ⟨rfl, E4⟩; replace c0 := E4.of_cell c0; replace c1 := E4.of_cell c1; replace c2 := E4.of_cell c2; replace c3 := E4.of_cell c3; replace hE := hE.trans E4; clear E4) | (go_at_call 23; refine (tPut_no hr).mono ?_; rintro e w2 ⟨rfl, E2⟩; replace c0 := E2.of_cell c0; replace c1 := E2.of_cell c1; replace c2 := E2.of_cell c2; replace c3 := E2.of_cell c3; replace hE := hE.trans E2) | (go_at_call 24; refine tSize.mono ?_; rintro e w9 ⟨rfl, E9⟩; replace hE := hE.trans E9))
        go_ret
        exact ⟨rfl, hE⟩

end Go.Proofs.Ytcipokmklkognaa
