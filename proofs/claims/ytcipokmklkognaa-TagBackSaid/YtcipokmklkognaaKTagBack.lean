/- The walk of the law TagBack, out of its callees' contracts. -/
import Derived.Test.YtcipokmklkognaaW3c
import Derived.Test.YtcipokmklkognaaKTagReads
namespace Go.Proofs.Ytcipokmklkognaa
open Go.RowKit
set_option linter.unusedVariables false

theorem tagV_tagB {a b : Int} (h : rightB a b = true) (more : List UInt8) : tagV (tagB a b ++ more) = (a.toNat, b.toNat, (tagB a b).length, 0) := by
  obtain ⟨h1, h2, h3, h4⟩ := right_bd h
  have hv := readV_uvarint (8 * a + b).toNat more (by omega)
  have e1 : (8 * a + b).toNat / 8 = a.toNat := by omega
  have e2 : (8 * a + b).toNat % 8 = b.toNat := by omega
  have ea : ((a.toNat : Nat) : Int) = a := by omega
  have eb : ((b.toNat : Nat) : Int) = b := by omega
  unfold tagV tagB
  rw [hv]
  simp only [e1, e2, ea, eb, h]
  simp

set_option maxHeartbeats 2000000 in
theorem tagBack_walk {A : Option Addr} {n c : Nat} {bs : List UInt8} {a b : Int} {w : World}
    (h1 : (-9223372036854775808 ≤ a ∧ a < 9223372036854775808) ∧ (-9223372036854775808 ≤ b ∧ b < 9223372036854775808)) (hb : BytesAt w A n c bs) :
    Calls Try.prog 4 #[.agg #[.int .i64 a, .int .i64 b], .slice A n c] w fun e w' => e = .returned (.bool true) ∧ Ext w w' := by
  have hmax := Reads.max hb
  have hcap := Reads.cap hb
  unfold maxLen at hmax
  by_cases hn : (2000 : Int) < n
  · go_enter Try.func4, Try.ntmps4
    go_wp2_with (go_at_call 20; refine (alive03 _).mono ?_; rintro e w1 ⟨rfl, E1⟩)
    go_ret
    exact ⟨rfl, ((Ext.refl w).alloc _).trans E1⟩
  · rcases ht : tagV bs with ⟨T, V, N, C⟩
    have hbd := tagV_bd bs
    rw [ht] at hbd
    obtain ⟨hC, hN, hN10, hT, hV, hr0⟩ := hbd
    simp only at hC hN hN10 hT hV hr0
    have Ht := Lib.hid ht
    have Hr0 := Lib.hid hr0
    clear ht hr0 hN
    by_cases hr : rightB a b = true
    · have htl := tagB_length hr
      have hsz : tagSizeN a b = (tagB a b).length := if_pos hr
      obtain ⟨k1, k2, k3, k4⟩ := right_bd hr
      have hv := tagV_tagB hr bs
      have Hv := Lib.hid hv
      have ea : ((a.toNat : Nat) : Int) = a := by omega
      have eb : ((b.toNat : Nat) : Int) = b := by omega
      have hread := fun (W : World) (A' : Option Addr) (n' c' : Nat) (h : BytesAt W A' n' c' (tagB a b ++ bs)) => tRead h hv
      rw [ea, eb] at hread
      have HR := Lib.hid hread
      clear hv ea eb hread
      by_cases hc : C = 0
      · subst hc
        have hrx := (Hr0.out rfl).2
        go_enter Try.func4, Try.ntmps4
        go_wp2_with (first | (go_at_call 20; refine (alive03 _).mono ?_; rintro e w1 ⟨rfl, E1⟩; have k := one_block E1; have c0 : w1.cell? ⟨w.heap.size, 0, none⟩ = some (.int .i64 a) := k.1 0; have c1 : w1.cell? ⟨w.heap.size, 1, none⟩ = some (.int .i64 b) := k.1 1; have hlt : w.heap.size < w1.heap.size := (by have := k.2.2; omega); have hE := ((Ext.refl w).alloc _).trans E1; clear k E1) | (have _t := own6; go_at_call 21; refine (HR.out _ _ _ _ own6.reads).mono ?_; rintro e w7 ⟨rfl, E7⟩; replace c0 := E7.of_cell c0; replace c1 := E7.of_cell c1; have hlt := Nat.lt_of_lt_of_le hlt E7.size; replace hE := hE.trans E7; clear own6) | (go_at_call 21; refine (tRead (hb.ext hE) Ht.out).mono ?_; rintro e w2 ⟨rfl, E2⟩; replace c0 := E2.of_cell c0; replace c1 := E2.of_cell c1; have hlt := Nat.lt_of_lt_of_le hlt E2.size; replace hE := hE.trans E2) | (go_at_call 22; refine (tRight _ _ _).mono ?_; rintro e w3 ⟨rfl, E3⟩; replace E3 := ((Ext.refl _).alloc _).trans E3; replace c0 := E3.of_cell c0; replace c1 := E3.of_cell c1; have hlt := Nat.lt_of_lt_of_le hlt E3.size; replace hE := hE.trans E3) | (go_at_call 23; refine (tPut (BytesAt.nil _) (by omega) hr).mono ?_; rintro e w4 ⟨A4, c4, rfl, own4⟩; simp only [Nat.zero_add, List.nil_append] at own4; replace c0 := own4.ext.of_cell c0; replace c1 := own4.ext.of_cell c1; have hlt := Nat.lt_of_lt_of_le hlt own4.ext.size; replace hE := hE.trans own4.ext) | (at_builtin; refine wpList_more elemB rfl (.tmp 44) (.tmp 45) rfl rfl (Own.empty (Ext.refl _) 5 1) rfl (own4.later ((Ext.refl _).alloc _)).reads (bv_one _) (by omega) (by unfold maxLen; omega) ?_; intro A5 c5 w5 own5 _; simp only [Nat.zero_add, List.nil_append] at own5) | (at_builtin; refine wpList_more elemB rfl (.tmp 46) (.tmp 47) rfl rfl own5 rfl (hb.ext (hE.trans own5.ext)) (bv_one _) (by omega) (by unfold maxLen; omega) ?_; intro A6 c6 w6 own6 _; rw [← List.map_append] at own6; replace hE := hE.trans own6.ext; replace c0 := own6.ext.of_cell c0; replace c1 := own6.ext.of_cell c1; have hlt := Nat.lt_of_lt_of_le hlt own6.ext.size) | (go_at_call 24; refine tSize.mono ?_; rintro e w8 ⟨rfl, E8⟩; replace hE := (hE.alloc _).trans E8))
        go_ret
        exact ⟨ret_bool (decide_eq_true (by omega)), hE⟩
      · have q : ((C : Int) == 0) = false := by simp; omega
        clear hc
        go_enter Try.func4, Try.ntmps4
        go_wp2_with (first | (go_at_call 20; refine (alive03 _).mono ?_; rintro e w1 ⟨rfl, E1⟩; have k := one_block E1; have c0 : w1.cell? ⟨w.heap.size, 0, none⟩ = some (.int .i64 a) := k.1 0; have c1 : w1.cell? ⟨w.heap.size, 1, none⟩ = some (.int .i64 b) := k.1 1; have hlt : w.heap.size < w1.heap.size := (by have := k.2.2; omega); have hE := ((Ext.refl w).alloc _).trans E1; clear k E1) | (have _t := own6; go_at_call 21; refine (HR.out _ _ _ _ own6.reads).mono ?_; rintro e w7 ⟨rfl, E7⟩; replace c0 := E7.of_cell c0; replace c1 := E7.of_cell c1; have hlt := Nat.lt_of_lt_of_le hlt E7.size; replace hE := hE.trans E7; clear own6) | (go_at_call 21; refine (tRead (hb.ext hE) Ht.out).mono ?_; rintro e w2 ⟨rfl, E2⟩; replace c0 := E2.of_cell c0; replace c1 := E2.of_cell c1; have hlt := Nat.lt_of_lt_of_le hlt E2.size; replace hE := hE.trans E2) | (go_at_call 22; refine (tRight _ _ _).mono ?_; rintro e w3 ⟨rfl, E3⟩; replace E3 := ((Ext.refl _).alloc _).trans E3; replace c0 := E3.of_cell c0; replace c1 := E3.of_cell c1; have hlt := Nat.lt_of_lt_of_le hlt E3.size; replace hE := hE.trans E3) | (go_at_call 23; refine (tPut (BytesAt.nil _) (by omega) hr).mono ?_; rintro e w4 ⟨A4, c4, rfl, own4⟩; simp only [Nat.zero_add, List.nil_append] at own4; have F := ((Ext.refl _).alloc _).trans own4.ext; replace c0 := F.of_cell c0; replace c1 := F.of_cell c1; have hlt := Nat.lt_of_lt_of_le hlt F.size; replace hE := hE.trans F; clear F) | (at_builtin; refine wpList_more elemB rfl (.tmp 44) (.tmp 45) rfl rfl (Own.empty (Ext.refl _) 5 1) rfl (own4.later ((Ext.refl _).alloc _)).reads (bv_one _) (by omega) (by unfold maxLen; omega) ?_; intro A5 c5 w5 own5 _; simp only [Nat.zero_add, List.nil_append] at own5) | (at_builtin; refine wpList_more elemB rfl (.tmp 46) (.tmp 47) rfl rfl own5 rfl (hb.ext (hE.trans own5.ext)) (bv_one _) (by omega) (by unfold maxLen; omega) ?_; intro A6 c6 w6 own6 _; rw [← List.map_append] at own6; replace hE := hE.trans own6.ext; replace c0 := own6.ext.of_cell c0; replace c1 := own6.ext.of_cell c1; have hlt := Nat.lt_of_lt_of_le hlt own6.ext.size) | (go_at_call 24; refine tSize.mono ?_; rintro e w8 ⟨rfl, E8⟩; replace hE := (hE.alloc _).trans E8))
        go_ret
        exact ⟨ret_bool (decide_eq_true (by omega)), hE⟩
    · replace hr : rightB a b = false := by simpa using hr
      by_cases hc : C = 0
      · subst hc
        have hrx := (Hr0.out rfl).2
        go_enter Try.func4, Try.ntmps4
        go_wp2_with (first | (go_at_call 20; refine (alive03 _).mono ?_; rintro e w1 ⟨rfl, E1⟩; have k := one_block E1; have c0 : w1.cell? ⟨w.heap.size, 0, none⟩ = some (.int .i64 a) := k.1 0; have c1 : w1.cell? ⟨w.heap.size, 1, none⟩ = some (.int .i64 b) := k.1 1; have hlt : w.heap.size < w1.heap.size := (by have := k.2.2; omega); have hE := ((Ext.refl w).alloc _).trans E1; clear k E1) | (go_at_call 21; refine (tRead (hb.ext hE) Ht.out).mono ?_; rintro e w2 ⟨rfl, E2⟩; replace c0 := E2.of_cell c0; replace c1 := E2.of_cell c1; have hlt := Nat.lt_of_lt_of_le hlt E2.size; replace hE := hE.trans E2) | (have _t := E4; go_at_call 22; refine (tRight _ _ _).mono ?_; rintro e w9 ⟨rfl, E9⟩; replace hE := hE.trans E9) | (go_at_call 22; refine (tRight _ _ _).mono ?_; rintro e w3 ⟨rfl, E3⟩; replace E3 := ((Ext.refl _).alloc _).trans E3; replace c0 := E3.of_cell c0; replace c1 := E3.of_cell c1; have hlt := Nat.lt_of_lt_of_le hlt E3.size; replace hE := hE.trans E3) | (go_at_call 23; refine (tPut_no hr).mono ?_; rintro e w4 ⟨rfl, E4⟩; replace c0 := E4.of_cell c0; replace c1 := E4.of_cell c1; replace hE := hE.trans E4))
        go_ret
        exact ⟨rfl, hE⟩
      · have q : ((C : Int) == 0) = false := by simp; omega
        clear hc
        go_enter Try.func4, Try.ntmps4
        go_wp2_with (first | (go_at_call 20; refine (alive03 _).mono ?_; rintro e w1 ⟨rfl, E1⟩; have k := one_block E1; have c0 : w1.cell? ⟨w.heap.size, 0, none⟩ = some (.int .i64 a) := k.1 0; have c1 : w1.cell? ⟨w.heap.size, 1, none⟩ = some (.int .i64 b) := k.1 1; have hlt : w.heap.size < w1.heap.size := (by have := k.2.2; omega); have hE := ((Ext.refl w).alloc _).trans E1; clear k E1) | (go_at_call 21; refine (tRead (hb.ext hE) Ht.out).mono ?_; rintro e w2 ⟨rfl, E2⟩; replace c0 := E2.of_cell c0; replace c1 := E2.of_cell c1; have hlt := Nat.lt_of_lt_of_le hlt E2.size; replace hE := hE.trans E2) | (go_at_call 22; refine (tRight _ _ _).mono ?_; rintro e w9 ⟨rfl, E9⟩; replace hE := hE.trans E9) | (go_at_call 23; refine (tPut_no hr).mono ?_; rintro e w4 ⟨rfl, E4⟩; replace E4 := ((Ext.refl _).alloc _).trans E4; replace c0 := E4.of_cell c0; replace c1 := E4.of_cell c1; replace hE := hE.trans E4))
        go_ret
        exact ⟨rfl, hE⟩

end Go.Proofs.Ytcipokmklkognaa
